/- Lemmas, each as it is printed; no conditions but those printed. -/
import Derived.Test.YtojghojlapgbiaaGreatDoorWB17
import Derived.Great.Walk
namespace Go.Proofs.YtojghojlapgbiaaGreatDoor
set_option maxHeartbeats 16000000
open Go.RowKit Cal Str Tok Frac Txt Tree
attribute [local go_sem] calmUpon
set_option linter.unusedVariables false
set_option linter.unusedSimpArgs false
def laterS : ByteArray := ⟨#[108, 97, 116, 101, 114]⟩
def laterX : Ex := .mk 2 0 0 0 laterS 0 (fun _ => .no)
theorem later_tx (P : Nat → Prop) (w : World) : TxB P w (laterX, .slice none 0 0) :=
 ⟨⟨⟨by decide, by decide, by decide, by decide, by decide, by decide, by decide, by decide, by decide⟩, by decide, none, 0, rfl, fun h => absurd h (by decide)⟩, by show laterX.size ≤ _; unfold laterX; rw [size_mk]; simp [smK]⟩
set_option maxRecDepth 20000 in
theorem twist_0 (BO b0 b1 b2 b3 b4 b5 : Nat) (m : VerM) (w W : World) (hR : Rel w W) (hB : Blk W BO 36 (verC m)) (hw : w.heap.size ≤ BO) (hb : BO < b0) (hI : VerI b0 b1 b2 b3 b4 b5 W m) (hO : OwnsV b0 b1 b2 b3 W m) : TwRes BO b0 b1 b2 b3 b4 b5 m w W 0 := by
 unfold TwRes;have x6 := hB.c (j := 6) rfl;have bl := hB.lt;have HB := Hj hB;have HO := Hj hO;have HI := Hj hI;have HR := Hj hR;clear hB hO hI hR;obtain ⟨N, hN⟩ : ∃ N, m.gr.length = N := ⟨_, rfl⟩;rw [hN] at x6;by_cases hlt : 0 < N
 ·have e1 : decide ((0 : Int) < (N : Int)) = true := dT (by omega);have i0 : (0 : Int) < (N : Int) := by omega
  obtain ⟨g, hg, g0, g1, g2⟩ := own_block_lt HO.out.g HI.out.r3 (by omega) (by rw [flat_len grC_len]; omega);have i1 : 0 < N := by omega
  have go : b0 ≤ g := by have := HI.out.o1; have := HI.out.o2; have := HI.out.o3; omega
  have R0 := HO.out.g;rw [hg] at x6 R0
  obtain ⟨p, L, hl⟩ : ∃ p L, m.gr = p :: L := by
   cases h : m.gr with
   | nil => rw [h] at hN; simp at hN; omega
   | cons p L => exact ⟨p, L, rfl⟩
  have hm : ∀ x ∈ m.gr, x = p ∨ x ∈ m.gr := fun x hx => .inr hx
  have hp : p ∈ m.gr := by rw [hl]; simp
  obtain ⟨b, ⟨t', tv⟩, ⟨u', uv⟩⟩ := p;obtain ⟨xa, xc, hx⟩ := kids_slice (kidsB_to (HI.out.b3' _ hp).2.1.1);simp only at hx;subst hx;have hLm : ∀ x ∈ L, x ∈ m.gr := fun x hx => by rw [hl]; simp [hx]
  have hNl : m.gr.length = (((b, (t', .slice xa t'.cnt xc), (t', .slice xa t'.cnt xc)) : Int × (Ex × Value) × (Ex × Value)) :: L).length := by rw [hl]; rfl
  have R1 := R0;rw [hl] at R1;have OWN := Hj R1
  have NEWROW : ∀ (X : World), (X.ownsRow b3 77 13 (.slice (some ⟨g, 0, none⟩) (((b, (t', .slice xa t'.cnt xc), (t', .slice xa t'.cnt xc)) : Int × (Ex × Value) × (Ex × Value)) :: L).length m.gc) (((b, (t', .slice xa t'.cnt xc), (t', .slice xa t'.cnt xc)) : Int × (Ex × Value) × (Ex × Value)) :: L).length ((((b, (t', .slice xa t'.cnt xc), (t', .slice xa t'.cnt xc)) : Int × (Ex × Value) × (Ex × Value)) :: L).flatMap grC)) → Ro g W X → VerI b0 b1 b2 b3 b4 b5 X { m with gr := ((b, (t', .slice xa t'.cnt xc), (t', .slice xa t'.cnt xc)) : Int × (Ex × Value) × (Ex × Value)) :: L } := fun X hx r => by
   have n0 := HI.out.n3;refine HI.out.newG r ⟨g0, g1⟩ (offB_self hg) (by rw [hg]; exact RowB.at' hx g1) (by rw [← hNl]; exact n0) (by rw [← hNl]; exact HI.out.q3) (fun x hx => ?_)
   rcases List.mem_cons.1 hx with rfl | hx
   ·exact ⟨(HI.out.b3' _ hp).1, (HI.out.b3' _ hp).2.1, (HI.out.b3' _ hp).2.1⟩
   ·exact HI.out.b3' _ (hLm _ hx)
  have LA : ∀ b, Value.ownBlock (.slice m.la m.le.length m.lc) = some b → ¬ b = g := fun b hb e => by have := HO.out.lg b hb; omega
  have NR := Hj NEWROW;clear NEWROW R0 R1 hm;have RC := Hj fun (X : World) (r : Rel W X) => own_rel' OWN.out r
  have SC : Hid (∀ X, Rel W X → (X.cell? ⟨BO, 6, none⟩ = some (.slice (some ⟨g, 0, none⟩) N m.gc) ∧ X.cell? ⟨g, 1, none⟩ = some (.int .i64 t'.op) ∧ X.cell? ⟨g, 2, none⟩ = some (.int .i64 t'.va) ∧ X.cell? ⟨g, 3, none⟩ = some (.int .i64 t'.vb) ∧ X.cell? ⟨g, 4, none⟩ = some (.int .i64 t'.dm) ∧ X.cell? ⟨g, 5, none⟩ = some (.string t'.nm) ∧ X.cell? ⟨g, 6, none⟩ = some (.slice xa t'.cnt xc))) := fun X r => ⟨r.cell x6, ((RC.out X r).cellAt 1 (by first | (simp; done) | (simp; omega))).trans rfl, ((RC.out X r).cellAt 2 (by first | (simp; done) | (simp; omega))).trans rfl, ((RC.out X r).cellAt 3 (by first | (simp; done) | (simp; omega))).trans rfl, ((RC.out X r).cellAt 4 (by first | (simp; done) | (simp; omega))).trans rfl, ((RC.out X r).cellAt 5 (by first | (simp; done) | (simp; omega))).trans rfl, ((RC.out X r).cellAt 6 (by first | (simp; done) | (simp; omega))).trans rfl⟩
  go_enter Tryz.func62, Tryz.ntmps62;go_wp2_with fail;refine wp_region_calm (fun M w' => M.getD 13 false = false → w'.cell? ⟨BO, 6, none⟩ = some (.slice (some ⟨g, 0, none⟩) N m.gc) ∧ w'.cell? ⟨g, 1, none⟩ = some (.int .i64 t'.op) ∧ w'.cell? ⟨g, 2, none⟩ = some (.int .i64 t'.va) ∧ w'.cell? ⟨g, 3, none⟩ = some (.int .i64 t'.vb) ∧ w'.cell? ⟨g, 4, none⟩ = some (.int .i64 t'.dm) ∧ w'.cell? ⟨g, 5, none⟩ = some (.string t'.nm) ∧ w'.cell? ⟨g, 6, none⟩ = some (.slice xa t'.cnt xc)) (fun i => i == 13) [0, 1, 2, 3, 4, 5, 6, 7, 8, 9, 10, 11, 12] 1 (by kernel_rfl) (by kernel_rfl) ?hst ?hS0 (fun w0 h0 => ?_)
  case hst => exact fun _ _ _ h r hM => ⟨r.cell (h hM).1, r.cell (h hM).2.1, r.cell (h hM).2.2.1, r.cell (h hM).2.2.2.1, r.cell (h hM).2.2.2.2.1, r.cell (h hM).2.2.2.2.2.1, r.cell (h hM).2.2.2.2.2.2⟩
  case hS0 => exact fun _ => SC.out _ (Rel.refl _)
  iterate 13
   refine wpCalm_go rfl (by kernel_rfl) (fun K hK => ?_);apply Exists.intro;refine ⟨fun M w hM hS => ?_, hK _ ?_⟩
   ·have hS := hS (hM 13 (by kernel_rfl));have d0 := hS.1;have d1 := hS.2.1;have d2 := hS.2.2.1;have d3 := hS.2.2.2.1;have d4 := hS.2.2.2.2.1;have d5 := hS.2.2.2.2.2.1;have d6 := hS.2.2.2.2.2.2;unfold calmAt;go_simp;exact ⟨rfl, Rel.refl _⟩
   clear hK K
  refine wpCalm_nil ?_;refine wpAnyR_ready (rs := [13]) (by kernel_rfl) (by simp) (AllR.cons rfl (fun w4 h4 K' hK' => ?_) AllR.nil);have R4 : Hid (Rel W w4) := h0.trans h4;clear h0 h4;have O4 := Hj (RC.out _ R4.out);have c7 : w4.cell? ⟨g, 7, none⟩ = some (.int .i64 u'.op) := (O4.out.cellAt 7 (by first | (simp; done) | (simp; omega))).trans rfl;have f7 := O4.out.frozenAt 7;have c8 : w4.cell? ⟨g, 8, none⟩ = some (.int .i64 u'.va) := (O4.out.cellAt 8 (by first | (simp; done) | (simp; omega))).trans rfl;have f8 := O4.out.frozenAt 8;have c9 : w4.cell? ⟨g, 9, none⟩ = some (.int .i64 u'.vb) := (O4.out.cellAt 9 (by first | (simp; done) | (simp; omega))).trans rfl;have f9 := O4.out.frozenAt 9;have c10 : w4.cell? ⟨g, 10, none⟩ = some (.int .i64 u'.dm) := (O4.out.cellAt 10 (by first | (simp; done) | (simp; omega))).trans rfl;have f10 := O4.out.frozenAt 10;have c11 : w4.cell? ⟨g, 11, none⟩ = some (.string u'.nm) := (O4.out.cellAt 11 (by first | (simp; done) | (simp; omega))).trans rfl;have f11 := O4.out.frozenAt 11;have c12 : w4.cell? ⟨g, 12, none⟩ = some (uv) := (O4.out.cellAt 12 (by first | (simp; done) | (simp; omega))).trans rfl;have f12 := O4.out.frozenAt 12;have gl : g < w4.heap.size := by have := R4.out.size; omega
  go_simp;refine hK'.out _ _ (fun h => absurd (h.symm.trans (by kernel_rfl : _ = true)) (by simp)) ?_;clear hK' K';refine wpAnyR_end (by kernel_rfl) (fun w5 h5 => ?_);have H5 := Hj h5;clear h5;have O6 : Hid (World.ownsRow ((((((w4.setCell ⟨g, 7, none⟩ (.int .i64 t'.op)).setCell ⟨g, 8, none⟩ (.int .i64 t'.va)).setCell ⟨g, 9, none⟩ (.int .i64 t'.vb)).setCell ⟨g, 10, none⟩ (.int .i64 t'.dm)).setCell ⟨g, 11, none⟩ (.string t'.nm)).setCell ⟨g, 12, none⟩ (.slice xa t'.cnt xc)) b3 77 13 (.slice (some ⟨g, 0, none⟩) (((b, (t', .slice xa t'.cnt xc), (t', .slice xa t'.cnt xc)) : Int × (Ex × Value) × (Ex × Value)) :: L).length m.gc) (((b, (t', .slice xa t'.cnt xc), (t', .slice xa t'.cnt xc)) : Int × (Ex × Value) × (Ex × Value)) :: L).length ((((b, (t', .slice xa t'.cnt xc), (t', .slice xa t'.cnt xc)) : Int × (Ex × Value) × (Ex × Value)) :: L).flatMap grC)) := ((((((O4.out.stored 7 (.int .i64 t'.op)).1.stored 8 (.int .i64 t'.va)).1.stored 9 (.int .i64 t'.vb)).1.stored 10 (.int .i64 t'.dm)).1.stored 11 (.string t'.nm)).1.stored 12 (.slice xa t'.cnt xc)).1;have Q6 : Hid (Ro g W ((((((w4.setCell ⟨g, 7, none⟩ (.int .i64 t'.op)).setCell ⟨g, 8, none⟩ (.int .i64 t'.va)).setCell ⟨g, 9, none⟩ (.int .i64 t'.vb)).setCell ⟨g, 10, none⟩ (.int .i64 t'.dm)).setCell ⟨g, 11, none⟩ (.string t'.nm)).setCell ⟨g, 12, none⟩ (.slice xa t'.cnt xc))) := (Ro.set (Ro.set (Ro.set (Ro.set (Ro.set (Ro.set (Ro.of R4.out) 7 (.int .i64 t'.op)) 8 (.int .i64 t'.va)) 9 (.int .i64 t'.vb)) 10 (.int .i64 t'.dm)) 11 (.string t'.nm)) 12 (.slice xa t'.cnt xc));have L6 : Hid (Rel w ((((((w4.setCell ⟨g, 7, none⟩ (.int .i64 t'.op)).setCell ⟨g, 8, none⟩ (.int .i64 t'.va)).setCell ⟨g, 9, none⟩ (.int .i64 t'.vb)).setCell ⟨g, 10, none⟩ (.int .i64 t'.dm)).setCell ⟨g, 11, none⟩ (.string t'.nm)).setCell ⟨g, 12, none⟩ (.slice xa t'.cnt xc))) := (Rel.setCell (Rel.setCell (Rel.setCell (Rel.setCell (Rel.setCell (Rel.setCell (HR.out.trans R4.out) (p := ⟨g, 7, none⟩) (show w.heap.size ≤ g by omega) (.int .i64 t'.op)) (p := ⟨g, 8, none⟩) (show w.heap.size ≤ g by omega) (.int .i64 t'.va)) (p := ⟨g, 9, none⟩) (show w.heap.size ≤ g by omega) (.int .i64 t'.vb)) (p := ⟨g, 10, none⟩) (show w.heap.size ≤ g by omega) (.int .i64 t'.dm)) (p := ⟨g, 11, none⟩) (show w.heap.size ≤ g by omega) (.string t'.nm)) (p := ⟨g, 12, none⟩) (show w.heap.size ≤ g by omega) (.slice xa t'.cnt xc));have O7 := Hj (own_rel' O6.out H5.out);have Q7 := Hj (Q6.out.trans (Ro.of H5.out));have L7 := Hj (L6.out.trans H5.out);clear O6 Q6 L6;go_wp2_with fail
  have OL7 : Hid (World.ownsRow _ b2 74 7 (.slice m.la m.le.length m.lc) m.le.length (m.le.flatMap leC)) := HO.out.l.kept Q7.out.grownBy (by
   rcases Option.eq_none_or_eq_some (Value.ownBlock (.slice m.la m.le.length m.lc)) with h | ⟨b, h⟩
   ·exact .inl h
   ·right; rw [h]; intro e; injection e with e; exact LA b h e)
  refine Go.Great.bodyPost_end0 rfl rfl ⟨⟨_, rfl⟩, { m with gr := ((b, (t', .slice xa t'.cnt xc), (t', .slice xa t'.cnt xc)) : Int × (Ex × Value) × (Ex × Value)) :: L }, ?_, NR.out _ O7.out Q7.out, OL7.out, L7.out, ⟨Q7.out.size, fun q h1 h2 => Q7.out.block q h1 (by omega)⟩, rfl, ?_⟩
  ·have := HB.out.ro Q7.out (show BO ≠ g by omega);unfold verC at this ⊢;rw [show m.gr.length = _ from hNl] at this;exact this
  ·rfl
 ·have e1 : decide ((0 : Int) < (N : Int)) = false := dF (by omega);go_enter Tryz.func62, Tryz.ntmps62;((try simp only []); (repeat (first | go_values | go_skip | go_guarded | go_step | go_upon | go_in)));exact Go.Great.bodyPost_end0 rfl rfl ⟨⟨_, rfl⟩, m, HB.out, HI.out, HO.out.l, HR.out, ⟨Nat.le_refl _, fun q _ _ => rfl⟩, rfl, rfl⟩
set_option maxRecDepth 20000 in
theorem twist_1 (BO b0 b1 b2 b3 b4 b5 : Nat) (m : VerM) (w W : World) (hR : Rel w W) (hB : Blk W BO 36 (verC m)) (hw : w.heap.size ≤ BO) (hb : BO < b0) (hI : VerI b0 b1 b2 b3 b4 b5 W m) (hO : OwnsV b0 b1 b2 b3 W m) : TwRes BO b0 b1 b2 b3 b4 b5 m w W 1 := by
 unfold TwRes;have x6 := hB.c (j := 6) rfl;have bl := hB.lt;have HB := Hj hB;have HO := Hj hO;have HI := Hj hI;have HR := Hj hR;clear hB hO hI hR;obtain ⟨N, hN⟩ : ∃ N, m.gr.length = N := ⟨_, rfl⟩;rw [hN] at x6;by_cases hlt : 1 < N
 ·have e1 : decide ((1 : Int) < (N : Int)) = true := dT (by omega);have i0 : (1 : Int) < (N : Int) := by omega
  obtain ⟨g, hg, g0, g1, g2⟩ := own_block_lt HO.out.g HI.out.r3 (by omega) (by rw [flat_len grC_len]; omega);have i1 : 0 < N := by omega
  have go : b0 ≤ g := by have := HI.out.o1; have := HI.out.o2; have := HI.out.o3; omega
  have R0 := HO.out.g;rw [hg] at x6 R0
  obtain ⟨p, q, L, hl⟩ : ∃ p q L, m.gr = p :: q :: L := by
   cases h : m.gr with
   | nil => rw [h] at hN; simp at hN; omega
   | cons p L =>
    cases L with
    | nil => rw [h] at hN; simp at hN; omega
    | cons q L => exact ⟨p, q, L, rfl⟩
  have hm : ∀ x ∈ m.gr, x = p ∨ x ∈ m.gr := fun x hx => .inr hx
  have hp : p ∈ m.gr := by rw [hl]; simp
  have hq : q ∈ m.gr := by rw [hl]; simp
  have hLm : ∀ x ∈ L, x ∈ m.gr := fun x hx => by rw [hl]; simp [hx]
  have hNl : m.gr.length = (p :: (p.1, q.2.1, q.2.2) :: L).length := by rw [hl]; rfl
  have R1 := R0;rw [hl] at R1;have OWN := Hj R1
  have NEWROW : ∀ (X : World), (X.ownsRow b3 77 13 (.slice (some ⟨g, 0, none⟩) (p :: (p.1, q.2.1, q.2.2) :: L).length m.gc) (p :: (p.1, q.2.1, q.2.2) :: L).length ((p :: (p.1, q.2.1, q.2.2) :: L).flatMap grC)) → Ro g W X → VerI b0 b1 b2 b3 b4 b5 X { m with gr := p :: (p.1, q.2.1, q.2.2) :: L } := fun X hx r => by
   have n0 := HI.out.n3;refine HI.out.newG r ⟨g0, g1⟩ (offB_self hg) (by rw [hg]; exact RowB.at' hx g1) (by rw [← hNl]; exact n0) (by rw [← hNl]; exact HI.out.q3) (fun x hx => ?_)
   rcases List.mem_cons.1 hx with rfl | hx
   ·exact HI.out.b3' _ hp
   rcases List.mem_cons.1 hx with rfl | hx
   ·exact ⟨(HI.out.b3' _ hp).1, (HI.out.b3' _ hq).2.1, (HI.out.b3' _ hq).2.2⟩
   ·exact HI.out.b3' _ (hLm _ hx)
  have LA : ∀ b, Value.ownBlock (.slice m.la m.le.length m.lc) = some b → ¬ b = g := fun b hb e => by have := HO.out.lg b hb; omega
  have NR := Hj NEWROW;clear NEWROW R0 R1 hm;have RC := Hj fun (X : World) (r : Rel W X) => own_rel' OWN.out r
  have SC : Hid (∀ X, Rel W X → (X.cell? ⟨BO, 6, none⟩ = some (.slice (some ⟨g, 0, none⟩) N m.gc) ∧ X.cell? ⟨g, 0, none⟩ = some (.int .i64 p.1))) := fun X r => ⟨r.cell x6, ((RC.out X r).cellAt 0 (by first | (simp; done) | (simp; omega))).trans rfl⟩
  go_enter Tryz.func62, Tryz.ntmps62;go_wp2_with fail;refine wp_region_calm (fun M w' => M.getD 13 false = false → w'.cell? ⟨BO, 6, none⟩ = some (.slice (some ⟨g, 0, none⟩) N m.gc) ∧ w'.cell? ⟨g, 0, none⟩ = some (.int .i64 p.1)) (fun i => i == 13) [0, 1, 2, 3, 4, 5, 6, 7, 8, 9, 10, 11, 12] 1 (by kernel_rfl) (by kernel_rfl) ?hst ?hS0 (fun w0 h0 => ?_)
  case hst => exact fun _ _ _ h r hM => ⟨r.cell (h hM).1, r.cell (h hM).2⟩
  case hS0 => exact fun _ => SC.out _ (Rel.refl _)
  iterate 13
   refine wpCalm_go rfl (by kernel_rfl) (fun K hK => ?_);apply Exists.intro;refine ⟨fun M w hM hS => ?_, hK _ ?_⟩
   ·have hS := hS (hM 13 (by kernel_rfl));have d0 := hS.1;have d1 := hS.2;unfold calmAt;go_simp;exact ⟨rfl, Rel.refl _⟩
   clear hK K
  refine wpCalm_nil ?_;refine wpAnyR_ready (rs := [13]) (by kernel_rfl) (by simp) (AllR.cons rfl (fun w4 h4 K' hK' => ?_) AllR.nil);have R4 : Hid (Rel W w4) := h0.trans h4;clear h0 h4;have O4 := Hj (RC.out _ R4.out);have c13 : w4.cell? ⟨g, 13, none⟩ = some (.int .i64 q.1) := (O4.out.cellAt 13 (by first | (simp; done) | (simp; omega))).trans rfl;have f13 := O4.out.frozenAt 13;have gl : g < w4.heap.size := by have := R4.out.size; omega
  go_simp;refine hK'.out _ _ (fun h => absurd (h.symm.trans (by kernel_rfl : _ = true)) (by simp)) ?_;clear hK' K';refine wpAnyR_end (by kernel_rfl) (fun w5 h5 => ?_);have H5 := Hj h5;clear h5;have O6 : Hid (World.ownsRow (w4.setCell ⟨g, 13, none⟩ (.int .i64 p.1)) b3 77 13 (.slice (some ⟨g, 0, none⟩) (p :: (p.1, q.2.1, q.2.2) :: L).length m.gc) (p :: (p.1, q.2.1, q.2.2) :: L).length ((p :: (p.1, q.2.1, q.2.2) :: L).flatMap grC)) := (O4.out.stored 13 (.int .i64 p.1)).1;have Q6 : Hid (Ro g W (w4.setCell ⟨g, 13, none⟩ (.int .i64 p.1))) := (Ro.set (Ro.of R4.out) 13 (.int .i64 p.1));have L6 : Hid (Rel w (w4.setCell ⟨g, 13, none⟩ (.int .i64 p.1))) := (Rel.setCell (HR.out.trans R4.out) (p := ⟨g, 13, none⟩) (show w.heap.size ≤ g by omega) (.int .i64 p.1));have O7 := Hj (own_rel' O6.out H5.out);have Q7 := Hj (Q6.out.trans (Ro.of H5.out));have L7 := Hj (L6.out.trans H5.out);clear O6 Q6 L6;go_wp2_with fail
  have OL7 : Hid (World.ownsRow _ b2 74 7 (.slice m.la m.le.length m.lc) m.le.length (m.le.flatMap leC)) := HO.out.l.kept Q7.out.grownBy (by
   rcases Option.eq_none_or_eq_some (Value.ownBlock (.slice m.la m.le.length m.lc)) with h | ⟨b, h⟩
   ·exact .inl h
   ·right; rw [h]; intro e; injection e with e; exact LA b h e)
  refine Go.Great.bodyPost_end0 rfl rfl ⟨⟨_, rfl⟩, { m with gr := p :: (p.1, q.2.1, q.2.2) :: L }, ?_, NR.out _ O7.out Q7.out, OL7.out, L7.out, ⟨Q7.out.size, fun q h1 h2 => Q7.out.block q h1 (by omega)⟩, rfl, ?_⟩
  ·have := HB.out.ro Q7.out (show BO ≠ g by omega);unfold verC at this ⊢;rw [show m.gr.length = _ from hNl] at this;exact this
  ·rfl
 ·have e1 : decide ((1 : Int) < (N : Int)) = false := dF (by omega);go_enter Tryz.func62, Tryz.ntmps62;((try simp only []); (repeat (first | go_values | go_skip | go_guarded | go_step | go_upon | go_in)));exact Go.Great.bodyPost_end0 rfl rfl ⟨⟨_, rfl⟩, m, HB.out, HI.out, HO.out.l, HR.out, ⟨Nat.le_refl _, fun q _ _ => rfl⟩, rfl, rfl⟩
set_option maxRecDepth 20000 in
theorem twist_2 (BO b0 b1 b2 b3 b4 b5 : Nat) (m : VerM) (w W : World) (hR : Rel w W) (hB : Blk W BO 36 (verC m)) (hw : w.heap.size ≤ BO) (hb : BO < b0) (hI : VerI b0 b1 b2 b3 b4 b5 W m) (hO : OwnsV b0 b1 b2 b3 W m) : TwRes BO b0 b1 b2 b3 b4 b5 m w W 2 := by
 unfold TwRes;have x5 := hB.c (j := 5) rfl;have bl := hB.lt;have HB := Hj hB;have HO := Hj hO;have HI := Hj hI;have HR := Hj hR;clear hB hO hI hR;obtain ⟨N, hN⟩ : ∃ N, m.le.length = N := ⟨_, rfl⟩;rw [hN] at x5;by_cases hlt : 1 < N
 ·have e1 : decide ((1 : Int) < (N : Int)) = true := dT (by omega);have i0 : (1 : Int) < (N : Int) := by omega
  obtain ⟨g, hg, g0, g1, g2⟩ := own_block_lt HO.out.l HI.out.r2 (by omega) (by rw [flat_len leC_len]; omega);have i1 : 0 < N := by omega
  have go : b0 ≤ g := by have := HI.out.o1; have := HI.out.o2; have := HI.out.o3; omega
  have R0 := HO.out.l;rw [hg] at x5 R0
  obtain ⟨p, q, L, hl⟩ : ∃ p q L, m.le = p :: q :: L := by
   cases h : m.le with
   | nil => rw [h] at hN; simp at hN; omega
   | cons p L =>
    cases L with
    | nil => rw [h] at hN; simp at hN; omega
    | cons q L => exact ⟨p, q, L, rfl⟩
  have hm : ∀ x ∈ m.le, x = p ∨ x ∈ m.le := fun x hx => .inr hx
  have hp : p ∈ m.le := by rw [hl]; simp
  have hq : q ∈ m.le := by rw [hl]; simp
  have hLm : ∀ x ∈ L, x ∈ m.le := fun x hx => by rw [hl]; simp [hx]
  have hNl : m.le.length = (p :: (p.1, q.2) :: L).length := by rw [hl]; rfl
  have R1 := R0;rw [hl] at R1;have OWN := Hj R1
  have NEWROW : ∀ (X : World), (X.ownsRow b2 74 7 (.slice (some ⟨g, 0, none⟩) (p :: (p.1, q.2) :: L).length m.lc) (p :: (p.1, q.2) :: L).length ((p :: (p.1, q.2) :: L).flatMap leC)) → Ro g W X → VerI b0 b1 b2 b3 b4 b5 X { m with le := p :: (p.1, q.2) :: L } := fun X hx r => by
   have n0 := HI.out.n2;refine HI.out.newL r ⟨g0, g1⟩ (offB_self hg) (by rw [hg]; exact RowB.at' hx g1) (by rw [← hNl]; exact n0) (by rw [← hNl]; exact HI.out.q2) (fun x hx => ?_)
   rcases List.mem_cons.1 hx with rfl | hx
   ·exact HI.out.b2' _ hp
   rcases List.mem_cons.1 hx with rfl | hx
   ·exact ⟨(HI.out.b2' _ hp).1, (HI.out.b2' _ hq).2⟩
   ·exact HI.out.b2' _ (hLm _ hx)
  have NR := Hj NEWROW;clear NEWROW R0 R1 hm;have RC := Hj fun (X : World) (r : Rel W X) => own_rel' OWN.out r
  have SC : Hid (∀ X, Rel W X → (X.cell? ⟨BO, 5, none⟩ = some (.slice (some ⟨g, 0, none⟩) N m.lc) ∧ X.cell? ⟨g, 0, none⟩ = some (.string p.1))) := fun X r => ⟨r.cell x5, ((RC.out X r).cellAt 0 (by first | (simp; done) | (simp; omega))).trans rfl⟩
  go_enter Tryz.func62, Tryz.ntmps62;go_wp2_with fail;refine wp_region_calm (fun M w' => M.getD 13 false = false → w'.cell? ⟨BO, 5, none⟩ = some (.slice (some ⟨g, 0, none⟩) N m.lc) ∧ w'.cell? ⟨g, 0, none⟩ = some (.string p.1)) (fun i => i == 13) [0, 1, 2, 3, 4, 5, 6, 7, 8, 9, 10, 11, 12] 1 (by kernel_rfl) (by kernel_rfl) ?hst ?hS0 (fun w0 h0 => ?_)
  case hst => exact fun _ _ _ h r hM => ⟨r.cell (h hM).1, r.cell (h hM).2⟩
  case hS0 => exact fun _ => SC.out _ (Rel.refl _)
  iterate 13
   refine wpCalm_go rfl (by kernel_rfl) (fun K hK => ?_);apply Exists.intro;refine ⟨fun M w hM hS => ?_, hK _ ?_⟩
   ·have hS := hS (hM 13 (by kernel_rfl));have d0 := hS.1;have d1 := hS.2;unfold calmAt;go_simp;exact ⟨rfl, Rel.refl _⟩
   clear hK K
  refine wpCalm_nil ?_;refine wpAnyR_ready (rs := [13]) (by kernel_rfl) (by simp) (AllR.cons rfl (fun w4 h4 K' hK' => ?_) AllR.nil);have R4 : Hid (Rel W w4) := h0.trans h4;clear h0 h4;have O4 := Hj (RC.out _ R4.out);have c7 : w4.cell? ⟨g, 7, none⟩ = some (.string q.1) := (O4.out.cellAt 7 (by first | (simp; done) | (simp; omega))).trans rfl;have f7 := O4.out.frozenAt 7;have gl : g < w4.heap.size := by have := R4.out.size; omega
  go_simp;refine hK'.out _ _ (fun h => absurd (h.symm.trans (by kernel_rfl : _ = true)) (by simp)) ?_;clear hK' K';refine wpAnyR_end (by kernel_rfl) (fun w5 h5 => ?_);have H5 := Hj h5;clear h5;have O6 : Hid (World.ownsRow (w4.setCell ⟨g, 7, none⟩ (.string p.1)) b2 74 7 (.slice (some ⟨g, 0, none⟩) (p :: (p.1, q.2) :: L).length m.lc) (p :: (p.1, q.2) :: L).length ((p :: (p.1, q.2) :: L).flatMap leC)) := (O4.out.stored 7 (.string p.1)).1;have Q6 : Hid (Ro g W (w4.setCell ⟨g, 7, none⟩ (.string p.1))) := (Ro.set (Ro.of R4.out) 7 (.string p.1));have L6 : Hid (Rel w (w4.setCell ⟨g, 7, none⟩ (.string p.1))) := (Rel.setCell (HR.out.trans R4.out) (p := ⟨g, 7, none⟩) (show w.heap.size ≤ g by omega) (.string p.1));have O7 := Hj (own_rel' O6.out H5.out);have Q7 := Hj (Q6.out.trans (Ro.of H5.out));have L7 := Hj (L6.out.trans H5.out);clear O6 Q6 L6;go_wp2_with fail;refine Go.Great.bodyPost_end0 rfl rfl ⟨⟨_, rfl⟩, { m with le := p :: (p.1, q.2) :: L }, ?_, NR.out _ O7.out Q7.out, by show World.ownsRow _ _ _ _ _ _ _; rw [show m.la = _ from hg]; exact O7.out, L7.out, ⟨Q7.out.size, fun q h1 h2 => Q7.out.block q h1 (by omega)⟩, rfl, ?_⟩
  ·have := HB.out.ro Q7.out (show BO ≠ g by omega);unfold verC at this ⊢;rw [show m.le.length = _ from hNl] at this;exact this
  ·exact hNl.symm
 ·have e1 : decide ((1 : Int) < (N : Int)) = false := dF (by omega);go_enter Tryz.func62, Tryz.ntmps62;((try simp only []); (repeat (first | go_values | go_skip | go_guarded | go_step | go_upon | go_in)));exact Go.Great.bodyPost_end0 rfl rfl ⟨⟨_, rfl⟩, m, HB.out, HI.out, HO.out.l, HR.out, ⟨Nat.le_refl _, fun q _ _ => rfl⟩, rfl, rfl⟩
set_option maxRecDepth 20000 in
theorem twist_3 (BO b0 b1 b2 b3 b4 b5 : Nat) (m : VerM) (w W : World) (hR : Rel w W) (hB : Blk W BO 36 (verC m)) (hw : w.heap.size ≤ BO) (hb : BO < b0) (hI : VerI b0 b1 b2 b3 b4 b5 W m) (hO : OwnsV b0 b1 b2 b3 W m) : TwRes BO b0 b1 b2 b3 b4 b5 m w W 3 := by
 unfold TwRes;have x5 := hB.c (j := 5) rfl;have bl := hB.lt;have HB := Hj hB;have HO := Hj hO;have HI := Hj hI;have HR := Hj hR;clear hB hO hI hR;obtain ⟨N, hN⟩ : ∃ N, m.le.length = N := ⟨_, rfl⟩;rw [hN] at x5;by_cases hlt : 0 < N
 ·have e1 : decide ((0 : Int) < (N : Int)) = true := dT (by omega);have i0 : (0 : Int) < (N : Int) := by omega
  obtain ⟨g, hg, g0, g1, g2⟩ := own_block_lt HO.out.l HI.out.r2 (by omega) (by rw [flat_len leC_len]; omega);have i1 : 0 < N := by omega
  have go : b0 ≤ g := by have := HI.out.o1; have := HI.out.o2; have := HI.out.o3; omega
  have R0 := HO.out.l;rw [hg] at x5 R0
  obtain ⟨p, L, hl⟩ : ∃ p L, m.le = p :: L := by
   cases h : m.le with
   | nil => rw [h] at hN; simp at hN; omega
   | cons p L => exact ⟨p, L, rfl⟩
  have hm : ∀ x ∈ m.le, x = p ∨ x ∈ m.le := fun x hx => .inr hx
  have hp : p ∈ m.le := by rw [hl]; simp
  obtain ⟨s, ⟨t', tv⟩⟩ := p;obtain ⟨xa, xc, hx⟩ := kids_slice (kidsB_to (HI.out.b2' _ hp).2.1);simp only at hx;subst hx;have hLm : ∀ x ∈ L, x ∈ m.le := fun x hx => by rw [hl]; simp [hx]
  have hNl : m.le.length = (((s, (laterX, .slice none 0 0)) : ByteArray × (Ex × Value)) :: L).length := by rw [hl]; rfl
  have R1 := R0;rw [hl] at R1;have OWN := Hj R1
  have NEWROW : ∀ (X : World), (X.ownsRow b2 74 7 (.slice (some ⟨g, 0, none⟩) (((s, (laterX, .slice none 0 0)) : ByteArray × (Ex × Value)) :: L).length m.lc) (((s, (laterX, .slice none 0 0)) : ByteArray × (Ex × Value)) :: L).length ((((s, (laterX, .slice none 0 0)) : ByteArray × (Ex × Value)) :: L).flatMap leC)) → Ro g W X → VerI b0 b1 b2 b3 b4 b5 X { m with le := ((s, (laterX, .slice none 0 0)) : ByteArray × (Ex × Value)) :: L } := fun X hx r => by
   have n0 := HI.out.n2;refine HI.out.newL r ⟨g0, g1⟩ (offB_self hg) (by rw [hg]; exact RowB.at' hx g1) (by rw [← hNl]; exact n0) (by rw [← hNl]; exact HI.out.q2) (fun x hx => ?_)
   rcases List.mem_cons.1 hx with rfl | hx
   ·exact ⟨(HI.out.b2' _ hp).1, later_tx _ _⟩
   ·exact HI.out.b2' _ (hLm _ hx)
  have NR := Hj NEWROW;clear NEWROW R0 R1 hm;have R4 : Hid (Rel W W) := Rel.refl _;have O4 := OWN;have c1 : W.cell? ⟨g, 1, none⟩ = some (.int .i64 t'.op) := (O4.out.cellAt 1 (by first | (simp; done) | (simp; omega))).trans rfl;have f1 := O4.out.frozenAt 1;have c2 : W.cell? ⟨g, 2, none⟩ = some (.int .i64 t'.va) := (O4.out.cellAt 2 (by first | (simp; done) | (simp; omega))).trans rfl;have f2 := O4.out.frozenAt 2;have c3 : W.cell? ⟨g, 3, none⟩ = some (.int .i64 t'.vb) := (O4.out.cellAt 3 (by first | (simp; done) | (simp; omega))).trans rfl;have f3 := O4.out.frozenAt 3;have c4 : W.cell? ⟨g, 4, none⟩ = some (.int .i64 t'.dm) := (O4.out.cellAt 4 (by first | (simp; done) | (simp; omega))).trans rfl;have f4 := O4.out.frozenAt 4;have c5 : W.cell? ⟨g, 5, none⟩ = some (.string t'.nm) := (O4.out.cellAt 5 (by first | (simp; done) | (simp; omega))).trans rfl;have f5 := O4.out.frozenAt 5;have c6 : W.cell? ⟨g, 6, none⟩ = some (.slice xa t'.cnt xc) := (O4.out.cellAt 6 (by first | (simp; done) | (simp; omega))).trans rfl;have f6 := O4.out.frozenAt 6;go_enter Tryz.func62, Tryz.ntmps62;have O6 : Hid (World.ownsRow ((((((W.setCell ⟨g, 1, none⟩ (.int .i64 2)).setCell ⟨g, 2, none⟩ (.int .i64 0)).setCell ⟨g, 3, none⟩ (.int .i64 0)).setCell ⟨g, 4, none⟩ (.int .i64 0)).setCell ⟨g, 5, none⟩ (.string ⟨#[108, 97, 116, 101, 114]⟩)).setCell ⟨g, 6, none⟩ (.slice none 0 0)) b2 74 7 (.slice (some ⟨g, 0, none⟩) (((s, (laterX, .slice none 0 0)) : ByteArray × (Ex × Value)) :: L).length m.lc) (((s, (laterX, .slice none 0 0)) : ByteArray × (Ex × Value)) :: L).length ((((s, (laterX, .slice none 0 0)) : ByteArray × (Ex × Value)) :: L).flatMap leC)) := ((((((O4.out.stored 1 (.int .i64 2)).1.stored 2 (.int .i64 0)).1.stored 3 (.int .i64 0)).1.stored 4 (.int .i64 0)).1.stored 5 (.string ⟨#[108, 97, 116, 101, 114]⟩)).1.stored 6 (.slice none 0 0)).1;have Q6 : Hid (Ro g W ((((((W.setCell ⟨g, 1, none⟩ (.int .i64 2)).setCell ⟨g, 2, none⟩ (.int .i64 0)).setCell ⟨g, 3, none⟩ (.int .i64 0)).setCell ⟨g, 4, none⟩ (.int .i64 0)).setCell ⟨g, 5, none⟩ (.string ⟨#[108, 97, 116, 101, 114]⟩)).setCell ⟨g, 6, none⟩ (.slice none 0 0))) := (Ro.set (Ro.set (Ro.set (Ro.set (Ro.set (Ro.set (Ro.of R4.out) 1 (.int .i64 2)) 2 (.int .i64 0)) 3 (.int .i64 0)) 4 (.int .i64 0)) 5 (.string ⟨#[108, 97, 116, 101, 114]⟩)) 6 (.slice none 0 0));have L6 : Hid (Rel w ((((((W.setCell ⟨g, 1, none⟩ (.int .i64 2)).setCell ⟨g, 2, none⟩ (.int .i64 0)).setCell ⟨g, 3, none⟩ (.int .i64 0)).setCell ⟨g, 4, none⟩ (.int .i64 0)).setCell ⟨g, 5, none⟩ (.string ⟨#[108, 97, 116, 101, 114]⟩)).setCell ⟨g, 6, none⟩ (.slice none 0 0))) := (Rel.setCell (Rel.setCell (Rel.setCell (Rel.setCell (Rel.setCell (Rel.setCell (HR.out.trans R4.out) (p := ⟨g, 1, none⟩) (show w.heap.size ≤ g by omega) (.int .i64 2)) (p := ⟨g, 2, none⟩) (show w.heap.size ≤ g by omega) (.int .i64 0)) (p := ⟨g, 3, none⟩) (show w.heap.size ≤ g by omega) (.int .i64 0)) (p := ⟨g, 4, none⟩) (show w.heap.size ≤ g by omega) (.int .i64 0)) (p := ⟨g, 5, none⟩) (show w.heap.size ≤ g by omega) (.string ⟨#[108, 97, 116, 101, 114]⟩)) (p := ⟨g, 6, none⟩) (show w.heap.size ≤ g by omega) (.slice none 0 0));have O7 := O6;have Q7 := Q6;have L7 := L6;clear O6 Q6 L6;((try simp only []); (repeat (first | go_values | go_skip | go_guarded | go_step | go_upon | go_in)));refine Go.Great.bodyPost_end0 rfl rfl ⟨⟨_, rfl⟩, { m with le := ((s, (laterX, .slice none 0 0)) : ByteArray × (Ex × Value)) :: L }, ?_, NR.out _ O7.out Q7.out, by show World.ownsRow _ _ _ _ _ _ _; rw [show m.la = _ from hg]; exact O7.out, L7.out, ⟨Q7.out.size, fun q h1 h2 => Q7.out.block q h1 (by omega)⟩, rfl, ?_⟩
  ·have := HB.out.ro Q7.out (show BO ≠ g by omega);unfold verC at this ⊢;rw [show m.le.length = _ from hNl] at this;exact this
  ·exact hNl.symm
 ·have e1 : decide ((0 : Int) < (N : Int)) = false := dF (by omega);go_enter Tryz.func62, Tryz.ntmps62;((try simp only []); (repeat (first | go_values | go_skip | go_guarded | go_step | go_upon | go_in)));exact Go.Great.bodyPost_end0 rfl rfl ⟨⟨_, rfl⟩, m, HB.out, HI.out, HO.out.l, HR.out, ⟨Nat.le_refl _, fun q _ _ => rfl⟩, rfl, rfl⟩
set_option maxRecDepth 20000 in
theorem twist_4 (BO b0 b1 b2 b3 b4 b5 : Nat) (m : VerM) (w W : World) (hR : Rel w W) (hB : Blk W BO 36 (verC m)) (hw : w.heap.size ≤ BO) (hb : BO < b0) (hI : VerI b0 b1 b2 b3 b4 b5 W m) (hO : OwnsV b0 b1 b2 b3 W m) : TwRes BO b0 b1 b2 b3 b4 b5 m w W 4 := by
 unfold TwRes;have x4 := hB.c (j := 4) rfl;have bl := hB.lt;have HB := Hj hB;have HO := Hj hO;have HI := Hj hI;have HR := Hj hR;clear hB hO hI hR;obtain ⟨N, hN⟩ : ∃ N, m.se.length = N := ⟨_, rfl⟩;rw [hN] at x4;by_cases hlt : 1 < N
 ·have e1 : decide ((1 : Int) < (N : Int)) = true := dT (by omega);have i0 : (1 : Int) < (N : Int) := by omega
  obtain ⟨g, hg, g0, g1, g2⟩ := own_block_lt HO.out.s HI.out.r1 (by omega) (by rw [flat_len seC_len]; omega);have i1 : 0 < N := by omega
  have go : b0 ≤ g := by have := HI.out.o1; have := HI.out.o2; have := HI.out.o3; omega
  have R0 := HO.out.s;rw [hg] at x4 R0
  obtain ⟨p, q, L, hl⟩ : ∃ p q L, m.se = p :: q :: L := by
   cases h : m.se with
   | nil => rw [h] at hN; simp at hN; omega
   | cons p L =>
    cases L with
    | nil => rw [h] at hN; simp at hN; omega
    | cons q L => exact ⟨p, q, L, rfl⟩
  have hm : ∀ x ∈ m.se, x = p ∨ x ∈ m.se := fun x hx => .inr hx
  have hp : p ∈ m.se := by rw [hl]; simp
  have hq : q ∈ m.se := by rw [hl]; simp
  have hLm : ∀ x ∈ L, x ∈ m.se := fun x hx => by rw [hl]; simp [hx]
  have hNl : m.se.length = (p :: (p.1, q.2) :: L).length := by rw [hl]; rfl
  have R1 := R0;rw [hl] at R1;have OWN := Hj R1
  have NEWROW : ∀ (X : World), (X.ownsRow b1 42 3 (.slice (some ⟨g, 0, none⟩) (p :: (p.1, q.2) :: L).length m.sc) (p :: (p.1, q.2) :: L).length ((p :: (p.1, q.2) :: L).flatMap seC)) → Ro g W X → VerI b0 b1 b2 b3 b4 b5 X { m with se := p :: (p.1, q.2) :: L } := fun X hx r => by
   have n0 := HI.out.n1;refine HI.out.newS r ⟨g0, g1⟩ (by rw [hg]; exact RowB.at' hx g1) (by rw [← hNl]; exact n0) (by rw [← hNl]; exact HI.out.q1) (fun x hx => ?_)
   rcases List.mem_cons.1 hx with rfl | hx
   ·exact HI.out.b1' _ hp
   rcases List.mem_cons.1 hx with rfl | hx
   ·exact ⟨(HI.out.b1' _ hp).1, (HI.out.b1' _ hq).2⟩
   ·exact HI.out.b1' _ (hLm _ hx)
  have NR := Hj NEWROW;clear NEWROW R0 R1 hm;have RC := Hj fun (X : World) (r : Rel W X) => own_rel' OWN.out r
  have SC : Hid (∀ X, Rel W X → (X.cell? ⟨BO, 4, none⟩ = some (.slice (some ⟨g, 0, none⟩) N m.sc) ∧ X.cell? ⟨g, 0, none⟩ = some (.int .i64 p.1))) := fun X r => ⟨r.cell x4, ((RC.out X r).cellAt 0 (by first | (simp; done) | (simp; omega))).trans rfl⟩
  go_enter Tryz.func62, Tryz.ntmps62;go_wp2_with fail;refine wp_region_calm (fun M w' => M.getD 13 false = false → w'.cell? ⟨BO, 4, none⟩ = some (.slice (some ⟨g, 0, none⟩) N m.sc) ∧ w'.cell? ⟨g, 0, none⟩ = some (.int .i64 p.1)) (fun i => i == 13) [0, 1, 2, 3, 4, 5, 6, 7, 8, 9, 10, 11, 12] 1 (by kernel_rfl) (by kernel_rfl) ?hst ?hS0 (fun w0 h0 => ?_)
  case hst => exact fun _ _ _ h r hM => ⟨r.cell (h hM).1, r.cell (h hM).2⟩
  case hS0 => exact fun _ => SC.out _ (Rel.refl _)
  iterate 13
   refine wpCalm_go rfl (by kernel_rfl) (fun K hK => ?_);apply Exists.intro;refine ⟨fun M w hM hS => ?_, hK _ ?_⟩
   ·have hS := hS (hM 13 (by kernel_rfl));have d0 := hS.1;have d1 := hS.2;unfold calmAt;go_simp;exact ⟨rfl, Rel.refl _⟩
   clear hK K
  refine wpCalm_nil ?_;refine wpAnyR_ready (rs := [13]) (by kernel_rfl) (by simp) (AllR.cons rfl (fun w4 h4 K' hK' => ?_) AllR.nil);have R4 : Hid (Rel W w4) := h0.trans h4;clear h0 h4;have O4 := Hj (RC.out _ R4.out);have c3 : w4.cell? ⟨g, 3, none⟩ = some (.int .i64 q.1) := (O4.out.cellAt 3 (by first | (simp; done) | (simp; omega))).trans rfl;have f3 := O4.out.frozenAt 3;have gl : g < w4.heap.size := by have := R4.out.size; omega
  go_simp;refine hK'.out _ _ (fun h => absurd (h.symm.trans (by kernel_rfl : _ = true)) (by simp)) ?_;clear hK' K';refine wpAnyR_end (by kernel_rfl) (fun w5 h5 => ?_);have H5 := Hj h5;clear h5;have O6 : Hid (World.ownsRow (w4.setCell ⟨g, 3, none⟩ (.int .i64 p.1)) b1 42 3 (.slice (some ⟨g, 0, none⟩) (p :: (p.1, q.2) :: L).length m.sc) (p :: (p.1, q.2) :: L).length ((p :: (p.1, q.2) :: L).flatMap seC)) := (O4.out.stored 3 (.int .i64 p.1)).1;have Q6 : Hid (Ro g W (w4.setCell ⟨g, 3, none⟩ (.int .i64 p.1))) := (Ro.set (Ro.of R4.out) 3 (.int .i64 p.1));have L6 : Hid (Rel w (w4.setCell ⟨g, 3, none⟩ (.int .i64 p.1))) := (Rel.setCell (HR.out.trans R4.out) (p := ⟨g, 3, none⟩) (show w.heap.size ≤ g by omega) (.int .i64 p.1));have O7 := Hj (own_rel' O6.out H5.out);have Q7 := Hj (Q6.out.trans (Ro.of H5.out));have L7 := Hj (L6.out.trans H5.out);clear O6 Q6 L6;go_wp2_with fail;refine Go.Great.bodyPost_end0 rfl rfl ⟨⟨_, rfl⟩, { m with se := p :: (p.1, q.2) :: L }, ?_, NR.out _ O7.out Q7.out, own_rox HO.out.l Q7.out (by have := HI.out.o2; omega), L7.out, ⟨Q7.out.size, fun q h1 h2 => Q7.out.block q h1 (by omega)⟩, rfl, ?_⟩
  ·have := HB.out.ro Q7.out (show BO ≠ g by omega);unfold verC at this ⊢;rw [show m.se.length = _ from hNl] at this;exact this
  ·rfl
 ·have e1 : decide ((1 : Int) < (N : Int)) = false := dF (by omega);go_enter Tryz.func62, Tryz.ntmps62;((try simp only []); (repeat (first | go_values | go_skip | go_guarded | go_step | go_upon | go_in)));exact Go.Great.bodyPost_end0 rfl rfl ⟨⟨_, rfl⟩, m, HB.out, HI.out, HO.out.l, HR.out, ⟨Nat.le_refl _, fun q _ _ => rfl⟩, rfl, rfl⟩
set_option maxRecDepth 20000 in
theorem twist_5 (BO b0 b1 b2 b3 b4 b5 : Nat) (m : VerM) (w W : World) (hR : Rel w W) (hB : Blk W BO 36 (verC m)) (hw : w.heap.size ≤ BO) (hb : BO < b0) (hI : VerI b0 b1 b2 b3 b4 b5 W m) (hO : OwnsV b0 b1 b2 b3 W m) : TwRes BO b0 b1 b2 b3 b4 b5 m w W 5 := by
 unfold TwRes;have x3 := hB.c (j := 3) rfl;have bl := hB.lt;have HB := Hj hB;have HO := Hj hO;have HI := Hj hI;have HR := Hj hR;clear hB hO hI hR;obtain ⟨N, hN⟩ : ∃ N, m.cr.length = N := ⟨_, rfl⟩;rw [hN] at x3;by_cases hlt : 1 < N
 ·have e1 : decide ((1 : Int) < (N : Int)) = true := dT (by omega);have i0 : (1 : Int) < (N : Int) := by omega
  obtain ⟨g, hg, g0, g1, g2⟩ := own_block_lt HO.out.c HI.out.r0 (by omega) (by rw [flat_len crC_len]; omega);have i1 : 0 < N := by omega
  have go : b0 ≤ g := by have := HI.out.o1; have := HI.out.o2; have := HI.out.o3; omega
  have R0 := HO.out.c;rw [hg] at x3 R0
  obtain ⟨p, q, L, hl⟩ : ∃ p q L, m.cr = p :: q :: L := by
   cases h : m.cr with
   | nil => rw [h] at hN; simp at hN; omega
   | cons p L =>
    cases L with
    | nil => rw [h] at hN; simp at hN; omega
    | cons q L => exact ⟨p, q, L, rfl⟩
  have hm : ∀ x ∈ m.cr, x = p ∨ x ∈ m.cr := fun x hx => .inr hx
  have hp : p ∈ m.cr := by rw [hl]; simp
  have hq : q ∈ m.cr := by rw [hl]; simp
  have hLm : ∀ x ∈ L, x ∈ m.cr := fun x hx => by rw [hl]; simp [hx]
  have hNl : m.cr.length = (p :: (p.1, q.2) :: L).length := by rw [hl]; rfl
  have R1 := R0;rw [hl] at R1;have OWN := Hj R1
  have NEWROW : ∀ (X : World), (X.ownsRow b0 38 2 (.slice (some ⟨g, 0, none⟩) (p :: (p.1, q.2) :: L).length m.cc) (p :: (p.1, q.2) :: L).length ((p :: (p.1, q.2) :: L).flatMap crC)) → Ro g W X → VerI b0 b1 b2 b3 b4 b5 X { m with cr := p :: (p.1, q.2) :: L } := fun X hx r => by
   have n0 := HI.out.n0;refine HI.out.newC r ⟨g0, g1⟩ (by rw [hg]; exact RowB.at' hx g1) (by rw [← hNl]; exact n0) (by rw [← hNl]; exact HI.out.q0) (fun x hx => ?_)
   rcases List.mem_cons.1 hx with rfl | hx
   ·exact HI.out.b0' _ hp
   rcases List.mem_cons.1 hx with rfl | hx
   ·exact ⟨(HI.out.b0' _ hp).1, (HI.out.b0' _ hq).2⟩
   ·exact HI.out.b0' _ (hLm _ hx)
  have NR := Hj NEWROW;clear NEWROW R0 R1 hm;have RC := Hj fun (X : World) (r : Rel W X) => own_rel' OWN.out r
  have SC : Hid (∀ X, Rel W X → (X.cell? ⟨BO, 3, none⟩ = some (.slice (some ⟨g, 0, none⟩) N m.cc) ∧ X.cell? ⟨g, 0, none⟩ = some (.int .i64 p.1))) := fun X r => ⟨r.cell x3, ((RC.out X r).cellAt 0 (by first | (simp; done) | (simp; omega))).trans rfl⟩
  go_enter Tryz.func62, Tryz.ntmps62;go_wp2_with fail;refine wp_region_calm (fun M w' => M.getD 13 false = false → w'.cell? ⟨BO, 3, none⟩ = some (.slice (some ⟨g, 0, none⟩) N m.cc) ∧ w'.cell? ⟨g, 0, none⟩ = some (.int .i64 p.1)) (fun i => i == 13) [0, 1, 2, 3, 4, 5, 6, 7, 8, 9, 10, 11, 12] 1 (by kernel_rfl) (by kernel_rfl) ?hst ?hS0 (fun w0 h0 => ?_)
  case hst => exact fun _ _ _ h r hM => ⟨r.cell (h hM).1, r.cell (h hM).2⟩
  case hS0 => exact fun _ => SC.out _ (Rel.refl _)
  iterate 13
   refine wpCalm_go rfl (by kernel_rfl) (fun K hK => ?_);apply Exists.intro;refine ⟨fun M w hM hS => ?_, hK _ ?_⟩
   ·have hS := hS (hM 13 (by kernel_rfl));have d0 := hS.1;have d1 := hS.2;unfold calmAt;go_simp;exact ⟨rfl, Rel.refl _⟩
   clear hK K
  refine wpCalm_nil ?_;refine wpAnyR_ready (rs := [13]) (by kernel_rfl) (by simp) (AllR.cons rfl (fun w4 h4 K' hK' => ?_) AllR.nil);have R4 : Hid (Rel W w4) := h0.trans h4;clear h0 h4;have O4 := Hj (RC.out _ R4.out);have c2 : w4.cell? ⟨g, 2, none⟩ = some (.int .i64 q.1) := (O4.out.cellAt 2 (by first | (simp; done) | (simp; omega))).trans rfl;have f2 := O4.out.frozenAt 2;have gl : g < w4.heap.size := by have := R4.out.size; omega
  go_simp;refine hK'.out _ _ (fun h => absurd (h.symm.trans (by kernel_rfl : _ = true)) (by simp)) ?_;clear hK' K';refine wpAnyR_end (by kernel_rfl) (fun w5 h5 => ?_);have H5 := Hj h5;clear h5;have O6 : Hid (World.ownsRow (w4.setCell ⟨g, 2, none⟩ (.int .i64 p.1)) b0 38 2 (.slice (some ⟨g, 0, none⟩) (p :: (p.1, q.2) :: L).length m.cc) (p :: (p.1, q.2) :: L).length ((p :: (p.1, q.2) :: L).flatMap crC)) := (O4.out.stored 2 (.int .i64 p.1)).1;have Q6 : Hid (Ro g W (w4.setCell ⟨g, 2, none⟩ (.int .i64 p.1))) := (Ro.set (Ro.of R4.out) 2 (.int .i64 p.1));have L6 : Hid (Rel w (w4.setCell ⟨g, 2, none⟩ (.int .i64 p.1))) := (Rel.setCell (HR.out.trans R4.out) (p := ⟨g, 2, none⟩) (show w.heap.size ≤ g by omega) (.int .i64 p.1));have O7 := Hj (own_rel' O6.out H5.out);have Q7 := Hj (Q6.out.trans (Ro.of H5.out));have L7 := Hj (L6.out.trans H5.out);clear O6 Q6 L6;go_wp2_with fail;refine Go.Great.bodyPost_end0 rfl rfl ⟨⟨_, rfl⟩, { m with cr := p :: (p.1, q.2) :: L }, ?_, NR.out _ O7.out Q7.out, own_rox HO.out.l Q7.out (by have := HI.out.o2; omega), L7.out, ⟨Q7.out.size, fun q h1 h2 => Q7.out.block q h1 (by omega)⟩, rfl, ?_⟩
  ·have := HB.out.ro Q7.out (show BO ≠ g by omega);unfold verC at this ⊢;rw [show m.cr.length = _ from hNl] at this;exact this
  ·rfl
 ·have e1 : decide ((1 : Int) < (N : Int)) = false := dF (by omega);go_enter Tryz.func62, Tryz.ntmps62;((try simp only []); (repeat (first | go_values | go_skip | go_guarded | go_step | go_upon | go_in)));exact Go.Great.bodyPost_end0 rfl rfl ⟨⟨_, rfl⟩, m, HB.out, HI.out, HO.out.l, HR.out, ⟨Nat.le_refl _, fun q _ _ => rfl⟩, rfl, rfl⟩
set_option maxRecDepth 20000 in
theorem twist_6 (BO b0 b1 b2 b3 b4 b5 : Nat) (m : VerM) (w W : World) (hR : Rel w W) (hB : Blk W BO 36 (verC m)) (hw : w.heap.size ≤ BO) (hb : BO < b0) (hI : VerI b0 b1 b2 b3 b4 b5 W m) (hO : OwnsV b0 b1 b2 b3 W m) : TwRes BO b0 b1 b2 b3 b4 b5 m w W 6 := by
 unfold TwRes;have x5 := hB.c (j := 5) rfl;have bl := hB.lt;have HB := Hj hB;have HO := Hj hO;have HI := Hj hI;have HR := Hj hR;clear hB hO hI hR;obtain ⟨N, hN⟩ : ∃ N, m.le.length = N := ⟨_, rfl⟩;rw [hN] at x5;by_cases hlt : 0 < N
 ·have e1 : decide ((0 : Int) < (N : Int)) = true := dT (by omega);have i0 : (0 : Int) < (N : Int) := by omega
  obtain ⟨g, hg, g0, g1, g2⟩ := own_block_lt HO.out.l HI.out.r2 (by omega) (by rw [flat_len leC_len]; omega);have i1 : 0 < N := by omega
  have go : b0 ≤ g := by have := HI.out.o1; have := HI.out.o2; have := HI.out.o3; omega
  have R0 := HO.out.l;rw [hg] at x5 R0
  obtain ⟨p, L, hl⟩ : ∃ p L, m.le = p :: L := by
   cases h : m.le with
   | nil => rw [h] at hN; simp at hN; omega
   | cons p L => exact ⟨p, L, rfl⟩
  have hm : ∀ x ∈ m.le, x = p ∨ x ∈ m.le := fun x hx => .inr hx
  have hp : p ∈ m.le := by rw [hl]; simp
  have hLm : ∀ x ∈ L, x ∈ m.le := fun x hx => by rw [hl]; simp [hx]
  have hNl : m.le.length = (((⟨#[97, 103, 101]⟩ : ByteArray), p.2) :: L).length := by rw [hl]; rfl
  have R1 := R0;rw [hl] at R1;have OWN := Hj R1
  have NEWROW : ∀ (X : World), (X.ownsRow b2 74 7 (.slice (some ⟨g, 0, none⟩) (((⟨#[97, 103, 101]⟩ : ByteArray), p.2) :: L).length m.lc) (((⟨#[97, 103, 101]⟩ : ByteArray), p.2) :: L).length ((((⟨#[97, 103, 101]⟩ : ByteArray), p.2) :: L).flatMap leC)) → Ro g W X → VerI b0 b1 b2 b3 b4 b5 X { m with le := ((⟨#[97, 103, 101]⟩ : ByteArray), p.2) :: L } := fun X hx r => by
   have n0 := HI.out.n2;refine HI.out.newL r ⟨g0, g1⟩ (offB_self hg) (by rw [hg]; exact RowB.at' hx g1) (by rw [← hNl]; exact n0) (by rw [← hNl]; exact HI.out.q2) (fun x hx => ?_)
   rcases List.mem_cons.1 hx with rfl | hx
   ·exact ⟨by show (3 : Nat) ≤ _; omega, (HI.out.b2' _ hp).2⟩
   ·exact HI.out.b2' _ (hLm _ hx)
  have NR := Hj NEWROW;clear NEWROW R0 R1 hm;have R4 : Hid (Rel W W) := Rel.refl _;have O4 := OWN;have c0 : W.cell? ⟨g, 0, none⟩ = some (.string p.1) := (O4.out.cellAt 0 (by first | (simp; done) | (simp; omega))).trans rfl;have f0 := O4.out.frozenAt 0;go_enter Tryz.func62, Tryz.ntmps62;have O6 : Hid (World.ownsRow (W.setCell ⟨g, 0, none⟩ (.string ⟨#[97, 103, 101]⟩)) b2 74 7 (.slice (some ⟨g, 0, none⟩) (((⟨#[97, 103, 101]⟩ : ByteArray), p.2) :: L).length m.lc) (((⟨#[97, 103, 101]⟩ : ByteArray), p.2) :: L).length ((((⟨#[97, 103, 101]⟩ : ByteArray), p.2) :: L).flatMap leC)) := (O4.out.stored 0 (.string ⟨#[97, 103, 101]⟩)).1;have Q6 : Hid (Ro g W (W.setCell ⟨g, 0, none⟩ (.string ⟨#[97, 103, 101]⟩))) := (Ro.set (Ro.of R4.out) 0 (.string ⟨#[97, 103, 101]⟩));have L6 : Hid (Rel w (W.setCell ⟨g, 0, none⟩ (.string ⟨#[97, 103, 101]⟩))) := (Rel.setCell (HR.out.trans R4.out) (p := ⟨g, 0, none⟩) (show w.heap.size ≤ g by omega) (.string ⟨#[97, 103, 101]⟩));have O7 := O6;have Q7 := Q6;have L7 := L6;clear O6 Q6 L6;((try simp only []); (repeat (first | go_values | go_skip | go_guarded | go_step | go_upon | go_in)));refine Go.Great.bodyPost_end0 rfl rfl ⟨⟨_, rfl⟩, { m with le := ((⟨#[97, 103, 101]⟩ : ByteArray), p.2) :: L }, ?_, NR.out _ O7.out Q7.out, by show World.ownsRow _ _ _ _ _ _ _; rw [show m.la = _ from hg]; exact O7.out, L7.out, ⟨Q7.out.size, fun q h1 h2 => Q7.out.block q h1 (by omega)⟩, rfl, ?_⟩
  ·have := HB.out.ro Q7.out (show BO ≠ g by omega);unfold verC at this ⊢;rw [show m.le.length = _ from hNl] at this;exact this
  ·exact hNl.symm
 ·have e1 : decide ((0 : Int) < (N : Int)) = false := dF (by omega);go_enter Tryz.func62, Tryz.ntmps62;((try simp only []); (repeat (first | go_values | go_skip | go_guarded | go_step | go_upon | go_in)));exact Go.Great.bodyPost_end0 rfl rfl ⟨⟨_, rfl⟩, m, HB.out, HI.out, HO.out.l, HR.out, ⟨Nat.le_refl _, fun q _ _ => rfl⟩, rfl, rfl⟩
theorem twist_any : TwistOk := by
 intro n BO b0 b1 b2 b3 b4 b5 m w W hR hB hw hb hI hO;by_cases h0 : n = 0
 ·subst h0; exact twist_0 BO b0 b1 b2 b3 b4 b5 m w W hR hB hw hb hI hO
 by_cases h1 : n = 1
 ·subst h1; exact twist_1 BO b0 b1 b2 b3 b4 b5 m w W hR hB hw hb hI hO
 by_cases h2 : n = 2
 ·subst h2; exact twist_2 BO b0 b1 b2 b3 b4 b5 m w W hR hB hw hb hI hO
 by_cases h3 : n = 3
 ·subst h3; exact twist_3 BO b0 b1 b2 b3 b4 b5 m w W hR hB hw hb hI hO
 by_cases h4 : n = 4
 ·subst h4; exact twist_4 BO b0 b1 b2 b3 b4 b5 m w W hR hB hw hb hI hO
 by_cases h5 : n = 5
 ·subst h5; exact twist_5 BO b0 b1 b2 b3 b4 b5 m w W hR hB hw hb hI hO
 by_cases h6 : n = 6
 ·subst h6; exact twist_6 BO b0 b1 b2 b3 b4 b5 m w W hR hB hw hb hI hO
 have e0 : (n == 0) = false := by rw [zn]; exact h0
 have e1 : (n == 1) = false := by rw [zn]; exact h1
 have e2 : (n == 2) = false := by rw [zn]; exact h2
 have e3 : (n == 3) = false := by rw [zn]; exact h3
 have e4 : (n == 4) = false := by rw [zn]; exact h4
 have e5 : (n == 5) = false := by rw [zn]; exact h5
 have e6 : (n == 6) = false := by rw [zn]; exact h6
 have HB := Hj hB;have HI := Hj hI;have HO := Hj hO;have HR := Hj hR;clear hB hI hO hR h0 h1 h2 h3 h4 h5 h6;go_enter Tryz.func62, Tryz.ntmps62;((try simp only []); (repeat (first | go_values | go_skip | go_guarded | go_step | go_upon | go_in)));exact Go.Great.bodyPost_end0 rfl rfl ⟨⟨_, rfl⟩, m, HB.out, HI.out, HO.out.l, HR.out, ⟨Nat.le_refl _, fun q _ _ => rfl⟩, rfl, rfl⟩
end Go.Proofs.YtojghojlapgbiaaGreatDoor

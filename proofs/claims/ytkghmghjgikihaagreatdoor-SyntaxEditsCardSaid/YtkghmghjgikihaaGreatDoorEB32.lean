/- Bundle of texts: each says at its head what it proves; no conditions but those printed. -/
import Derived.Test.YtkghmghjgikihaaGreatDoorEB11
import Derived.Test.YtkghmghjgikihaaGreatDoorEB3
import Derived.Test.YtkghmghjgikihaaGreatDoorEB10
import Derived.Test.YtkghmghjgikihaaGreatDoorEB19
namespace Go.Proofs.YtkghmghjgikihaaGreatDoor
open Go.RowKit Cal Str Tok Frac Txt Tree
attribute [local go_sem] calmUpon
set_option linter.unusedVariables false
set_option linter.unusedSimpArgs false
structure Rdr (w : World) (b G : Nat) (tk : List Tk) (E : Int) (s : Pt) : Prop where
 lt : b < w.heap.size
 le : s.i ≤ tk.length
 tok : ∃ ad cap, w.cell? ⟨b, 0, none⟩ = some (.slice ad tk.length cap) ∧ (0 < tk.length → ad = some ⟨G, 0, none⟩)
 toks : Toks w b G tk
 c1 : w.cell? ⟨b, 1, none⟩ = some (.int .i64 (s.i : Int))
 c2 : w.cell? ⟨b, 2, none⟩ = some (.int .i64 E)
 c3 : w.cell? ⟨b, 3, none⟩ = some (.bool (!s.ok))
 f1 : w.frozen? ⟨b, 1, none⟩ = false
 f3 : w.frozen? ⟨b, 3, none⟩ = false
theorem Rdr.rel {w w' : World} {b G : Nat} {tk : List Tk} {E : Int} {s : Pt} (h : Rdr w b G tk E s) (r : Rel w w') : Rdr w' b G tk E s := by
 obtain ⟨ad, cap, h1, h2⟩ := h.tok;exact ⟨Nat.lt_of_lt_of_le h.lt r.size, h.le, ⟨ad, cap, r.cell h1, h2⟩, h.toks.ro (Ro.of r), r.cell h.c1, r.cell h.c2, r.cell h.c3, ((rcell r).2 b 1 h.lt).trans h.f1, ((rcell r).2 b 3 h.lt).trans h.f3⟩
theorem Rdr.other {w : World} {b G : Nat} {tk : List Tk} {E : Int} {s : Pt} (h : Rdr w b G tk E s) {g i : Nat} {v : Value} (hne : g ≠ b) (ht : Toks (w.setCell ⟨g, i, none⟩ v) b G tk) : Rdr (w.setCell ⟨g, i, none⟩ v) b G tk E s := by
 obtain ⟨ad, cap, h1, h2⟩ := h.tok;have oc : ∀ j, (w.setCell ⟨g, i, none⟩ v).cell? ⟨b, j, none⟩ = w.cell? ⟨b, j, none⟩ := fun j => World.cell?_setCell_other _ _ _ _ (fun e => hne (by injection e))
 exact ⟨by simpa [World.setCell] using h.lt, h.le, ⟨ad, cap, (oc 0).trans h1, h2⟩, ht, (oc 1).trans h.c1, (oc 2).trans h.c2, (oc 3).trans h.c3, by rw [World.frozen?_setCell]; exact h.f1, by rw [World.frozen?_setCell]; exact h.f3⟩
theorem rdr_put6 {w0 W : World} {b G : Nat} {tk : List Tk} {E : Int} {s : Pt} (h : Rdr W b G tk E s) (hn : Toks w0 b G tk) (r : Ro b w0 W) {g : Nat} (hg : w0.heap.size ≤ g) (hne : g ≠ b) (v0 v1 v2 v3 v4 v5 : Value) :
  Rdr ((((((W.setCell ⟨g, 0, none⟩ v0).setCell ⟨g, 1, none⟩ v1).setCell ⟨g, 2, none⟩ v2).setCell ⟨g, 3, none⟩ v3).setCell ⟨g, 4, none⟩ v4).setCell ⟨g, 5, none⟩ v5) b G tk E s ∧ Ro b w0 ((((((W.setCell ⟨g, 0, none⟩ v0).setCell ⟨g, 1, none⟩ v1).setCell ⟨g, 2, none⟩ v2).setCell ⟨g, 3, none⟩ v3).setCell ⟨g, 4, none⟩ v4).setCell ⟨g, 5, none⟩ v5) := by
 have r0 := r.setNew (p := ⟨g, 0, none⟩) hg v0;have r1 := r0.setNew (p := ⟨g, 1, none⟩) hg v1;have r2 := r1.setNew (p := ⟨g, 2, none⟩) hg v2;have r3 := r2.setNew (p := ⟨g, 3, none⟩) hg v3;have r4 := r3.setNew (p := ⟨g, 4, none⟩) hg v4;have r5 := r4.setNew (p := ⟨g, 5, none⟩) hg v5;exact ⟨(((((h.other hne (hn.ro r0)).other hne (hn.ro r1)).other hne (hn.ro r2)).other hne (hn.ro r3)).other hne (hn.ro r4)).other hne (hn.ro r5), r5⟩
theorem Rdr.adv {w : World} {b G : Nat} {tk : List Tk} {E : Int} {s : Pt} (h : Rdr w b G tk E s) (hi : s.i < tk.length) : Rdr (w.setCell ⟨b, 1, none⟩ (.int .i64 ((s.i : Int) + 1))) b G tk E s.adv := by
 obtain ⟨ad, cap, h1, h2⟩ := h.tok;have oc : ∀ j, ¬ j = 1 → (w.setCell ⟨b, 1, none⟩ (.int .i64 ((s.i : Int) + 1))).cell? ⟨b, j, none⟩ = w.cell? ⟨b, j, none⟩ := fun j hj => World.cell?_setCell_other _ _ _ _ (by intro e; injection e; omega)
 refine ⟨by simpa [World.setCell] using h.lt, hi, ⟨ad, cap, (oc 0 (by decide)).trans h1, h2⟩, h.toks.ro ((Ro.refl b w).set 1 _), ?_, (oc 2 (by decide)).trans h.c2, (oc 3 (by decide)).trans h.c3, by rw [World.frozen?_setCell]; exact h.f1, by rw [World.frozen?_setCell]; exact h.f3⟩;rw [World.cell?_setCell_same _ _ _ h.c1]; rfl
theorem Rdr.no {w : World} {b G : Nat} {tk : List Tk} {E : Int} {s : Pt} (h : Rdr w b G tk E s) : Rdr (w.setCell ⟨b, 3, none⟩ (.bool true)) b G tk E s.no := by
 obtain ⟨ad, cap, h1, h2⟩ := h.tok;have oc : ∀ j, ¬ j = 3 → (w.setCell ⟨b, 3, none⟩ (.bool true)).cell? ⟨b, j, none⟩ = w.cell? ⟨b, j, none⟩ := fun j hj => World.cell?_setCell_other _ _ _ _ (by intro e; injection e; omega)
 refine ⟨by simpa [World.setCell] using h.lt, h.le, ⟨ad, cap, (oc 0 (by decide)).trans h1, h2⟩, h.toks.ro ((Ro.refl b w).set 3 _), (oc 1 (by decide)).trans h.c1, (oc 2 (by decide)).trans h.c2, ?_, by rw [World.frozen?_setCell]; exact h.f1, by rw [World.frozen?_setCell]; exact h.f3⟩;rw [World.cell?_setCell_same _ _ _ h.c3]; rfl
def RUn (b G : Nat) (tk : List Tk) (E : Int) (s : Pt) (w : World) (e : Ending) (w' : World) : Prop := (∃ v, e = .returned v) ∧ Rdr w' b G tk E s ∧ Ro b w w'
set_option maxHeartbeats 4000000 in
theorem rstop_any (b G : Nat) (tk : List Tk) (E : Int) (s : Pt) (w : World) (h : Rdr w b G tk E s) : Calls Tryz.prog 138 #[.pointer (some ⟨b, 0, none⟩)] w (RUn b G tk E s.no w) := by
 have HP := Hj h.no;have hlt := h.lt;have c3 := h.c3;have f3 := h.f3;clear h;unfold RUn;go_enter Tryz.func138, Tryz.ntmps138;((try simp only []); (repeat (first | go_values | go_skip | go_guarded | go_step | go_upon | go_in)));exact Go.Great.bodyPost_end0 rfl rfl ⟨⟨_, rfl⟩, HP.out, (Ro.refl _ _).set 3 _⟩
def TxOk (tk : List Tk) (x : List UInt8) : Prop := ∀ t ∈ tk, t.T.data.toList = x → t.K = 1 ∨ t.K = 4
theorem accB_tx {tk : List Tk} {x : List UInt8} {s : Pt} {t : Tk} (hx : TxOk tk x) (ho : s.ok = true) (ht : tk[s.i]? = some t) : accB tk x s = (t.T.data.toList == x) := by
 unfold accB tkAt;rw [if_pos ho, ht];simp only []
 cases e : (t.T.data.toList == x)
 ·simp
 ·rcases hx t (List.mem_of_getElem? ht) (by simpa using e) with h | h <;> rw [h] <;> rfl
theorem accB_end {tk : List Tk} {x : List UInt8} {s : Pt} (h : s.ok = false ∨ tk.length ≤ s.i) : accB tk x s = false := by
 have hn : tkAt tk s = none := by
  unfold tkAt
  rcases h with h | h
  ·rw [if_neg (by simp [h])]
  ·split
   ·exact List.getElem?_eq_none h
   ·rfl
 unfold accB; rw [hn]
theorem rdr_at {w : World} {b G : Nat} {tk : List Tk} {E : Int} {s : Pt} (h : Rdr w b G tk E s) (hi : s.i < tk.length) : ∃ t cap, tk[s.i]? = some t ∧ w.cell? ⟨b, 0, none⟩ = some (.slice (some ⟨G, 0, none⟩) tk.length cap) ∧
  w.cell? ⟨G, s.i * 3, none⟩ = some (.int .i64 t.K) ∧ w.cell? ⟨G, s.i * 3 + 1, none⟩ = some (.string t.T) ∧ w.cell? ⟨G, s.i * 3 + 2, none⟩ = some (.int .i64 t.A) := by
 obtain ⟨ad, cap, h1, h2⟩ := h.tok;obtain rfl := h2 (by omega);obtain ⟨t, ht⟩ : ∃ t, tk[s.i]? = some t := ⟨_, List.getElem?_eq_getElem hi⟩
 rcases h.toks with e | ⟨-, -, hc⟩
 ·subst e; simp at hi
 ·exact ⟨t, cap, ht, h1, hc _ _ ht⟩
set_option maxRecDepth 20000 in
set_option maxHeartbeats 4000000 in
theorem ris_any (b G : Nat) (tk : List Tk) (E : Int) (s : Pt) (X : ByteArray) (w : World) (h : Rdr w b G tk E s) (hx : TxOk tk X.data.toList) : Calls Tryz.prog 141 #[.pointer (some ⟨b, 0, none⟩), .string X] w (BRes (accB tk X.data.toList s) w) := by
 have hlt := h.lt;have c1 := h.c1;have c3 := h.c3;have hle := h.le;unfold BRes;obtain ⟨k, hk⟩ : ∃ k, s.ok = k := ⟨_, rfl⟩;rw [hk] at c3;cases k
 ·rw [accB_end (.inl hk)];clear h hx hk;go_enter Tryz.func141, Tryz.ntmps141;go_upto_region 1 with (fail);refine wp_region_calm (fun _ w' => Rel w w') (fun _ => false) [0, 1, 2, 3, 4, 5, 6, 7, 8, 9, 10, 11, 12, 13, 14, 15, 16, 17, 18, 19, 20, 21, 22, 23, 24, 25, 26, 27, 28, 29, 30, 31, 32] 0 (by kernel_rfl) (by kernel_rfl) ?hst ?hS0 (fun w0 h0 => ?_)
  case hst => exact fun _ _ _ h r => h.trans r
  case hS0 => exact Rel.refl _
  iterate 6
   refine wpCalm_go rfl (by kernel_rfl) (fun K hK => ?_);apply Exists.intro;refine ⟨fun M w hM hS => ?_, hK _ ?_⟩
   ·have d3 := hS.cell c3;unfold calmAt;go_simp;exact ⟨rfl, Rel.refl _⟩
   clear hK K
  iterate 10 (refine wpCalm_no rfl (by kernel_rfl) (fun K hK => hK _ ?_); clear hK K)
  iterate 2
   refine wpCalm_go rfl (by kernel_rfl) (fun K hK => ?_);apply Exists.intro;refine ⟨fun M w hM hS => ?_, hK _ ?_⟩
   ·have d3 := hS.cell c3;unfold calmAt;go_simp;exact ⟨rfl, Rel.refl _⟩
   clear hK K
  iterate 13 (refine wpCalm_no rfl (by kernel_rfl) (fun K hK => hK _ ?_); clear hK K)
  iterate 2
   refine wpCalm_go rfl (by kernel_rfl) (fun K hK => ?_);apply Exists.intro;refine ⟨fun M w hM hS => ?_, hK _ ?_⟩
   ·have d3 := hS.cell c3;unfold calmAt;go_simp;exact ⟨rfl, Rel.refl _⟩
   clear hK K
  refine wpAnyR_end (by kernel_rfl) (fun w3 h3' => ?_);(try simp only [Act.put, List.setIfInBounds_toArray, List.set_cons_zero, List.set_cons_succ]);have h3 := h0.trans h3';clear h0 h3';have kz3 := h3.size;(try simp only [World.size_alloc, World.size_setCell, World.size_drew] at kz3);have H3 := Hj h3;clear h3;go_wp2;go_ret;exact ⟨rfl, H3.out⟩
 ·by_cases hi : s.i < tk.length
  ·obtain ⟨t, cap, ht, c0, q0, q1, q2⟩ := rdr_at h hi;rw [accB_tx hx hk ht, ← tl_eq];obtain ⟨n, hn⟩ : ∃ n, tk.length = n := ⟨_, rfl⟩;obtain ⟨i, hi'⟩ : ∃ i, s.i = i := ⟨_, rfl⟩;rw [hn] at c0 hi;rw [hi'] at q0 q1 q2 c1 hi;have ii : (i : Int) < (n : Int) := by omega
   clear h hx ht hk hn hle hi';go_enter Tryz.func141, Tryz.ntmps141;go_upto_region 1 with (fail);refine wp_region_calm (fun _ w' => Rel w w') (fun _ => false) [0, 1, 2, 3, 4, 5, 6, 7, 8, 9, 10, 11, 12, 13, 14, 15, 16, 17, 18, 19, 20, 21, 22, 23, 24, 25, 26, 27, 28, 29, 30, 31, 32] 0 (by kernel_rfl) (by kernel_rfl) ?hst ?hS0 (fun w0 h0 => ?_)
   case hst => exact fun _ _ _ h r => h.trans r
   case hS0 => exact Rel.refl _
   iterate 33
    refine wpCalm_go rfl (by kernel_rfl) (fun K hK => ?_);apply Exists.intro;refine ⟨fun M w hM hS => ?_, hK _ ?_⟩
    ·have d3 := hS.cell c3;have d0 := hS.cell c0;have d1 := hS.cell c1;have e1 := hS.cell q1;unfold calmAt;go_simp;exact ⟨rfl, Rel.refl _⟩
    clear hK K
   refine wpAnyR_end (by kernel_rfl) (fun w3 h3' => ?_);(try simp only [Act.put, List.setIfInBounds_toArray, List.set_cons_zero, List.set_cons_succ]);have h3 := h0.trans h3';clear h0 h3';have kz3 := h3.size;(try simp only [World.size_alloc, World.size_setCell, World.size_drew] at kz3);have H3 := Hj h3;clear h3;go_wp2;go_ret;exact ⟨ret_b2 (by simp), H3.out⟩
  ·rw [accB_end (.inr (by omega))];obtain ⟨ad, cap, c0, -⟩ := h.tok;obtain ⟨n, hn⟩ : ∃ n, tk.length = n := ⟨_, rfl⟩;obtain ⟨i, hi'⟩ : ∃ i, s.i = i := ⟨_, rfl⟩;rw [hn] at c0 hi;rw [hi'] at c1 hi;have ii : decide ((i : Int) < (n : Int)) = false := dF (by omega);clear h hx hk hn hle hi';go_enter Tryz.func141, Tryz.ntmps141;go_upto_region 1 with (fail);refine wp_region_calm (fun _ w' => Rel w w') (fun _ => false) [0, 1, 2, 3, 4, 5, 6, 7, 8, 9, 10, 11, 12, 13, 14, 15, 16, 17, 18, 19, 20, 21, 22, 23, 24, 25, 26, 27, 28, 29, 30, 31, 32] 0 (by kernel_rfl) (by kernel_rfl) ?hst ?hS0 (fun w0 h0 => ?_)
   case hst => exact fun _ _ _ h r => h.trans r
   case hS0 => exact Rel.refl _
   iterate 18
    refine wpCalm_go rfl (by kernel_rfl) (fun K hK => ?_);apply Exists.intro;refine ⟨fun M w hM hS => ?_, hK _ ?_⟩
    ·have d3 := hS.cell c3;have d0 := hS.cell c0;have d1 := hS.cell c1;unfold calmAt;go_simp;exact ⟨rfl, Rel.refl _⟩
    clear hK K
   iterate 13 (refine wpCalm_no rfl (by kernel_rfl) (fun K hK => hK _ ?_); clear hK K)
   iterate 2
    refine wpCalm_go rfl (by kernel_rfl) (fun K hK => ?_);apply Exists.intro;refine ⟨fun M w hM hS => ?_, hK _ ?_⟩
    ·have d3 := hS.cell c3;have d0 := hS.cell c0;have d1 := hS.cell c1;unfold calmAt;go_simp;exact ⟨rfl, Rel.refl _⟩
    clear hK K
   refine wpAnyR_end (by kernel_rfl) (fun w3 h3' => ?_);(try simp only [Act.put, List.setIfInBounds_toArray, List.set_cons_zero, List.set_cons_succ]);have h3 := h0.trans h3';clear h0 h3';have kz3 := h3.size;(try simp only [World.size_alloc, World.size_setCell, World.size_drew] at kz3);have H3 := Hj h3;clear h3;go_wp2;go_ret;exact ⟨rfl, H3.out⟩
theorem rkind_cases (tk : List Tk) (s : Pt) (kd : Int) (hk : ¬ kd = 0) : (pkK tk s == kd) = (match tkAt tk s with | some t => t.K == kd | none => false) := by
 unfold pkK
 cases tkAt tk s with
 | none => simp only []; rw [beq_eq_false_iff_ne]; omega
 | some t => rfl
set_option maxRecDepth 20000 in
set_option maxHeartbeats 4000000 in
theorem rkind_any (b G : Nat) (tk : List Tk) (E : Int) (s : Pt) (kd : Int) (w : World) (h : Rdr w b G tk E s) (hkd : 1 ≤ kd) : Calls Tryz.prog 139 #[.pointer (some ⟨b, 0, none⟩), .int .i64 kd] w (BRes (pkK tk s == kd) w) := by
 have hlt := h.lt;have c1 := h.c1;have c3 := h.c3;have hle := h.le;unfold BRes;rw [rkind_cases tk s kd (by omega)];obtain ⟨k, hk⟩ : ∃ k, s.ok = k := ⟨_, rfl⟩;rw [hk] at c3;cases k
 ·rw [show tkAt tk s = none by unfold tkAt; rw [hk]; rfl];dsimp only;clear h hk;go_enter Tryz.func139, Tryz.ntmps139;go_upto_region 1 with (fail);refine wp_region_calm (fun _ w' => Rel w w') (fun _ => false) [0, 1, 2, 3, 4, 5, 6, 7, 8, 9, 10, 11, 12, 13, 14, 15, 16, 17, 18, 19, 20, 21, 22, 23, 24, 25, 26, 27, 28, 29, 30, 31, 32] 0 (by kernel_rfl) (by kernel_rfl) ?hst ?hS0 (fun w0 h0 => ?_)
  case hst => exact fun _ _ _ h r => h.trans r
  case hS0 => exact Rel.refl _
  iterate 6
   refine wpCalm_go rfl (by kernel_rfl) (fun K hK => ?_);apply Exists.intro;refine ⟨fun M w hM hS => ?_, hK _ ?_⟩
   ·have d3 := hS.cell c3;unfold calmAt;go_simp;exact ⟨rfl, Rel.refl _⟩
   clear hK K
  iterate 10 (refine wpCalm_no rfl (by kernel_rfl) (fun K hK => hK _ ?_); clear hK K)
  iterate 2
   refine wpCalm_go rfl (by kernel_rfl) (fun K hK => ?_);apply Exists.intro;refine ⟨fun M w hM hS => ?_, hK _ ?_⟩
   ·have d3 := hS.cell c3;unfold calmAt;go_simp;exact ⟨rfl, Rel.refl _⟩
   clear hK K
  iterate 13 (refine wpCalm_no rfl (by kernel_rfl) (fun K hK => hK _ ?_); clear hK K)
  iterate 2
   refine wpCalm_go rfl (by kernel_rfl) (fun K hK => ?_);apply Exists.intro;refine ⟨fun M w hM hS => ?_, hK _ ?_⟩
   ·have d3 := hS.cell c3;unfold calmAt;go_simp;exact ⟨rfl, Rel.refl _⟩
   clear hK K
  refine wpAnyR_end (by kernel_rfl) (fun w3 h3' => ?_);(try simp only [Act.put, List.setIfInBounds_toArray, List.set_cons_zero, List.set_cons_succ]);have h3 := h0.trans h3';clear h0 h3';have kz3 := h3.size;(try simp only [World.size_alloc, World.size_setCell, World.size_drew] at kz3);have H3 := Hj h3;clear h3;go_wp2;go_ret;exact ⟨rfl, H3.out⟩
 ·by_cases hi : s.i < tk.length
  ·obtain ⟨t, cap, ht, c0, q0, q1, q2⟩ := rdr_at h hi;rw [show tkAt tk s = some t by unfold tkAt; rw [if_pos hk]; exact ht];dsimp only;obtain ⟨n, hn⟩ : ∃ n, tk.length = n := ⟨_, rfl⟩;obtain ⟨i, hi'⟩ : ∃ i, s.i = i := ⟨_, rfl⟩;rw [hn] at c0 hi;rw [hi'] at q0 q1 q2 c1 hi;have ii : (i : Int) < (n : Int) := by omega
   clear h ht hk hn hle hi';go_enter Tryz.func139, Tryz.ntmps139;go_upto_region 1 with (fail);refine wp_region_calm (fun _ w' => Rel w w') (fun _ => false) [0, 1, 2, 3, 4, 5, 6, 7, 8, 9, 10, 11, 12, 13, 14, 15, 16, 17, 18, 19, 20, 21, 22, 23, 24, 25, 26, 27, 28, 29, 30, 31, 32] 0 (by kernel_rfl) (by kernel_rfl) ?hst ?hS0 (fun w0 h0 => ?_)
   case hst => exact fun _ _ _ h r => h.trans r
   case hS0 => exact Rel.refl _
   iterate 33
    refine wpCalm_go rfl (by kernel_rfl) (fun K hK => ?_);apply Exists.intro;refine ⟨fun M w hM hS => ?_, hK _ ?_⟩
    ·have d3 := hS.cell c3;have d0 := hS.cell c0;have d1 := hS.cell c1;have e1 := hS.cell q0;unfold calmAt;go_simp;exact ⟨rfl, Rel.refl _⟩
    clear hK K
   refine wpAnyR_end (by kernel_rfl) (fun w3 h3' => ?_);(try simp only [Act.put, List.setIfInBounds_toArray, List.set_cons_zero, List.set_cons_succ]);have h3 := h0.trans h3';clear h0 h3';have kz3 := h3.size;(try simp only [World.size_alloc, World.size_setCell, World.size_drew] at kz3);have H3 := Hj h3;clear h3;go_wp2;go_ret;exact ⟨ret_b2 (by simp), H3.out⟩
  ·rw [show tkAt tk s = none by unfold tkAt; rw [if_pos hk]; exact List.getElem?_eq_none (by omega)];dsimp only;obtain ⟨ad, cap, c0, -⟩ := h.tok;obtain ⟨n, hn⟩ : ∃ n, tk.length = n := ⟨_, rfl⟩;obtain ⟨i, hi'⟩ : ∃ i, s.i = i := ⟨_, rfl⟩;rw [hn] at c0 hi;rw [hi'] at c1 hi;have ii : decide ((i : Int) < (n : Int)) = false := dF (by omega);clear h hk hn hle hi';go_enter Tryz.func139, Tryz.ntmps139;go_upto_region 1 with (fail);refine wp_region_calm (fun _ w' => Rel w w') (fun _ => false) [0, 1, 2, 3, 4, 5, 6, 7, 8, 9, 10, 11, 12, 13, 14, 15, 16, 17, 18, 19, 20, 21, 22, 23, 24, 25, 26, 27, 28, 29, 30, 31, 32] 0 (by kernel_rfl) (by kernel_rfl) ?hst ?hS0 (fun w0 h0 => ?_)
   case hst => exact fun _ _ _ h r => h.trans r
   case hS0 => exact Rel.refl _
   iterate 18
    refine wpCalm_go rfl (by kernel_rfl) (fun K hK => ?_);apply Exists.intro;refine ⟨fun M w hM hS => ?_, hK _ ?_⟩
    ·have d3 := hS.cell c3;have d0 := hS.cell c0;have d1 := hS.cell c1;unfold calmAt;go_simp;exact ⟨rfl, Rel.refl _⟩
    clear hK K
   iterate 13 (refine wpCalm_no rfl (by kernel_rfl) (fun K hK => hK _ ?_); clear hK K)
   iterate 2
    refine wpCalm_go rfl (by kernel_rfl) (fun K hK => ?_);apply Exists.intro;refine ⟨fun M w hM hS => ?_, hK _ ?_⟩
    ·have d3 := hS.cell c3;have d0 := hS.cell c0;have d1 := hS.cell c1;unfold calmAt;go_simp;exact ⟨rfl, Rel.refl _⟩
    clear hK K
   refine wpAnyR_end (by kernel_rfl) (fun w3 h3' => ?_);(try simp only [Act.put, List.setIfInBounds_toArray, List.set_cons_zero, List.set_cons_succ]);have h3 := h0.trans h3';clear h0 h3';have kz3 := h3.size;(try simp only [World.size_alloc, World.size_setCell, World.size_drew] at kz3);have H3 := Hj h3;clear h3;go_wp2;go_ret;exact ⟨rfl, H3.out⟩
def RAcc (b G : Nat) (tk : List Tk) (E : Int) (x : List UInt8) (s : Pt) (w : World) (e : Ending) (w' : World) : Prop := e = .returned (.bool (accB tk x s)) ∧ Rdr w' b G tk E (accP tk x s) ∧ Ro b w w'
set_option maxHeartbeats 4000000 in
theorem rtake_any (b G : Nat) (tk : List Tk) (E : Int) (s : Pt) (X : ByteArray) (w : World) (h : Rdr w b G tk E s) (hx : TxOk tk X.data.toList) (hlen : tk.length ≤ 8000) : Calls Tryz.prog 74 #[.pointer (some ⟨b, 0, none⟩), .string X] w (RAcc b G tk E X.data.toList s w) := by
 have I := Hj (ris_any b G tk E s X w h hx);have HP := Hj h;unfold BRes at I;unfold RAcc accP;obtain ⟨k, hk⟩ : ∃ k, accB tk X.data.toList s = k := ⟨_, rfl⟩;rw [hk] at I ⊢;clear h;cases k
 ·rw [if_neg (by simp)];clear hk;go_enter Tryz.func74, Tryz.ntmps74;go_wp2_with fail;refine I.out.mono ?_;rintro e w1 ⟨rfl, h1⟩;have P1 := Hj (HP.out.rel h1);have R1 := Hj (Ro.of (b := b) h1);clear h1;go_wp2;go_ret;exact ⟨rfl, P1.out, R1.out⟩
 ·rw [if_pos rfl];obtain ⟨t, ht, -⟩ := accB_some hk;obtain ⟨ho, hi, -⟩ := tkAt_some ht;have wi : IntKind.i64.wrap ((s.i : Int) + 1) = (s.i : Int) + 1 := IntWalk.i64_in _ ⟨by omega, by omega⟩;have HI := Hj hi;clear hk ht hi;go_enter Tryz.func74, Tryz.ntmps74;go_wp2_with fail;refine I.out.mono ?_;rintro e w1 ⟨rfl, h1⟩;have P1 := Hj (HP.out.rel h1);have R1 := Hj (Ro.of (b := b) h1);have c1 := P1.out.c1;have f1 := P1.out.f1;have hlt := P1.out.lt;clear h1;go_wp2;go_ret;exact ⟨rfl, P1.out.adv HI.out, R1.out.set 1 _⟩
set_option maxHeartbeats 4000000 in
theorem rwant_any (b G : Nat) (tk : List Tk) (E : Int) (s : Pt) (X : ByteArray) (w : World) (h : Rdr w b G tk E s) (hx : TxOk tk X.data.toList) (hlen : tk.length ≤ 8000) : Calls Tryz.prog 71 #[.pointer (some ⟨b, 0, none⟩), .string X] w (RUn b G tk E (expP tk X.data.toList s) w) := by
 have I := Hj (rtake_any b G tk E s X w h hx hlen);unfold RAcc accP at I;unfold RUn expP;obtain ⟨k, hk⟩ : ∃ k, accB tk X.data.toList s = k := ⟨_, rfl⟩;rw [hk] at I ⊢;clear h hk;cases k
 ·rw [if_neg (by simp)] at I ⊢;go_enter Tryz.func71, Tryz.ntmps71;go_wp2_with fail;refine I.out.mono ?_;rintro e w1 ⟨rfl, hP, h1⟩;have P1 := Hj hP;have R1 := Hj h1;clear hP h1;go_wp2_with fail;refine (rstop_any b G tk E s _ P1.out).mono ?_;unfold RUn;rintro e w2 ⟨⟨v, rfl⟩, hP, h2⟩;have P2 := Hj hP;have R2 := Hj (R1.out.trans h2);clear hP h2;((try simp only []); (repeat (first | go_values | go_skip | go_guarded | go_step | go_upon | go_in)));exact Go.Great.bodyPost_end0 rfl rfl ⟨⟨_, rfl⟩, P2.out, R2.out⟩
 ·rw [if_pos rfl] at I ⊢;go_enter Tryz.func71, Tryz.ntmps71;go_wp2_with fail;refine I.out.mono ?_;rintro e w1 ⟨rfl, hP, h1⟩;have P1 := Hj hP;have R1 := Hj h1;clear hP h1;((try simp only []); (repeat (first | go_values | go_skip | go_guarded | go_step | go_upon | go_in)));exact Go.Great.bodyPost_end0 rfl rfl ⟨⟨_, rfl⟩, P1.out, R1.out⟩
theorem pk_tok {tk : List Tk} {s : Pt} (ho : s.ok = true) {t : Tk} (ht : tk[s.i]? = some t) : pkK tk s = t.K ∧ pkT tk s = t.T := by
 obtain ⟨h1, h2, -⟩ := pk_at (E := 0) ho ht;exact ⟨h1, h2⟩
def RNam (b G : Nat) (tk : List Tk) (E : Int) (s : Pt) (w : World) (e : Ending) (w' : World) : Prop := e = .returned (.string (namT tk s)) ∧ Rdr w' b G tk E (namP tk s) ∧ Ro b w w'
set_option maxRecDepth 20000 in
set_option maxHeartbeats 4000000 in
theorem rname_any (b G : Nat) (tk : List Tk) (E : Int) (s : Pt) (w : World) (h : Rdr w b G tk E s) (hT : TksOk tk) : Calls Tryz.prog 72 #[.pointer (some ⟨b, 0, none⟩)] w (RNam b G tk E s w) := by
 have HP := Hj h;have KD := Hj fun w' (r : Rel w w') => rkind_any b G tk E s 1 w' (HP.out.rel r) (by decide)
 have hz := pkT_size hT s;have hlt := h.lt;have hO := namO_pk tk s;unfold BRes at KD;unfold RNam namT namP;by_cases hk : pkK tk s = 1
 ·have ek : (pkK tk s == 1) = true := by rw [beq_iff_eq]; exact hk
  rw [ek] at KD hO;obtain ⟨ho, hi⟩ := pkK_some (tk := tk) (s := s) (by omega);obtain ⟨t, cap, ht, c0, q0, q1, q2⟩ := rdr_at h hi;have c1 := h.c1;obtain ⟨-, eT⟩ := pk_tok ho ht;rw [eT] at hz hO ⊢;obtain ⟨T, hT'⟩ : ∃ T, t.T = T := ⟨_, rfl⟩;rw [hT'] at q1 hz hO ⊢;have I := Hj fun w => rIsName_any T w hz
  obtain ⟨nb, hnb⟩ : ∃ nb, namB T = nb := ⟨_, rfl⟩;rw [hnb] at I hO;have hlen := hT.len;obtain ⟨n, hn⟩ : ∃ n, tk.length = n := ⟨_, rfl⟩;rw [hn] at c0;have hi0 := hi;rw [hn] at hi;have HI := Hj hi0;obtain ⟨i, hi'⟩ : ∃ i, s.i = i := ⟨_, rfl⟩;rw [hi'] at q0 q1 q2 c1 hi;have HII := Hj hi';have ii : (i : Int) < (n : Int) := by omega
  have wi : IntKind.i64.wrap ((i : Int) + 1) = (i : Int) + 1 := IntWalk.i64_in _ ⟨by omega, by omega⟩;have wj : IntKind.i64.wrap ((i : Int) + 1 - 1) = (i : Int) := by rw [IntWalk.i64_in _ ⟨by omega, by omega⟩]; omega
  have wk : IntKind.i64.wrap (i : Int) = (i : Int) := IntWalk.i64_in _ ⟨by omega, by omega⟩
  have hGb : G ≠ b := by
   rcases HP.out.toks with e | ⟨-, h, -⟩
   ·subst e; simp at ht
   ·exact h
  clear h ht hnb hT' eT hk ek hi0 hi' hlen hT;rw [Bool.true_and] at hO;cases nb
  ·rw [hO, if_neg (by simp), if_neg (by simp)];clear hO hn;go_enter Tryz.func72, Tryz.ntmps72;go_upto_region 1 with (fail);refine wp_region_calm (fun _ w' => Rel w w') (fun _ => false) [0, 1, 2, 3, 4, 5, 6, 7, 8, 9, 10, 11, 12, 13, 14, 15, 16, 17] 0 (by kernel_rfl) (by kernel_rfl) ?hst ?hS0 (fun w0 h0 => ?_)
   case hst => exact fun _ _ _ h r => h.trans r
   case hS0 => exact Rel.refl _
   iterate 1
    refine wpCalm_go rfl (by kernel_rfl) (fun K hK => ?_);apply Exists.intro;refine ⟨fun M w hM hS => ?_, hK _ ?_⟩
    ·unfold calmAt;go_simp;exact ⟨rfl, Rel.refl _⟩
    clear hK K
   refine wpCalm_go rfl (by kernel_rfl) (fun K hK => ?_);apply Exists.intro;refine ⟨fun M w hM hS => ?_, hK _ ?_⟩
   ·unfold calmAt;go_simp
    with_reducible refine (KD.out _ hS).mono ?_
    rintro e w1 ⟨rfl, hb⟩;exact ⟨rfl, hb⟩
   clear hK K
   iterate 13
    refine wpCalm_go rfl (by kernel_rfl) (fun K hK => ?_);apply Exists.intro;refine ⟨fun M w hM hS => ?_, hK _ ?_⟩
    ·have d0 := hS.cell c0;have d1 := hS.cell c1;have e1 := hS.cell q1;unfold calmAt;go_simp;exact ⟨rfl, Rel.refl _⟩
    clear hK K
   refine wpCalm_go rfl (by kernel_rfl) (fun K hK => ?_);apply Exists.intro;refine ⟨fun M w hM hS => ?_, hK _ ?_⟩
   ·unfold calmAt;go_simp
    with_reducible refine (I.out _).mono ?_
    rintro e w1 ⟨rfl, rfl⟩;exact ⟨rfl, Rel.refl _⟩
   clear hK K
   iterate 2
    refine wpCalm_go rfl (by kernel_rfl) (fun K hK => ?_);apply Exists.intro;refine ⟨fun M w hM hS => ?_, hK _ ?_⟩
    ·unfold calmAt;go_simp;exact ⟨rfl, Rel.refl _⟩
    clear hK K
   refine wpCalm_nil (wpAnyR_end (by kernel_rfl) (fun w3 h3' => ?_));(try simp only [Act.put, List.setIfInBounds_toArray, List.set_cons_zero, List.set_cons_succ]);have h3 := h0.trans h3';clear h0 h3';have P3 := Hj (HP.out.rel h3);have R3 := Hj (Ro.of (b := b) h3);clear h3;go_wp2_with fail;refine (rstop_any b G tk E s _ P3.out).mono ?_;unfold RUn;rintro e w4 ⟨⟨v, rfl⟩, hP, h4⟩;have P4 := Hj hP;have R4 := Hj (R3.out.trans h4);clear hP h4;go_wp2;go_ret;exact ⟨rfl, P4.out, R4.out⟩
  ·rw [hO, if_pos rfl, if_pos rfl];clear hO;go_enter Tryz.func72, Tryz.ntmps72;go_upto_region 1 with (fail);refine wp_region_calm (fun _ w' => Rel w w') (fun _ => false) [0, 1, 2, 3, 4, 5, 6, 7, 8, 9, 10, 11, 12, 13, 14, 15, 16, 17] 0 (by kernel_rfl) (by kernel_rfl) ?hst ?hS0 (fun w0 h0 => ?_)
   case hst => exact fun _ _ _ h r => h.trans r
   case hS0 => exact Rel.refl _
   iterate 1
    refine wpCalm_go rfl (by kernel_rfl) (fun K hK => ?_);apply Exists.intro;refine ⟨fun M w hM hS => ?_, hK _ ?_⟩
    ·unfold calmAt;go_simp;exact ⟨rfl, Rel.refl _⟩
    clear hK K
   refine wpCalm_go rfl (by kernel_rfl) (fun K hK => ?_);apply Exists.intro;refine ⟨fun M w hM hS => ?_, hK _ ?_⟩
   ·unfold calmAt;go_simp
    with_reducible refine (KD.out _ hS).mono ?_
    rintro e w1 ⟨rfl, hb⟩;exact ⟨rfl, hb⟩
   clear hK K
   iterate 13
    refine wpCalm_go rfl (by kernel_rfl) (fun K hK => ?_);apply Exists.intro;refine ⟨fun M w hM hS => ?_, hK _ ?_⟩
    ·have d0 := hS.cell c0;have d1 := hS.cell c1;have e1 := hS.cell q1;unfold calmAt;go_simp;exact ⟨rfl, Rel.refl _⟩
    clear hK K
   refine wpCalm_go rfl (by kernel_rfl) (fun K hK => ?_);apply Exists.intro;refine ⟨fun M w hM hS => ?_, hK _ ?_⟩
   ·unfold calmAt;go_simp
    with_reducible refine (I.out _).mono ?_
    rintro e w1 ⟨rfl, rfl⟩;exact ⟨rfl, Rel.refl _⟩
   clear hK K
   iterate 2
    refine wpCalm_go rfl (by kernel_rfl) (fun K hK => ?_);apply Exists.intro;refine ⟨fun M w hM hS => ?_, hK _ ?_⟩
    ·unfold calmAt;go_simp;exact ⟨rfl, Rel.refl _⟩
    clear hK K
   refine wpCalm_nil (wpAnyR_end (by kernel_rfl) (fun w3 h3' => ?_));(try simp only [Act.put, List.setIfInBounds_toArray, List.set_cons_zero, List.set_cons_succ]);have h3 := h0.trans h3';clear h0 h3';have P3 := Hj (HP.out.rel h3);have R3 := Hj (Ro.of (b := b) h3);have PA := Hj (P3.out.adv HI.out);have RA := Hj (R3.out.set 1 (.int .i64 ((s.i : Int) + 1)));rw [HII.out] at PA RA;have f1 := P3.out.f1;have hlt3 := P3.out.lt;have b1 := h3.cell c1;have b0 := h3.cell c0;have bq := h3.cell q1;have hG3 : G < w3.heap.size := World.block_lt_of_cell? _ _ bq;clear h3;obtain ⟨Y, hY⟩ : ∃ Y, w3.setCell ⟨b, 1, none⟩ (.int .i64 ((i : Int) + 1)) = Y := ⟨_, rfl⟩;have y1 : Y.cell? ⟨b, 1, none⟩ = some (.int .i64 ((i : Int) + 1)) := by rw [← hY]; exact World.cell?_setCell_same _ _ _ b1
   have y0 : Y.cell? ⟨b, 0, none⟩ = some (.slice (some ⟨G, 0, none⟩) n cap) := by rw [← hY, World.cell?_setCell_other _ _ _ _ (by simp)]; exact b0
   have yq : Y.cell? ⟨G, i * 3 + 1, none⟩ = some (.string T) := by rw [← hY, World.cell?_setCell_other _ _ _ _ (by intro e; injection e with e _; exact hGb e.symm)]; exact bq
   rw [hY] at PA RA;go_wp2_with fail;(try rw [hY]);clear hY b0 b1 bq;refine wp_region_calm (fun _ w' => Rel Y w') (fun _ => false) [0, 1, 2, 3, 4, 5, 6, 7, 8, 9, 10, 11, 12] 0 (by kernel_rfl) (by kernel_rfl) ?hst ?hS0 (fun w0 h0 => ?_)
   case hst => exact fun _ _ _ h r => h.trans r
   case hS0 => exact Rel.refl _
   iterate 13
    refine wpCalm_go rfl (by kernel_rfl) (fun K hK => ?_);apply Exists.intro;refine ⟨fun M w hM hS => ?_, hK _ ?_⟩
    ·have d0 := hS.cell y0;have d1 := hS.cell y1;have e1 := hS.cell yq;unfold calmAt;go_simp;exact ⟨rfl, Rel.refl _⟩
    clear hK K
   refine wpAnyR_end (by kernel_rfl) (fun w5 h5' => ?_);(try simp only [Act.put, List.setIfInBounds_toArray, List.set_cons_zero, List.set_cons_succ]);have h5 := h0.trans h5';clear h0 h5';have kz5 := h5.size;(try simp only [World.size_alloc, World.size_setCell, World.size_drew] at kz5);have H5 := Hj h5;clear h5;go_wp2;go_ret;exact ⟨rfl, PA.out.rel H5.out, RA.out.trans (Ro.of H5.out)⟩
 ·have ek : (pkK tk s == 1) = false := by rw [beq_eq_false_iff_ne]; exact hk
  rw [ek] at KD hO;rw [Bool.false_and] at hO;rw [hO, if_neg (by simp), if_neg (by simp)];clear h hO hz ek hk;go_enter Tryz.func72, Tryz.ntmps72;go_upto_region 1 with (fail);refine wp_region_calm (fun _ w' => Rel w w') (fun _ => false) [0, 1, 2, 3, 4, 5, 6, 7, 8, 9, 10, 11, 12, 13, 14, 15, 16, 17] 0 (by kernel_rfl) (by kernel_rfl) ?hst ?hS0 (fun w0 h0 => ?_)
  case hst => exact fun _ _ _ h r => h.trans r
  case hS0 => exact Rel.refl _
  iterate 1
   refine wpCalm_go rfl (by kernel_rfl) (fun K hK => ?_);apply Exists.intro;refine ⟨fun M w hM hS => ?_, hK _ ?_⟩
   ·unfold calmAt;go_simp;exact ⟨rfl, Rel.refl _⟩
   clear hK K
  refine wpCalm_go rfl (by kernel_rfl) (fun K hK => ?_);apply Exists.intro;refine ⟨fun M w hM hS => ?_, hK _ ?_⟩
  ·unfold calmAt;go_simp
   with_reducible refine (KD.out _ hS).mono ?_
   rintro e w1 ⟨rfl, hb⟩;exact ⟨rfl, hb⟩
  clear hK K
  iterate 2
   refine wpCalm_go rfl (by kernel_rfl) (fun K hK => ?_);apply Exists.intro;refine ⟨fun M w hM hS => ?_, hK _ ?_⟩
   ·unfold calmAt;go_simp;exact ⟨rfl, Rel.refl _⟩
   clear hK K
  iterate 13 (refine wpCalm_no rfl (by kernel_rfl) (fun K hK => hK _ ?_); clear hK K)
  iterate 1
   refine wpCalm_go rfl (by kernel_rfl) (fun K hK => ?_);apply Exists.intro;refine ⟨fun M w hM hS => ?_, hK _ ?_⟩
   ·unfold calmAt;go_simp;exact ⟨rfl, Rel.refl _⟩
   clear hK K
  refine wpCalm_nil (wpAnyR_end (by kernel_rfl) (fun w3 h3' => ?_));(try simp only [Act.put, List.setIfInBounds_toArray, List.set_cons_zero, List.set_cons_succ]);have h3 := h0.trans h3';clear h0 h3';have P3 := Hj (HP.out.rel h3);have R3 := Hj (Ro.of (b := b) h3);clear h3;go_wp2_with fail;refine (rstop_any b G tk E s _ P3.out).mono ?_;unfold RUn;rintro e w4 ⟨⟨v, rfl⟩, hP, h4⟩;have P4 := Hj hP;have R4 := Hj (R3.out.trans h4);clear hP h4;go_wp2;go_ret;exact ⟨rfl, P4.out, R4.out⟩
def RNum (b G : Nat) (tk : List Tk) (E lo hi : Int) (s : Pt) (w : World) (e : Ending) (w' : World) : Prop := e = .returned (.int .i64 (numT tk lo hi s)) ∧ Rdr w' b G tk E (numP tk lo hi s) ∧ Ro b w w'
set_option maxRecDepth 20000 in
set_option maxHeartbeats 8000000 in
theorem rwhole_any (b G : Nat) (tk : List Tk) (E lo hi : Int) (s : Pt) (w : World) (h : Rdr w b G tk E s) (hT : TksOk tk) : Calls Tryz.prog 73 #[.pointer (some ⟨b, 0, none⟩), .int .i64 lo, .int .i64 hi] w (RNum b G tk E lo hi s w) := by
 have HP := Hj h;have KD := Hj fun w' (r : Rel w w') => rkind_any b G tk E s 2 w' (HP.out.rel r) (by decide)
 have hz := pkT_size hT s;have hlt := h.lt;have hO := numO_pk tk lo hi s;unfold BRes at KD;unfold RNum numT numP;by_cases hk : pkK tk s = 2
 ·have ek : (pkK tk s == 2) = true := by rw [beq_iff_eq]; exact hk
  rw [ek] at KD hO;obtain ⟨ho, hi0⟩ := pkK_some (tk := tk) (s := s) (by omega);obtain ⟨t, cap, ht, c0, q0, q1, q2⟩ := rdr_at h hi0;have c1 := h.c1;obtain ⟨eK, eT⟩ := pk_tok ho ht;have hdB : decB t.T = true := (hT.each t (List.mem_of_getElem? ht)).2.2.2.2 (by rw [← eK]; exact hk);rw [eT] at hz hO ⊢;obtain ⟨T, hT'⟩ : ∃ T, t.T = T := ⟨_, rfl⟩;rw [hT'] at q1 hz hO hdB ⊢;have D := Hj fun w => rDecimal_any T w (by unfold maxLen; omega)
  unfold DecRes at D;rw [hdB] at D;have hwB : whoB T = (decX T == 2 && decD T == 1) := by unfold whoB; rw [hdB]; rfl
  rw [hwB] at hO;obtain ⟨N, hN⟩ : ∃ N, decN T = N := ⟨_, rfl⟩;obtain ⟨DD, hDD⟩ : ∃ N, decD T = N := ⟨_, rfl⟩;obtain ⟨XX, hXX⟩ : ∃ N, decX T = N := ⟨_, rfl⟩;rw [hN, hDD, hXX] at D;rw [hN, hDD, hXX] at hO;rw [hN];have hlen := hT.len;obtain ⟨n, hn⟩ : ∃ n, tk.length = n := ⟨_, rfl⟩;rw [hn] at c0;have HI := Hj hi0;rw [hn] at hi0;obtain ⟨i, hi'⟩ : ∃ i, s.i = i := ⟨_, rfl⟩;rw [hi'] at q0 q1 q2 c1 hi0;have HII := Hj hi';have ii : (i : Int) < (n : Int) := by omega
  have wi : IntKind.i64.wrap ((i : Int) + 1) = (i : Int) + 1 := IntWalk.i64_in _ ⟨by omega, by omega⟩;clear h ht hT' eT eK hk ek hi' hT hdB hwB hN hDD hXX;rw [Bool.true_and] at hO;obtain ⟨O, hOO⟩ : ∃ O, numO tk lo hi s = O := ⟨_, rfl⟩;rw [hOO] at hO ⊢;clear hOO;obtain ⟨V, hV⟩ : ∃ V, (if O = true then N else 0) = V := ⟨_, rfl⟩;obtain ⟨Sx, hSx⟩ : ∃ V, (if O = true then s.adv else s.no) = V := ⟨_, rfl⟩;rw [hV, hSx];have HV := Hj hV;have HSx := Hj hSx;clear hV hSx;go_enter Tryz.func73, Tryz.ntmps73;go_wp2_with fail;refine (KD.out _ (Rel.refl _)).mono ?_;rintro e w1 ⟨rfl, h1⟩;have b0 := h1.cell c0;have b1 := h1.cell c1;have bq := h1.cell q1;have R1 := Hj h1;clear h1;go_wp2_with fail;refine wp_region_calm (fun _ w' => Rel w1 w') (fun _ => false) [0, 1, 2, 3, 4, 5, 6, 7, 8, 9, 10, 11, 12, 13, 14, 15] 4 (by kernel_rfl) (by kernel_rfl) ?hst ?hS0 (fun w0 h0 => ?_)
  case hst => exact fun _ _ _ h r => h.trans r
  case hS0 => exact Rel.refl _
  iterate 11
   refine wpCalm_go rfl (by kernel_rfl) (fun K hK => ?_);apply Exists.intro;refine ⟨fun M w hM hS => ?_, hK _ ?_⟩
   ·have d0 := hS.cell b0;have d1 := hS.cell b1;have e1 := hS.cell bq;unfold calmAt;go_simp;exact ⟨rfl, Rel.refl _⟩
   clear hK K
  refine wpCalm_go rfl (by kernel_rfl) (fun K hK => ?_);apply Exists.intro;refine ⟨fun M w hM hS => ?_, hK _ ?_⟩
  ·unfold calmAt;go_simp
   with_reducible refine (D.out _).mono ?_
   rintro e w1 ⟨rfl, hb⟩;exact ⟨rfl, hb⟩
  clear hK K
  iterate 4
   refine wpCalm_go rfl (by kernel_rfl) (fun K hK => ?_);apply Exists.intro;refine ⟨fun M w hM hS => ?_, hK _ ?_⟩
   ·unfold calmAt;go_simp;exact ⟨rfl, Rel.refl _⟩
   clear hK K
  refine wpCalm_nil ?_;have kz3 := h0.size;(try simp only [World.size_alloc, World.size_setCell, World.size_drew] at kz3);have H3 := Hj h0;clear h0;refine wpAnyR_ready (rs := [16]) (by kernel_rfl) (by simp) (AllR.cons rfl (fun w4 h4 K' hK' => ?_) AllR.nil);have kz4 := h4.size;(try simp only [World.size_alloc, World.size_setCell, World.size_drew] at kz4);have H4 := Hj h4;clear h4;go_simp;refine hK'.out _ _ (by (show Rel _ _; repeat (first | with_reducible exact Rel.refl _ | with_reducible refine Rel.alloc ?_ _ | with_reducible refine Rel.setCell ?_ (by first | (simp; done) | (simp; omega)) _ | with_reducible refine Rel.drew ?_ | with_reducible refine Rel.trans ?_ H4.out | with_reducible refine Rel.trans ?_ H3.out | with_reducible refine Rel.trans ?_ H2.out | with_reducible refine Rel.trans ?_ H1.out | with_reducible refine Rel.trans ?_ H0.out))) ?_;clear hK' K';refine wpAnyR_ready (rs := [17]) (by kernel_rfl) (by simp) (AllR.cons rfl (fun w5 h5 K' hK' => ?_) AllR.nil);have kq0 := keep2 h5 (b := w4.heap.size) (by first | (simp; done) | (simp; omega) | omega);have kz5 := h5.size;(try simp only [World.size_alloc, World.size_setCell, World.size_drew] at kz5);have H5 := Hj h5;clear h5;go_simp;refine hK'.out _ _ (by (show Rel _ _; repeat (first | with_reducible exact Rel.refl _ | with_reducible refine Rel.alloc ?_ _ | with_reducible refine Rel.setCell ?_ (by first | (simp; done) | (simp; omega)) _ | with_reducible refine Rel.drew ?_ | with_reducible refine Rel.trans ?_ H5.out | with_reducible refine Rel.trans ?_ H4.out | with_reducible refine Rel.trans ?_ H3.out | with_reducible refine Rel.trans ?_ H2.out | with_reducible refine Rel.trans ?_ H1.out | with_reducible refine Rel.trans ?_ H0.out))) ?_;clear hK' K';refine wpAnyR_ready (rs := [18]) (by kernel_rfl) (by simp) (AllR.cons rfl (fun w6 h6 K' hK' => ?_) AllR.nil);have kq1 := keep2 h6 (b := w4.heap.size) (by first | (simp; done) | (simp; omega) | omega);have kz6 := h6.size;(try simp only [World.size_alloc, World.size_setCell, World.size_drew] at kz6);have H6 := Hj h6;clear h6;go_simp;refine hK'.out _ _ (by (show Rel _ _; repeat (first | with_reducible exact Rel.refl _ | with_reducible refine Rel.alloc ?_ _ | with_reducible refine Rel.setCell ?_ (by first | (simp; done) | (simp; omega)) _ | with_reducible refine Rel.drew ?_ | with_reducible refine Rel.trans ?_ H6.out | with_reducible refine Rel.trans ?_ H5.out | with_reducible refine Rel.trans ?_ H4.out | with_reducible refine Rel.trans ?_ H3.out | with_reducible refine Rel.trans ?_ H2.out | with_reducible refine Rel.trans ?_ H1.out | with_reducible refine Rel.trans ?_ H0.out))) ?_;clear hK' K';refine wpAnyR_ready (rs := [19]) (by kernel_rfl) (by simp) (AllR.cons rfl (fun w7 h7 K' hK' => ?_) AllR.nil);have kq2 := keep2 h7 (b := w4.heap.size) (by first | (simp; done) | (simp; omega) | omega);have kz7 := h7.size;(try simp only [World.size_alloc, World.size_setCell, World.size_drew] at kz7);have H7 := Hj h7;clear h7;go_simp;refine hK'.out _ _ (by (show Rel _ _; repeat (first | with_reducible exact Rel.refl _ | with_reducible refine Rel.alloc ?_ _ | with_reducible refine Rel.setCell ?_ (by first | (simp; done) | (simp; omega)) _ | with_reducible refine Rel.drew ?_ | with_reducible refine Rel.trans ?_ H7.out | with_reducible refine Rel.trans ?_ H6.out | with_reducible refine Rel.trans ?_ H5.out | with_reducible refine Rel.trans ?_ H4.out | with_reducible refine Rel.trans ?_ H3.out | with_reducible refine Rel.trans ?_ H2.out | with_reducible refine Rel.trans ?_ H1.out | with_reducible refine Rel.trans ?_ H0.out))) ?_;clear hK' K';refine wpAnyR_end (by kernel_rfl) (fun w8 h8 => ?_);(try simp only [Act.put, List.setIfInBounds_toArray, List.set_cons_zero, List.set_cons_succ]);have kq3 := keep2 h8 (b := w4.heap.size) (by first | (simp; done) | (simp; omega) | omega);have kz8 := h8.size;(try simp only [World.size_alloc, World.size_setCell, World.size_drew] at kz8);have H8 := Hj h8;clear h8;have RL : Hid (Rel w1 w8) := by (show Rel _ _; repeat (first | with_reducible exact Rel.refl _ | with_reducible refine Rel.alloc ?_ _ | with_reducible refine Rel.setCell ?_ (by first | (simp; done) | (simp; omega)) _ | with_reducible refine Rel.drew ?_ | with_reducible refine Rel.trans ?_ H8.out | with_reducible refine Rel.trans ?_ H7.out | with_reducible refine Rel.trans ?_ H6.out | with_reducible refine Rel.trans ?_ H5.out | with_reducible refine Rel.trans ?_ H4.out | with_reducible refine Rel.trans ?_ H3.out | with_reducible refine Rel.trans ?_ H2.out | with_reducible refine Rel.trans ?_ H1.out | with_reducible refine Rel.trans ?_ H0.out))
  have R8 := Hj (R1.out.trans RL.out);have P8 := Hj (HP.out.rel R8.out);have RO8 := Hj (Ro.of (b := b) R8.out);have a0 := P8.out.c1;rw [HII.out] at a0;have f1 := P8.out.f1;have l8 := P8.out.lt;have PA := Hj (P8.out.adv HI.out);have RA := Hj (RO8.out.set 1 (.int .i64 ((s.i : Int) + 1)));rw [HII.out] at PA RA;have nb4 : ¬ w4.heap.size = b := by have := R1.out.size; have := H3.out.size; have := H4.out.size; omega
  by_cases hx : XX = 2
  ·have ex : (XX == 2) = true := by rw [beq_iff_eq]; exact hx
   by_cases hd : DD = 1
   ·have ed : (DD == 1) = true := by rw [beq_iff_eq]; exact hd
    by_cases h3 : lo ≤ N
    ·have e3 : decide (lo ≤ N) = true := decide_eq_true h3;by_cases h4 : N ≤ hi
     ·have e4 : decide (N ≤ hi) = true := decide_eq_true h4;rw [ex, ed, e3, e4] at hO;have hO' : O = true := hO;subst hO';have hV := HV.out;have hSx := HSx.out;rw [if_pos rfl] at hV hSx;subst hV hSx;subst hx hd;clear hO;go_wp2;go_ret;exact ⟨rfl, PA.out, RA.out⟩
     ·have e4 : decide (N ≤ hi) = false := decide_eq_false h4;rw [ex, ed, e3, e4] at hO;have hO' : O = false := hO;subst hO';have hV := HV.out;have hSx := HSx.out;rw [if_neg (by simp)] at hV hSx;subst hV hSx;subst hx hd;clear hO PA RA;go_wp2_with fail;refine (rstop_any b G tk E s _ P8.out).mono ?_;unfold RUn;rintro e w9 ⟨⟨v, rfl⟩, hP, h9⟩;have P9 := Hj hP;have R9 := Hj (RO8.out.trans h9);clear hP h9;go_wp2;go_ret;exact ⟨rfl, P9.out, R9.out⟩
    ·have e3 : decide (lo ≤ N) = false := decide_eq_false h3;rw [ex, ed, e3] at hO;have hO' : O = false := by rw [hO]; simp
     subst hO';have hV := HV.out;have hSx := HSx.out;rw [if_neg (by simp)] at hV hSx;subst hV hSx;subst hx hd;clear hO PA RA;go_wp2_with fail;refine (rstop_any b G tk E s _ P8.out).mono ?_;unfold RUn;rintro e w9 ⟨⟨v, rfl⟩, hP, h9⟩;have P9 := Hj hP;have R9 := Hj (RO8.out.trans h9);clear hP h9;go_wp2;go_ret;exact ⟨rfl, P9.out, R9.out⟩
   ·have ed : (DD == 1) = false := by rw [beq_eq_false_iff_ne]; exact hd
    rw [ex, ed] at hO;have hO' : O = false := by rw [hO]; simp
    subst hO';have hV := HV.out;have hSx := HSx.out;rw [if_neg (by simp)] at hV hSx;subst hV hSx;subst hx;clear hO PA RA;go_wp2_with fail;refine (rstop_any b G tk E s _ P8.out).mono ?_;unfold RUn;rintro e w9 ⟨⟨v, rfl⟩, hP, h9⟩;have P9 := Hj hP;have R9 := Hj (RO8.out.trans h9);clear hP h9;go_wp2;go_ret;exact ⟨rfl, P9.out, R9.out⟩
  ·have ex : (XX == 2) = false := by rw [beq_eq_false_iff_ne]; exact hx
   rw [ex] at hO;have hO' : O = false := by rw [hO]; simp
   subst hO';have hV := HV.out;have hSx := HSx.out;rw [if_neg (by simp)] at hV hSx;subst hV hSx;clear hO PA RA;go_wp2_with fail;refine (rstop_any b G tk E s _ P8.out).mono ?_;unfold RUn;rintro e w9 ⟨⟨v, rfl⟩, hP, h9⟩;have P9 := Hj hP;have R9 := Hj (RO8.out.trans h9);clear hP h9;go_wp2;go_ret;exact ⟨rfl, P9.out, R9.out⟩
 ·have ek : (pkK tk s == 2) = false := by rw [beq_eq_false_iff_ne]; exact hk
  rw [ek] at KD hO;rw [Bool.false_and] at hO;rw [hO, if_neg (by simp), if_neg (by simp)];clear h hO hz ek hk;go_enter Tryz.func73, Tryz.ntmps73;go_wp2_with fail;refine (KD.out _ (Rel.refl _)).mono ?_;rintro e w1 ⟨rfl, h1⟩;have P3 := Hj (HP.out.rel h1);have R3 := Hj (Ro.of (b := b) h1);clear h1;go_wp2_with fail;refine (rstop_any b G tk E s _ P3.out).mono ?_;unfold RUn;rintro e w4 ⟨⟨v, rfl⟩, hP, h4⟩;have P4 := Hj hP;have R4 := Hj (R3.out.trans h4);clear hP h4;go_wp2;go_ret;exact ⟨rfl, P4.out, R4.out⟩
def HdT (t : Tk) : Prop := (t.K = 2 ∨ t.K = 3) → ∃ c l, t.T.data.toList = c :: l ∧ (dgb c = true ∨ (c.toNat : Int) = 64)
def TkHd (tk : List Tk) : Prop := ∀ t ∈ tk, HdT t
def xokB (x : List UInt8) : Bool := match x with | [] => true | c :: _ => !dgb c && !((c.toNat : Int) == 64)
theorem txOk_of {tk : List Tk} (h : TkHd tk) (hT : TksOk tk) {x : List UInt8} (hx : xokB x = true) : TxOk tk x := fun t ht e => by
 rcases (hT.each t ht).2.2.2.1 with k | k | k | k
 ·exact .inl k
 ·exfalso
  obtain ⟨c, l, e', hc⟩ := h t ht (.inl k);rw [e] at e';subst e';have hx' : (!dgb c && !((c.toNat : Int) == 64)) = true := hx
  rcases hc with hc | hc
  ·rw [hc] at hx'; simp at hx'
  ·rw [hc] at hx'; simp at hx'
 ·exfalso
  obtain ⟨c, l, e', hc⟩ := h t ht (.inr k);rw [e] at e';subst e';have hx' : (!dgb c && !((c.toNat : Int) == 64)) = true := hx
  rcases hc with hc | hc
  ·rw [hc] at hx'; simp at hx'
  ·rw [hc] at hx'; simp at hx'
 ·exact .inr k
theorem tokK_hd {s : ByteArray} {b : Nat} (h : tokK s b = 2 ∨ tokK s b = 3) : ∃ hb : b < s.size, dgb s[b] = true ∨ (s[b].toNat : Int) = 64 := by
 unfold tokK at h;by_cases hb : b < s.size
 ·refine ⟨hb, ?_⟩;rw [dif_pos hb] at h;by_cases h1 : low s[b] = true
  ·rw [if_pos h1] at h
   split at h <;> omega
  ·rw [if_neg h1] at h;by_cases h2 : dgb s[b] = true
   ·exact .inl h2
   ·rw [if_neg h2] at h;by_cases h3 : (s[b].toNat : Int) = 64
    ·exact .inr h3
    ·rw [if_neg h3] at h
     split at h <;> omega
 ·rw [dif_neg hb] at h; omega
theorem allF_hd (s : ByteArray) : ∀ (f a : Nat) (acc : List Tk), a ≤ s.size → TkHd acc → TkHd (allF s f a acc).1 := by
 intro f
 induction f with
 | zero => intro a acc ha h; exact h
 | succ f ih =>
  intro a acc ha h;simp only [allF];have hs := skp_le ha;by_cases h1 : skp s a = s.size
  ·rw [if_pos h1]; exact h
  ·rw [if_neg h1];by_cases h2 : tokK s (skp s a) = 0
   ·rw [if_pos h2]; intro t ht; simp at ht
   ·rw [if_neg h2];have hb : skp s a < s.size := by omega
    have hn := tokN_pos h2;have hle := tok_le hb;refine ih _ _ hle (fun t ht => ?_)
    rcases List.mem_append.1 ht with ht | ht
    ·exact h t ht
    ·obtain rfl : t = ⟨tokK s (skp s a), s.extract (skp s a) (skp s a + tokN s (skp s a)), (skp s a : Int)⟩ := by simpa using ht
     intro hk;obtain ⟨hb', hc⟩ := tokK_hd hk;refine ⟨s[skp s a], ((s.data.toList.drop (skp s a + 1)).take (tokN s (skp s a) - 1)), ?_, hc⟩;show (s.extract _ _).data.toList = _
     rw [ext_data, show skp s a + tokN s (skp s a) - skp s a = (tokN s (skp s a) - 1) + 1 by omega, drop_cons s _ hb, List.take_succ_cons]
theorem allR_hd (s : ByteArray) : TkHd (allR s).1 := by
 unfold allR;split
 ·exact allF_hd s _ 0 [] (Nat.zero_le _) (fun t ht => by simp at ht)
 ·intro t ht; simp at ht
def opLn (n : Int) : List (List UInt8 × Int) := if n = 1 then [(kOr, 18)] else if n = 2 then [(kAnd, 17)] else if n = 4 then relL else if n = 5 then sumL else if n = 6 then mulL else []
theorem opLn_none {tk : List Tk} {s : Pt} {n : Int} (hno : ∀ j : Nat, 7 ≤ j → j ≤ 18 → levI (j : Int) = n → accB tk (sgS (j : Int)).data.toList s = false) : binT tk s (opLn n) = 0 ∧ binO tk s (opLn n) = false := by
 have key : ∀ l : List (List UInt8 × Int), (∀ p ∈ l, accB tk p.1 s = false) → binT tk s l = 0 ∧ binO tk s l = false := by
  intro l
  induction l with
  | nil => exact fun _ => ⟨rfl, rfl⟩
  | cons p l ih =>
   intro h;have h0 := h p (by simp);obtain ⟨i1, i2⟩ := ih (fun q hq => h q (by simp [hq]));simp only [binT, binO, h0];exact ⟨i1, i2⟩
 refine key _ (fun p hp => ?_)
 have at' : ∃ j : Nat, 7 ≤ j ∧ j ≤ 18 ∧ levI (j : Int) = n ∧ p.1 = (sgS (j : Int)).data.toList := by
  unfold opLn at hp
  split at hp
  ·rename_i e; subst e;simp at hp; subst hp;exact ⟨18, by decide, by decide, rfl, rfl⟩
  ·split at hp
   ·rename_i e; subst e;simp at hp; subst hp;exact ⟨17, by decide, by decide, rfl, rfl⟩
   ·split at hp
    ·rename_i e; subst e;simp [relL] at hp
     rcases hp with rfl | rfl | rfl | rfl | rfl | rfl
     ·exact ⟨11, by decide, by decide, rfl, rfl⟩
     ·exact ⟨12, by decide, by decide, rfl, rfl⟩
     ·exact ⟨13, by decide, by decide, rfl, rfl⟩
     ·exact ⟨14, by decide, by decide, rfl, rfl⟩
     ·exact ⟨15, by decide, by decide, rfl, rfl⟩
     ·exact ⟨16, by decide, by decide, rfl, rfl⟩
    ·split at hp
     ·rename_i e; subst e;simp [sumL] at hp
      rcases hp with rfl | rfl
      ·exact ⟨7, by decide, by decide, rfl, rfl⟩
      ·exact ⟨8, by decide, by decide, rfl, rfl⟩
     ·split at hp
      ·rename_i e; subst e;simp [mulL] at hp
       rcases hp with rfl | rfl
       ·exact ⟨9, by decide, by decide, rfl, rfl⟩
       ·exact ⟨10, by decide, by decide, rfl, rfl⟩
      ·simp at hp
 obtain ⟨j, j0, j1, j2, e⟩ := at';rw [e]; exact hno j j0 j1 j2
theorem opLn_hit {tk : List Tk} {s : Pt} {k : Nat} (k0 : 7 ≤ k) (k1 : k ≤ 18) (hno : ∀ j : Nat, 7 ≤ j → j < k → levI (j : Int) = levI (k : Int) → accB tk (sgS (j : Int)).data.toList s = false) (ha : accB tk (sgS (k : Int)).data.toList s = true) : binT tk s (opLn (levI (k : Int))) = (k : Int) ∧ binO tk s (opLn (levI (k : Int))) = true := by
 have N : ∀ {p : List UInt8 × Int} {l : List (List UInt8 × Int)}, accB tk p.1 s = false → binT tk s (p :: l) = binT tk s l ∧ binO tk s (p :: l) = binO tk s l := fun h => by simp only [binT, binO, h]; exact ⟨rfl, rfl⟩
 have Y : ∀ {p : List UInt8 × Int} {l : List (List UInt8 × Int)}, accB tk p.1 s = true → binT tk s (p :: l) = p.2 ∧ binO tk s (p :: l) = true := fun h => by simp only [binT, binO, h]; exact ⟨rfl, rfl⟩
 have T : ∀ {a b : Int} {x y : Bool} {c : Int}, a = b ∧ x = y → b = c ∧ y = true → a = c ∧ x = true := fun h k => ⟨h.1.trans k.1, h.2.trans k.2⟩
 rcases (show k = 7 ∨ k = 8 ∨ k = 9 ∨ k = 10 ∨ k = 11 ∨ k = 12 ∨ k = 13 ∨ k = 14 ∨ k = 15 ∨ k = 16 ∨ k = 17 ∨ k = 18 by omega) with rfl | rfl | rfl | rfl | rfl | rfl | rfl | rfl | rfl | rfl | rfl | rfl
 ·exact Y (p := ([43], 7)) ha
 ·exact T (N (p := ([43], 7)) (hno 7 (by decide) (by decide) rfl)) (Y (p := ([45], 8)) ha)
 ·exact Y (p := ([42], 9)) ha
 ·exact T (N (p := ([42], 9)) (hno 9 (by decide) (by decide) rfl)) (Y (p := ([47], 10)) ha)
 ·exact Y (p := ([60], 11)) ha
 ·exact T (N (p := ([60], 11)) (hno 11 (by decide) (by decide) rfl)) (Y (p := ([60, 61], 12)) ha)
 ·exact T (N (p := ([60], 11)) (hno 11 (by decide) (by decide) rfl)) (T (N (p := ([60, 61], 12)) (hno 12 (by decide) (by decide) rfl)) (Y (p := ([61], 13)) ha))
 ·exact T (N (p := ([60], 11)) (hno 11 (by decide) (by decide) rfl)) (T (N (p := ([60, 61], 12)) (hno 12 (by decide) (by decide) rfl)) (T (N (p := ([61], 13)) (hno 13 (by decide) (by decide) rfl)) (Y (p := ([60, 62], 14)) ha)))
 ·exact T (N (p := ([60], 11)) (hno 11 (by decide) (by decide) rfl)) (T (N (p := ([60, 61], 12)) (hno 12 (by decide) (by decide) rfl)) (T (N (p := ([61], 13)) (hno 13 (by decide) (by decide) rfl)) (T (N (p := ([60, 62], 14)) (hno 14 (by decide) (by decide) rfl)) (Y (p := ([62], 15)) ha))))
 ·exact T (N (p := ([60], 11)) (hno 11 (by decide) (by decide) rfl)) (T (N (p := ([60, 61], 12)) (hno 12 (by decide) (by decide) rfl)) (T (N (p := ([61], 13)) (hno 13 (by decide) (by decide) rfl)) (T (N (p := ([60, 62], 14)) (hno 14 (by decide) (by decide) rfl)) (T (N (p := ([62], 15)) (hno 15 (by decide) (by decide) rfl)) (Y (p := ([62, 61], 16)) ha)))))
 ·exact Y (p := (kAnd, 17)) ha
 ·exact Y (p := (kOr, 18)) ha
theorem sgS_xok (op : Int) : xokB (sgS op).data.toList = true := by
 unfold sgS
 repeat' split
 all_goals decide
def RInt (b G : Nat) (tk : List Tk) (z : Int) (w : World) (e : Ending) (w' : World) : Prop := e = .returned (.int .i64 z) ∧ Rel w w'
set_option maxRecDepth 20000 in
set_option maxHeartbeats 8000000 in
theorem rbin_any (b G : Nat) (tk : List Tk) (E : Int) (n : Int) (s : Pt) (w : World) (h : Rdr w b G tk E s) (hT : TksOk tk) (hH : TkHd tk) : Calls Tryz.prog 92 #[.pointer (some ⟨b, 0, none⟩), .int .i64 n] w (RInt b G tk (binT tk s (opLn n)) w) := by
 have HP := Hj h;have HX := Hj fun (k : Int) => txOk_of hH hT (sgS_xok k)
 unfold RInt;clear h;obtain ⟨Z, hZ⟩ : ∃ Z, binT tk s (opLn n) = Z := ⟨_, rfl⟩;rw [hZ];have HZ := Hj hZ;clear hZ;go_enter Tryz.func92, Tryz.ntmps92;go_wp2_with fail
 go_loopw [5] (fun i wx => ∃ k : Nat, 7 ≤ k ∧ k ≤ 19 ∧ i = .int .i64 k ∧ Hid (∀ j : Nat, 7 ≤ j → j < k → levI (j : Int) = n → accB tk (sgS (j : Int)).data.toList s = false) ∧ Hid (Rel w wx)) (fun i _ => 19 - (intOf i).toNat)
 case atStart => exact ⟨7, by omega, by omega, rfl, fun j h1 h2 => by omega, Rel.refl _⟩
 case round =>
  obtain ⟨k, k7, k19, rfl, hno, hR⟩ := hrel;by_cases hlt : k ≤ 18
  ·have ki : (k : Int) ≤ 18 := by omega
   have LV := Hj fun w => rlevel_any (k : Int) w (by omega) (by omega)
   by_cases hl : levI (k : Int) = n
   ·have el : (levI (k : Int) == n) = true := by rw [beq_iff_eq]; exact hl
    have SG := Hj fun w => rsign_any (k : Int) w (by omega) (by omega)
    have I := Hj fun w' (r : Rel w w') => ris_any b G tk E s (sgS (k : Int)) w' (HP.out.rel r) (HX.out k)
    unfold BRes at I;have HL := Hj hl;obtain ⟨kk, hkk⟩ : ∃ kk, accB tk (sgS (k : Int)).data.toList s = kk := ⟨_, rfl⟩;rw [hkk] at I;have HK := Hj hkk;obtain ⟨S, hS⟩ : ∃ S, sgS (k : Int) = S := ⟨_, rfl⟩;obtain ⟨L, hL⟩ : ∃ L, levI (k : Int) = L := ⟨_, rfl⟩;rw [hS] at SG I;rw [hL] at LV el;clear hkk hS hL hl;cases kk
    ·go_wp2_with fail;refine (LV.out _).mono ?_;rintro e w1 ⟨rfl, rfl⟩;go_wp2_with fail;refine (SG.out _).mono ?_;rintro e w1 ⟨rfl, rfl⟩;go_wp2_with fail;refine (I.out _ hR.out).mono ?_;rintro e w1 ⟨rfl, h1⟩;have R1 := Hj (hR.out.trans h1);clear h1;go_wp2
     go_roundw
     case rel => exact ⟨k + 1, by omega, by omega, by go_num, (by
      intro j j0 j1 jl;by_cases e : j = k
      ·subst e; exact HK.out
      ·exact hno.out j j0 (by omega) jl), R1⟩
     case measure => simp [intOf]; omega
    ·have hz : Hid (Z = (k : Int)) := by
      show _ = _
      rw [← HZ.out, ← HL.out];exact (opLn_hit k7 hlt (fun j j0 j1 jl => hno.out j j0 j1 (jl.trans HL.out)) HK.out).1
     go_wp2_with fail;refine (LV.out _).mono ?_;rintro e w1 ⟨rfl, rfl⟩;go_wp2_with fail;refine (SG.out _).mono ?_;rintro e w1 ⟨rfl, rfl⟩;go_wp2_with fail;refine (I.out _ hR.out).mono ?_;rintro e w1 ⟨rfl, h1⟩;have R1 := Hj (hR.out.trans h1);clear h1;go_wp2;go_ret;exact ⟨by rw [hz.out]; rfl, R1.out⟩
   ·have el : (levI (k : Int) == n) = false := by rw [beq_eq_false_iff_ne]; exact hl
    have HL := Hj hl;obtain ⟨L, hL⟩ : ∃ L, levI (k : Int) = L := ⟨_, rfl⟩;rw [hL] at LV el;clear hL hl;go_wp2_with fail;refine (LV.out _).mono ?_;rintro e w1 ⟨rfl, rfl⟩;go_wp2
    go_roundw
    case rel => exact ⟨k + 1, by omega, by omega, by go_num, (by
     intro j j0 j1 jl;by_cases e : j = k
     ·subst e; exact absurd jl HL.out
     ·exact hno.out j j0 (by omega) jl), hR⟩
    case measure => simp [intOf]; omega
  ·obtain rfl : k = 19 := by omega
   have hz : Hid (Z = 0) := by
    show _ = _
    rw [← HZ.out];exact (opLn_none (fun j j0 j1 jl => hno.out j j0 (by omega) jl)).1
   go_wp2;go_ret;exact ⟨by rw [hz.out]; rfl, hR.out⟩
end Go.Proofs.YtkghmghjgikihaaGreatDoor

/- Lemmas, each as it is printed; no conditions but those printed. -/
import Derived.Test.YthmlhheceihcbaaGreatDoorPB44
namespace Go.Proofs.YthmlhheceihcbaaGreatDoor
set_option maxHeartbeats 16000000
open Go.RowKit Cal Str Tok Frac Txt Tree Go.Proofs.Tryz
attribute [local go_sem] calmUpon
set_option linter.unusedVariables false
set_option linter.unusedSimpArgs false
structure Rdr (w : World) (b G : Nat) (tk : List Tk) (E : Int) (s : Pt) : Prop where
 lt : b < w.heap.size
 le : s.i <= tk.length
 tok : ∃ ad cap, w.cell? ⟨b, 0, none⟩ = some (.slice ad tk.length cap) /\ (0 < tk.length -> ad = some ⟨G, 0, none⟩)
 toks : Toks w b G tk
 c1 : w.cell? ⟨b, 1, none⟩ = some (.int .i64 (s.i : Int))
 c2 : w.cell? ⟨b, 2, none⟩ = some (.int .i64 E)
 c3 : w.cell? ⟨b, 3, none⟩ = some (.bool (!s.ok))
 f1 : w.frozen? ⟨b, 1, none⟩ = false
 f3 : w.frozen? ⟨b, 3, none⟩ = false
theorem Rdr.rel {w w' : World} {b G : Nat} {tk : List Tk} {E : Int} {s : Pt} (h : Rdr w b G tk E s) (r : Rel w w') : Rdr w' b G tk E s := by
 obtain ⟨ad, cap, h1, h2⟩ := h.tok;exact ⟨Nat.lt_of_lt_of_le h.lt r.size, h.le, ⟨ad, cap, r.cell h1, h2⟩, h.toks.ro (Ro.of r), r.cell h.c1, r.cell h.c2, r.cell h.c3, ((rcell r).2 b 1 h.lt).trans h.f1, ((rcell r).2 b 3 h.lt).trans h.f3⟩
theorem Rdr.other {w : World} {b G : Nat} {tk : List Tk} {E : Int} {s : Pt} (h : Rdr w b G tk E s) {g i : Nat} {v : Value} (hne : g ≠ b) (ht : Toks (w.setCell ⟨g, i, none⟩ v) b G tk) : Rdr (w.setCell ⟨g, i, none⟩ v) b G tk E s := by
 obtain ⟨ad, cap, h1, h2⟩ := h.tok;have oc : ∀ j, (w.setCell ⟨g, i, none⟩ v).cell? ⟨b, j, none⟩ = w.cell? ⟨b, j, none⟩ := fun j => World.cell?_setCell_other _ _ _ _ (fun e => hne (by injection e))
 exact ⟨by simpa [World.setCell] using h.lt, h.le, ⟨ad, cap, (oc 0).trans h1, h2⟩, ht, (oc 1).trans h.c1, (oc 2).trans h.c2, (oc 3).trans h.c3, by rw [World.frozen?_setCell]; exact h.f1, by rw [World.frozen?_setCell]; exact h.f3⟩
theorem Rdr.adv {w : World} {b G : Nat} {tk : List Tk} {E : Int} {s : Pt} (h : Rdr w b G tk E s) (hi : s.i < tk.length) : Rdr (w.setCell ⟨b, 1, none⟩ (.int .i64 ((s.i : Int) + 1))) b G tk E s.adv := by
 obtain ⟨ad, cap, h1, h2⟩ := h.tok;have oc : ∀ j, ¬ j = 1 -> (w.setCell ⟨b, 1, none⟩ (.int .i64 ((s.i : Int) + 1))).cell? ⟨b, j, none⟩ = w.cell? ⟨b, j, none⟩ := fun j hj => World.cell?_setCell_other _ _ _ _ (by intro e; injection e; omega)
 refine ⟨by simpa [World.setCell] using h.lt, hi, ⟨ad, cap, (oc 0 (by decide)).trans h1, h2⟩, h.toks.ro ((Ro.refl b w).set 1 _), ?_, (oc 2 (by decide)).trans h.c2, (oc 3 (by decide)).trans h.c3, by rw [World.frozen?_setCell]; exact h.f1, by rw [World.frozen?_setCell]; exact h.f3⟩;rw [World.cell?_setCell_same _ _ _ h.c1]; rfl
theorem Rdr.no {w : World} {b G : Nat} {tk : List Tk} {E : Int} {s : Pt} (h : Rdr w b G tk E s) : Rdr (w.setCell ⟨b, 3, none⟩ (.bool true)) b G tk E s.no := by
 obtain ⟨ad, cap, h1, h2⟩ := h.tok;have oc : ∀ j, ¬ j = 3 -> (w.setCell ⟨b, 3, none⟩ (.bool true)).cell? ⟨b, j, none⟩ = w.cell? ⟨b, j, none⟩ := fun j hj => World.cell?_setCell_other _ _ _ _ (by intro e; injection e; omega)
 refine ⟨by simpa [World.setCell] using h.lt, h.le, ⟨ad, cap, (oc 0 (by decide)).trans h1, h2⟩, h.toks.ro ((Ro.refl b w).set 3 _), (oc 1 (by decide)).trans h.c1, (oc 2 (by decide)).trans h.c2, ?_, by rw [World.frozen?_setCell]; exact h.f1, by rw [World.frozen?_setCell]; exact h.f3⟩;rw [World.cell?_setCell_same _ _ _ h.c3]; rfl
def RUn (b G : Nat) (tk : List Tk) (E : Int) (s : Pt) (w : World) (e : Ending) (w' : World) : Prop := (∃ v, e = .returned v) /\ Rdr w' b G tk E s /\ Ro b w w'
theorem rstop_any (b G : Nat) (tk : List Tk) (E : Int) (s : Pt) (w : World) (h : Rdr w b G tk E s) : Calls prog 78 #[.pointer (some ⟨b, 0, none⟩)] w (RUn b G tk E s.no w) := by
 have HP := Hj h.no;have hlt := h.lt;have c3 := h.c3;have f3 := h.f3;clear h;unfold RUn;go_enter func78, ntmps78;refine gw ?_;exact Go.Great.bodyPost_end0 rfl rfl ⟨⟨_, rfl⟩, HP.out, (Ro.refl _ _).set 3 _⟩
def TxOk (tk : List Tk) (x : List UInt8) : Prop := ∀ t ∈ tk, t.T.data.toList = x -> t.K = 1 \/ t.K = 4
theorem accB_tx {tk : List Tk} {x : List UInt8} {s : Pt} {t : Tk} (hx : TxOk tk x) (ho : s.ok = true) (ht : tk[s.i]? = some t) : accB tk x s = (t.T.data.toList == x) := by
 unfold accB tkAt;rw [if_pos ho, ht];simp only []
 cases e : (t.T.data.toList == x)
 ·simp
 ·rcases hx t (List.mem_of_getElem? ht) (by simpa using e) with h | h <;> rw [h] <;> rfl
theorem accB_end {tk : List Tk} {x : List UInt8} {s : Pt} (h : s.ok = false \/ tk.length <= s.i) : accB tk x s = false := by
 have hn : tkAt tk s = none := by
  unfold tkAt
  rcases h with h | h
  ·rw [if_neg (by simp [h])]
  ·split
   ·exact List.getElem?_eq_none h
   ·rfl
 unfold accB; rw [hn]
theorem rdr_at {w : World} {b G : Nat} {tk : List Tk} {E : Int} {s : Pt} (h : Rdr w b G tk E s) (hi : s.i < tk.length) : ∃ t cap, tk[s.i]? = some t /\ w.cell? ⟨b, 0, none⟩ = some (.slice (some ⟨G, 0, none⟩) tk.length cap) /\
  w.cell? ⟨G, s.i * 3, none⟩ = some (.int .i64 t.K) /\ w.cell? ⟨G, s.i * 3 + 1, none⟩ = some (.string t.T) /\ w.cell? ⟨G, s.i * 3 + 2, none⟩ = some (.int .i64 t.A) := by
 obtain ⟨ad, cap, h1, h2⟩ := h.tok;obtain rfl := h2 (by omega);obtain ⟨t, ht⟩ : ∃ t, tk[s.i]? = some t := ⟨_, List.getElem?_eq_getElem hi⟩
 rcases h.toks with e | ⟨-, -, hc⟩
 ·subst e; simp at hi
 ·exact ⟨t, cap, ht, h1, hc _ _ ht⟩
set_option maxRecDepth 20000 in
theorem ris_any (b G : Nat) (tk : List Tk) (E : Int) (s : Pt) (X : ByteArray) (w : World) (h : Rdr w b G tk E s) (hx : TxOk tk X.data.toList) : Calls prog 81 #[.pointer (some ⟨b, 0, none⟩), .string X] w (BRes (accB tk X.data.toList s) w) := by
 have hlt := h.lt;have c1 := h.c1;have c3 := h.c3;have hle := h.le;unfold BRes;obtain ⟨k, hk⟩ : ∃ k, s.ok = k := ⟨_, rfl⟩;rw [hk] at c3;cases k
 ·rw [accB_end (.inl hk)];clear h hx hk;go_enter func81, ntmps81;go_upto_region 1 with (fail);refine wp_region_calm (fun _ w' => Rel w w') (fun _ => false) [0, 1, 2, 3, 4, 5, 6, 7, 8, 9, 10, 11, 12, 13, 14, 15, 16, 17, 18, 19, 20, 21, 22, 23, 24, 25, 26, 27, 28, 29, 30, 31, 32] 0 (by kernel_rfl) (by kernel_rfl) ?hst ?hS0 (fun w0 h0 => ?_)
  case hst => exact fun _ _ _ h r => h.trans r
  case hS0 => exact Rel.refl _
  iterate 6
   refine wcg ?_;apply ei
   ·intro M w hM hS;have d3 := hS.cell c3;unfold calmAt;go_simp;exact ⟨rfl, Rel.refl _⟩
  iterate 10 (refine wcn ?_)
  iterate 2
   refine wcg ?_;apply ei
   ·intro M w hM hS;have d3 := hS.cell c3;unfold calmAt;go_simp;exact ⟨rfl, Rel.refl _⟩
  iterate 13 (refine wcn ?_)
  iterate 2
   refine wcg ?_;apply ei
   ·intro M w hM hS;have d3 := hS.cell c3;unfold calmAt;go_simp;exact ⟨rfl, Rel.refl _⟩
  refine wpAnyR_end (by kernel_rfl) (fun w3 h3' => ?_);(try simp only [Act.put, zla, zlb, zlc]);have h3 := h0.trans h3';clear h0 h3';have kz3 := h3.size;(try simp only [zsa, zsc, zsd] at kz3);have H3 := Hj h3;clear h3;go_wp2;go_ret;exact ⟨rfl, H3.out⟩
 ·by_cases hi : s.i < tk.length
  ·obtain ⟨t, cap, ht, c0, q0, q1, q2⟩ := rdr_at h hi;rw [accB_tx hx hk ht, <- tl_eq];obtain ⟨n, hn⟩ : ∃ n, tk.length = n := ⟨_, rfl⟩;obtain ⟨i, hi'⟩ : ∃ i, s.i = i := ⟨_, rfl⟩;rw [hn] at c0 hi;rw [hi'] at q0 q1 q2 c1 hi;have ii : (i : Int) < (n : Int) := by omega
   clear h hx ht hk hn hle hi';go_enter func81, ntmps81;go_upto_region 1 with (fail);refine wp_region_calm (fun _ w' => Rel w w') (fun _ => false) [0, 1, 2, 3, 4, 5, 6, 7, 8, 9, 10, 11, 12, 13, 14, 15, 16, 17, 18, 19, 20, 21, 22, 23, 24, 25, 26, 27, 28, 29, 30, 31, 32] 0 (by kernel_rfl) (by kernel_rfl) ?hst ?hS0 (fun w0 h0 => ?_)
   case hst => exact fun _ _ _ h r => h.trans r
   case hS0 => exact Rel.refl _
   iterate 33
    refine wcg ?_;apply ei
    ·intro M w hM hS;have d3 := hS.cell c3;have d0 := hS.cell c0;have d1 := hS.cell c1;have e1 := hS.cell q1;unfold calmAt;go_simp;exact ⟨rfl, Rel.refl _⟩
   refine wpAnyR_end (by kernel_rfl) (fun w3 h3' => ?_);(try simp only [Act.put, zla, zlb, zlc]);have h3 := h0.trans h3';clear h0 h3';have kz3 := h3.size;(try simp only [zsa, zsc, zsd] at kz3);have H3 := Hj h3;clear h3;go_wp2;go_ret;exact ⟨ret_b2 (by simp), H3.out⟩
  ·rw [accB_end (.inr (by omega))];obtain ⟨ad, cap, c0, -⟩ := h.tok;obtain ⟨n, hn⟩ : ∃ n, tk.length = n := ⟨_, rfl⟩;obtain ⟨i, hi'⟩ : ∃ i, s.i = i := ⟨_, rfl⟩;rw [hn] at c0 hi;rw [hi'] at c1 hi;have ii : decide ((i : Int) < (n : Int)) = false := dF (by omega);clear h hx hk hn hle hi';go_enter func81, ntmps81;go_upto_region 1 with (fail);refine wp_region_calm (fun _ w' => Rel w w') (fun _ => false) [0, 1, 2, 3, 4, 5, 6, 7, 8, 9, 10, 11, 12, 13, 14, 15, 16, 17, 18, 19, 20, 21, 22, 23, 24, 25, 26, 27, 28, 29, 30, 31, 32] 0 (by kernel_rfl) (by kernel_rfl) ?hst ?hS0 (fun w0 h0 => ?_)
   case hst => exact fun _ _ _ h r => h.trans r
   case hS0 => exact Rel.refl _
   iterate 18
    refine wcg ?_;apply ei
    ·intro M w hM hS;have d3 := hS.cell c3;have d0 := hS.cell c0;have d1 := hS.cell c1;unfold calmAt;go_simp;exact ⟨rfl, Rel.refl _⟩
   iterate 13 (refine wcn ?_)
   iterate 2
    refine wcg ?_;apply ei
    ·intro M w hM hS;have d3 := hS.cell c3;have d0 := hS.cell c0;have d1 := hS.cell c1;unfold calmAt;go_simp;exact ⟨rfl, Rel.refl _⟩
   refine wpAnyR_end (by kernel_rfl) (fun w3 h3' => ?_);(try simp only [Act.put, zla, zlb, zlc]);have h3 := h0.trans h3';clear h0 h3';have kz3 := h3.size;(try simp only [zsa, zsc, zsd] at kz3);have H3 := Hj h3;clear h3;go_wp2;go_ret;exact ⟨rfl, H3.out⟩
theorem rkind_cases (tk : List Tk) (s : Pt) (kd : Int) (hk : ¬ kd = 0) : (pkK tk s == kd) = (match tkAt tk s with | some t => t.K == kd | none => false) := by
 unfold pkK
 cases tkAt tk s with
 | none => simp only []; rw [zn]; omega
 | some t => rfl
set_option maxRecDepth 20000 in
theorem rkind_any (b G : Nat) (tk : List Tk) (E : Int) (s : Pt) (kd : Int) (w : World) (h : Rdr w b G tk E s) (hkd : 1 <= kd) : Calls prog 79 #[.pointer (some ⟨b, 0, none⟩), .int .i64 kd] w (BRes (pkK tk s == kd) w) := by
 have hlt := h.lt;have c1 := h.c1;have c3 := h.c3;have hle := h.le;unfold BRes;rw [rkind_cases tk s kd (by omega)];obtain ⟨k, hk⟩ : ∃ k, s.ok = k := ⟨_, rfl⟩;rw [hk] at c3;cases k
 ·rw [show tkAt tk s = none by unfold tkAt; rw [hk]; rfl];dsimp only;clear h hk;go_enter func79, ntmps79;go_upto_region 1 with (fail);refine wp_region_calm (fun _ w' => Rel w w') (fun _ => false) [0, 1, 2, 3, 4, 5, 6, 7, 8, 9, 10, 11, 12, 13, 14, 15, 16, 17, 18, 19, 20, 21, 22, 23, 24, 25, 26, 27, 28, 29, 30, 31, 32] 0 (by kernel_rfl) (by kernel_rfl) ?hst ?hS0 (fun w0 h0 => ?_)
  case hst => exact fun _ _ _ h r => h.trans r
  case hS0 => exact Rel.refl _
  iterate 6
   refine wcg ?_;apply ei
   ·intro M w hM hS;have d3 := hS.cell c3;unfold calmAt;go_simp;exact ⟨rfl, Rel.refl _⟩
  iterate 10 (refine wcn ?_)
  iterate 2
   refine wcg ?_;apply ei
   ·intro M w hM hS;have d3 := hS.cell c3;unfold calmAt;go_simp;exact ⟨rfl, Rel.refl _⟩
  iterate 13 (refine wcn ?_)
  iterate 2
   refine wcg ?_;apply ei
   ·intro M w hM hS;have d3 := hS.cell c3;unfold calmAt;go_simp;exact ⟨rfl, Rel.refl _⟩
  refine wpAnyR_end (by kernel_rfl) (fun w3 h3' => ?_);(try simp only [Act.put, zla, zlb, zlc]);have h3 := h0.trans h3';clear h0 h3';have kz3 := h3.size;(try simp only [zsa, zsc, zsd] at kz3);have H3 := Hj h3;clear h3;go_wp2;go_ret;exact ⟨rfl, H3.out⟩
 ·by_cases hi : s.i < tk.length
  ·obtain ⟨t, cap, ht, c0, q0, q1, q2⟩ := rdr_at h hi;rw [show tkAt tk s = some t by unfold tkAt; rw [if_pos hk]; exact ht];dsimp only;obtain ⟨n, hn⟩ : ∃ n, tk.length = n := ⟨_, rfl⟩;obtain ⟨i, hi'⟩ : ∃ i, s.i = i := ⟨_, rfl⟩;rw [hn] at c0 hi;rw [hi'] at q0 q1 q2 c1 hi;have ii : (i : Int) < (n : Int) := by omega
   clear h ht hk hn hle hi';go_enter func79, ntmps79;go_upto_region 1 with (fail);refine wp_region_calm (fun _ w' => Rel w w') (fun _ => false) [0, 1, 2, 3, 4, 5, 6, 7, 8, 9, 10, 11, 12, 13, 14, 15, 16, 17, 18, 19, 20, 21, 22, 23, 24, 25, 26, 27, 28, 29, 30, 31, 32] 0 (by kernel_rfl) (by kernel_rfl) ?hst ?hS0 (fun w0 h0 => ?_)
   case hst => exact fun _ _ _ h r => h.trans r
   case hS0 => exact Rel.refl _
   iterate 33
    refine wcg ?_;apply ei
    ·intro M w hM hS;have d3 := hS.cell c3;have d0 := hS.cell c0;have d1 := hS.cell c1;have e1 := hS.cell q0;unfold calmAt;go_simp;exact ⟨rfl, Rel.refl _⟩
   refine wpAnyR_end (by kernel_rfl) (fun w3 h3' => ?_);(try simp only [Act.put, zla, zlb, zlc]);have h3 := h0.trans h3';clear h0 h3';have kz3 := h3.size;(try simp only [zsa, zsc, zsd] at kz3);have H3 := Hj h3;clear h3;go_wp2;go_ret;exact ⟨ret_b2 (by simp), H3.out⟩
  ·rw [show tkAt tk s = none by unfold tkAt; rw [if_pos hk]; exact List.getElem?_eq_none (by omega)];dsimp only;obtain ⟨ad, cap, c0, -⟩ := h.tok;obtain ⟨n, hn⟩ : ∃ n, tk.length = n := ⟨_, rfl⟩;obtain ⟨i, hi'⟩ : ∃ i, s.i = i := ⟨_, rfl⟩;rw [hn] at c0 hi;rw [hi'] at c1 hi;have ii : decide ((i : Int) < (n : Int)) = false := dF (by omega);clear h hk hn hle hi';go_enter func79, ntmps79;go_upto_region 1 with (fail);refine wp_region_calm (fun _ w' => Rel w w') (fun _ => false) [0, 1, 2, 3, 4, 5, 6, 7, 8, 9, 10, 11, 12, 13, 14, 15, 16, 17, 18, 19, 20, 21, 22, 23, 24, 25, 26, 27, 28, 29, 30, 31, 32] 0 (by kernel_rfl) (by kernel_rfl) ?hst ?hS0 (fun w0 h0 => ?_)
   case hst => exact fun _ _ _ h r => h.trans r
   case hS0 => exact Rel.refl _
   iterate 18
    refine wcg ?_;apply ei
    ·intro M w hM hS;have d3 := hS.cell c3;have d0 := hS.cell c0;have d1 := hS.cell c1;unfold calmAt;go_simp;exact ⟨rfl, Rel.refl _⟩
   iterate 13 (refine wcn ?_)
   iterate 2
    refine wcg ?_;apply ei
    ·intro M w hM hS;have d3 := hS.cell c3;have d0 := hS.cell c0;have d1 := hS.cell c1;unfold calmAt;go_simp;exact ⟨rfl, Rel.refl _⟩
   refine wpAnyR_end (by kernel_rfl) (fun w3 h3' => ?_);(try simp only [Act.put, zla, zlb, zlc]);have h3 := h0.trans h3';clear h0 h3';have kz3 := h3.size;(try simp only [zsa, zsc, zsd] at kz3);have H3 := Hj h3;clear h3;go_wp2;go_ret;exact ⟨rfl, H3.out⟩
def RAcc (b G : Nat) (tk : List Tk) (E : Int) (x : List UInt8) (s : Pt) (w : World) (e : Ending) (w' : World) : Prop := e = .returned (.bool (accB tk x s)) /\ Rdr w' b G tk E (accP tk x s) /\ Ro b w w'
theorem rtake_any (b G : Nat) (tk : List Tk) (E : Int) (s : Pt) (X : ByteArray) (w : World) (h : Rdr w b G tk E s) (hx : TxOk tk X.data.toList) (hlen : tk.length <= 8000) : Calls prog 34 #[.pointer (some ⟨b, 0, none⟩), .string X] w (RAcc b G tk E X.data.toList s w) := by
 have I := Hj (ris_any b G tk E s X w h hx);have HP := Hj h;unfold BRes at I;unfold RAcc accP;obtain ⟨k, hk⟩ : ∃ k, accB tk X.data.toList s = k := ⟨_, rfl⟩;rw [hk] at I |-;clear h;cases k
 ·rw [if_neg (by simp)];clear hk;go_enter func34, ntmps34;go_wp2_with fail;refine I.out.mono ?_;rintro e w1 ⟨rfl, h1⟩;have P1 := Hj (HP.out.rel h1);have R1 := Hj (Ro.of (b := b) h1);clear h1;go_wp2;go_ret;exact ⟨rfl, P1.out, R1.out⟩
 ·rw [if_pos rfl];obtain ⟨t, ht, -⟩ := accB_some hk;obtain ⟨ho, hi, -⟩ := tkAt_some ht;have wi : IntKind.i64.wrap ((s.i : Int) + 1) = (s.i : Int) + 1 := IntWalk.i64_in _ ⟨by omega, by omega⟩;have HI := Hj hi;clear hk ht hi;go_enter func34, ntmps34;go_wp2_with fail;refine I.out.mono ?_;rintro e w1 ⟨rfl, h1⟩;have P1 := Hj (HP.out.rel h1);have R1 := Hj (Ro.of (b := b) h1);have c1 := P1.out.c1;have f1 := P1.out.f1;have hlt := P1.out.lt;clear h1;go_wp2;go_ret;exact ⟨rfl, P1.out.adv HI.out, R1.out.set 1 _⟩
theorem rwant_any (b G : Nat) (tk : List Tk) (E : Int) (s : Pt) (X : ByteArray) (w : World) (h : Rdr w b G tk E s) (hx : TxOk tk X.data.toList) (hlen : tk.length <= 8000) : Calls prog 31 #[.pointer (some ⟨b, 0, none⟩), .string X] w (RUn b G tk E (expP tk X.data.toList s) w) := by
 have I := Hj (rtake_any b G tk E s X w h hx hlen);unfold RAcc accP at I;unfold RUn expP;obtain ⟨k, hk⟩ : ∃ k, accB tk X.data.toList s = k := ⟨_, rfl⟩;rw [hk] at I |-;clear h hk;cases k
 ·rw [if_neg (by simp)] at I |-;go_enter func31, ntmps31;go_wp2_with fail;refine I.out.mono ?_;rintro e w1 ⟨rfl, hP, h1⟩;have P1 := Hj hP;have R1 := Hj h1;clear hP h1;go_wp2_with fail;refine (rstop_any b G tk E s _ P1.out).mono ?_;unfold RUn;rintro e w2 ⟨⟨v, rfl⟩, hP, h2⟩;have P2 := Hj hP;have R2 := Hj (R1.out.trans h2);clear hP h2;refine gw ?_;exact Go.Great.bodyPost_end0 rfl rfl ⟨⟨_, rfl⟩, P2.out, R2.out⟩
 ·rw [if_pos rfl] at I |-;go_enter func31, ntmps31;go_wp2_with fail;refine I.out.mono ?_;rintro e w1 ⟨rfl, hP, h1⟩;have P1 := Hj hP;have R1 := Hj h1;clear hP h1;refine gw ?_;exact Go.Great.bodyPost_end0 rfl rfl ⟨⟨_, rfl⟩, P1.out, R1.out⟩
theorem pk_tok {tk : List Tk} {s : Pt} (ho : s.ok = true) {t : Tk} (ht : tk[s.i]? = some t) : pkK tk s = t.K /\ pkT tk s = t.T := by
 obtain ⟨h1, h2, -⟩ := pk_at (E := 0) ho ht;exact ⟨h1, h2⟩
def RNam (b G : Nat) (tk : List Tk) (E : Int) (s : Pt) (w : World) (e : Ending) (w' : World) : Prop := e = .returned (.string (namT tk s)) /\ Rdr w' b G tk E (namP tk s) /\ Ro b w w'
set_option maxRecDepth 20000 in
theorem rname_any (b G : Nat) (tk : List Tk) (E : Int) (s : Pt) (w : World) (h : Rdr w b G tk E s) (hT : TksOk tk) : Calls prog 32 #[.pointer (some ⟨b, 0, none⟩)] w (RNam b G tk E s w) := by
 have HP := Hj h;have KD := Hj fun w' (r : Rel w w') => rkind_any b G tk E s 1 w' (HP.out.rel r) (by decide)
 have hz := pkT_size hT s;have hlt := h.lt;have hO := namO_pk tk s;unfold BRes at KD;unfold RNam namT namP;by_cases hk : pkK tk s = 1
 ·have ek : (pkK tk s == 1) = true := by rw [beq_iff_eq]; exact hk
  rw [ek] at KD hO;obtain ⟨ho, hi⟩ := pkK_some (tk := tk) (s := s) (by omega);obtain ⟨t, cap, ht, c0, q0, q1, q2⟩ := rdr_at h hi;have c1 := h.c1;obtain ⟨-, eT⟩ := pk_tok ho ht;rw [eT] at hz hO |-;obtain ⟨T, hT'⟩ : ∃ T, t.T = T := ⟨_, rfl⟩;rw [hT'] at q1 hz hO |-;have I := Hj fun w => rIsName_any T w hz
  obtain ⟨nb, hnb⟩ : ∃ nb, namB T = nb := ⟨_, rfl⟩;rw [hnb] at I hO;have hlen := hT.len;obtain ⟨n, hn⟩ : ∃ n, tk.length = n := ⟨_, rfl⟩;rw [hn] at c0;have hi0 := hi;rw [hn] at hi;have HI := Hj hi0;obtain ⟨i, hi'⟩ : ∃ i, s.i = i := ⟨_, rfl⟩;rw [hi'] at q0 q1 q2 c1 hi;have HII := Hj hi';have ii : (i : Int) < (n : Int) := by omega
  have wi : IntKind.i64.wrap ((i : Int) + 1) = (i : Int) + 1 := IntWalk.i64_in _ ⟨by omega, by omega⟩;have wj : IntKind.i64.wrap ((i : Int) + 1 - 1) = (i : Int) := by rw [IntWalk.i64_in _ ⟨by omega, by omega⟩]; omega
  have wk : IntKind.i64.wrap (i : Int) = (i : Int) := IntWalk.i64_in _ ⟨by omega, by omega⟩
  have hGb : G ≠ b := by
   rcases HP.out.toks with e | ⟨-, h, -⟩
   ·subst e; simp at ht
   ·exact h
  clear h ht hnb hT' eT hk ek hi0 hi' hlen hT;rw [Bool.true_and] at hO;cases nb
  ·rw [hO, if_neg (by simp), if_neg (by simp)];clear hO hn;go_enter func32, ntmps32;go_upto_region 1 with (fail);refine wp_region_calm (fun _ w' => Rel w w') (fun _ => false) [0, 1, 2, 3, 4, 5, 6, 7, 8, 9, 10, 11, 12, 13, 14, 15, 16, 17] 0 (by kernel_rfl) (by kernel_rfl) ?hst ?hS0 (fun w0 h0 => ?_)
   case hst => exact fun _ _ _ h r => h.trans r
   case hS0 => exact Rel.refl _
   iterate 1
    refine wcg ?_;apply ei
    ·intro M w hM hS;unfold calmAt;go_simp;exact ⟨rfl, Rel.refl _⟩
   refine wcg ?_;apply ei
   ·intro M w hM hS;unfold calmAt;go_simp
    with_reducible refine (KD.out _ hS).mono ?_
    rintro e w1 ⟨rfl, hb⟩;exact ⟨rfl, hb⟩
   iterate 13
    refine wcg ?_;apply ei
    ·intro M w hM hS;have d0 := hS.cell c0;have d1 := hS.cell c1;have e1 := hS.cell q1;unfold calmAt;go_simp;exact ⟨rfl, Rel.refl _⟩
   refine wcg ?_;apply ei
   ·intro M w hM hS;unfold calmAt;go_simp
    with_reducible refine (I.out _).mono ?_
    rintro e w1 ⟨rfl, rfl⟩;exact ⟨rfl, Rel.refl _⟩
   iterate 2
    refine wcg ?_;apply ei
    ·intro M w hM hS;unfold calmAt;go_simp;exact ⟨rfl, Rel.refl _⟩
   refine wpCalm_nil (wpAnyR_end (by kernel_rfl) (fun w3 h3' => ?_));(try simp only [Act.put, zla, zlb, zlc]);have h3 := h0.trans h3';clear h0 h3';have P3 := Hj (HP.out.rel h3);have R3 := Hj (Ro.of (b := b) h3);clear h3;go_wp2_with fail;refine (rstop_any b G tk E s _ P3.out).mono ?_;unfold RUn;rintro e w4 ⟨⟨v, rfl⟩, hP, h4⟩;have P4 := Hj hP;have R4 := Hj (R3.out.trans h4);clear hP h4;go_wp2;go_ret;exact ⟨rfl, P4.out, R4.out⟩
  ·rw [hO, if_pos rfl, if_pos rfl];clear hO;go_enter func32, ntmps32;go_upto_region 1 with (fail);refine wp_region_calm (fun _ w' => Rel w w') (fun _ => false) [0, 1, 2, 3, 4, 5, 6, 7, 8, 9, 10, 11, 12, 13, 14, 15, 16, 17] 0 (by kernel_rfl) (by kernel_rfl) ?hst ?hS0 (fun w0 h0 => ?_)
   case hst => exact fun _ _ _ h r => h.trans r
   case hS0 => exact Rel.refl _
   iterate 1
    refine wcg ?_;apply ei
    ·intro M w hM hS;unfold calmAt;go_simp;exact ⟨rfl, Rel.refl _⟩
   refine wcg ?_;apply ei
   ·intro M w hM hS;unfold calmAt;go_simp
    with_reducible refine (KD.out _ hS).mono ?_
    rintro e w1 ⟨rfl, hb⟩;exact ⟨rfl, hb⟩
   iterate 13
    refine wcg ?_;apply ei
    ·intro M w hM hS;have d0 := hS.cell c0;have d1 := hS.cell c1;have e1 := hS.cell q1;unfold calmAt;go_simp;exact ⟨rfl, Rel.refl _⟩
   refine wcg ?_;apply ei
   ·intro M w hM hS;unfold calmAt;go_simp
    with_reducible refine (I.out _).mono ?_
    rintro e w1 ⟨rfl, rfl⟩;exact ⟨rfl, Rel.refl _⟩
   iterate 2
    refine wcg ?_;apply ei
    ·intro M w hM hS;unfold calmAt;go_simp;exact ⟨rfl, Rel.refl _⟩
   refine wpCalm_nil (wpAnyR_end (by kernel_rfl) (fun w3 h3' => ?_));(try simp only [Act.put, zla, zlb, zlc]);have h3 := h0.trans h3';clear h0 h3';have P3 := Hj (HP.out.rel h3);have R3 := Hj (Ro.of (b := b) h3);have PA := Hj (P3.out.adv HI.out);have RA := Hj (R3.out.set 1 (.int .i64 ((s.i : Int) + 1)));rw [HII.out] at PA RA;have f1 := P3.out.f1;have hlt3 := P3.out.lt;have b1 := h3.cell c1;have b0 := h3.cell c0;have bq := h3.cell q1;have hG3 : G < w3.heap.size := World.block_lt_of_cell? _ _ bq;clear h3;obtain ⟨Y, hY⟩ : ∃ Y, w3.setCell ⟨b, 1, none⟩ (.int .i64 ((i : Int) + 1)) = Y := ⟨_, rfl⟩;have y1 : Y.cell? ⟨b, 1, none⟩ = some (.int .i64 ((i : Int) + 1)) := by rw [<- hY]; exact World.cell?_setCell_same _ _ _ b1
   have y0 : Y.cell? ⟨b, 0, none⟩ = some (.slice (some ⟨G, 0, none⟩) n cap) := by rw [<- hY, World.cell?_setCell_other _ _ _ _ (by simp)]; exact b0
   have yq : Y.cell? ⟨G, i * 3 + 1, none⟩ = some (.string T) := by rw [<- hY, World.cell?_setCell_other _ _ _ _ (by intro e; injection e with e _; exact hGb e.symm)]; exact bq
   rw [hY] at PA RA;go_wp2_with fail;(try rw [hY]);clear hY b0 b1 bq;refine wp_region_calm (fun _ w' => Rel Y w') (fun _ => false) [0, 1, 2, 3, 4, 5, 6, 7, 8, 9, 10, 11, 12] 0 (by kernel_rfl) (by kernel_rfl) ?hst ?hS0 (fun w0 h0 => ?_)
   case hst => exact fun _ _ _ h r => h.trans r
   case hS0 => exact Rel.refl _
   iterate 13
    refine wcg ?_;apply ei
    ·intro M w hM hS;have d0 := hS.cell y0;have d1 := hS.cell y1;have e1 := hS.cell yq;unfold calmAt;go_simp;exact ⟨rfl, Rel.refl _⟩
   refine wpAnyR_end (by kernel_rfl) (fun w5 h5' => ?_);(try simp only [Act.put, zla, zlb, zlc]);have h5 := h0.trans h5';clear h0 h5';have kz5 := h5.size;(try simp only [zsa, zsc, zsd] at kz5);have H5 := Hj h5;clear h5;go_wp2;go_ret;exact ⟨rfl, PA.out.rel H5.out, RA.out.trans (Ro.of H5.out)⟩
 ·have ek : (pkK tk s == 1) = false := by rw [zn]; exact hk
  rw [ek] at KD hO;rw [Bool.false_and] at hO;rw [hO, if_neg (by simp), if_neg (by simp)];clear h hO hz ek hk;go_enter func32, ntmps32;go_upto_region 1 with (fail);refine wp_region_calm (fun _ w' => Rel w w') (fun _ => false) [0, 1, 2, 3, 4, 5, 6, 7, 8, 9, 10, 11, 12, 13, 14, 15, 16, 17] 0 (by kernel_rfl) (by kernel_rfl) ?hst ?hS0 (fun w0 h0 => ?_)
  case hst => exact fun _ _ _ h r => h.trans r
  case hS0 => exact Rel.refl _
  iterate 1
   refine wcg ?_;apply ei
   ·intro M w hM hS;unfold calmAt;go_simp;exact ⟨rfl, Rel.refl _⟩
  refine wcg ?_;apply ei
  ·intro M w hM hS;unfold calmAt;go_simp
   with_reducible refine (KD.out _ hS).mono ?_
   rintro e w1 ⟨rfl, hb⟩;exact ⟨rfl, hb⟩
  iterate 2
   refine wcg ?_;apply ei
   ·intro M w hM hS;unfold calmAt;go_simp;exact ⟨rfl, Rel.refl _⟩
  iterate 13 (refine wcn ?_)
  iterate 1
   refine wcg ?_;apply ei
   ·intro M w hM hS;unfold calmAt;go_simp;exact ⟨rfl, Rel.refl _⟩
  refine wpCalm_nil (wpAnyR_end (by kernel_rfl) (fun w3 h3' => ?_));(try simp only [Act.put, zla, zlb, zlc]);have h3 := h0.trans h3';clear h0 h3';have P3 := Hj (HP.out.rel h3);have R3 := Hj (Ro.of (b := b) h3);clear h3;go_wp2_with fail;refine (rstop_any b G tk E s _ P3.out).mono ?_;unfold RUn;rintro e w4 ⟨⟨v, rfl⟩, hP, h4⟩;have P4 := Hj hP;have R4 := Hj (R3.out.trans h4);clear hP h4;go_wp2;go_ret;exact ⟨rfl, P4.out, R4.out⟩
def RNum (b G : Nat) (tk : List Tk) (E lo hi : Int) (s : Pt) (w : World) (e : Ending) (w' : World) : Prop := e = .returned (.int .i64 (numT tk lo hi s)) /\ Rdr w' b G tk E (numP tk lo hi s) /\ Ro b w w'
set_option maxRecDepth 20000 in
theorem rwhole_any (b G : Nat) (tk : List Tk) (E lo hi : Int) (s : Pt) (w : World) (h : Rdr w b G tk E s) (hT : TksOk tk) : Calls prog 33 #[.pointer (some ⟨b, 0, none⟩), .int .i64 lo, .int .i64 hi] w (RNum b G tk E lo hi s w) := by
 have HP := Hj h;have KD := Hj fun w' (r : Rel w w') => rkind_any b G tk E s 2 w' (HP.out.rel r) (by decide)
 have hz := pkT_size hT s;have hlt := h.lt;have hO := numO_pk tk lo hi s;unfold BRes at KD;unfold RNum numT numP;by_cases hk : pkK tk s = 2
 ·have ek : (pkK tk s == 2) = true := by rw [beq_iff_eq]; exact hk
  rw [ek] at KD hO;obtain ⟨ho, hi0⟩ := pkK_some (tk := tk) (s := s) (by omega);obtain ⟨t, cap, ht, c0, q0, q1, q2⟩ := rdr_at h hi0;have c1 := h.c1;obtain ⟨eK, eT⟩ := pk_tok ho ht;have hdB : decB t.T = true := (hT.each t (List.mem_of_getElem? ht)).2.2.2.2 (by rw [<- eK]; exact hk);rw [eT] at hz hO |-;obtain ⟨T, hT'⟩ : ∃ T, t.T = T := ⟨_, rfl⟩;rw [hT'] at q1 hz hO hdB |-;have D := Hj fun w => rDecimal_any T w (by unfold maxLen; omega)
  unfold DecRes at D;rw [hdB] at D;have hwB : whoB T = (decX T == 2 && decD T == 1) := by unfold whoB; rw [hdB]; rfl
  rw [hwB] at hO;obtain ⟨N, hN⟩ : ∃ N, decN T = N := ⟨_, rfl⟩;obtain ⟨DD, hDD⟩ : ∃ N, decD T = N := ⟨_, rfl⟩;obtain ⟨XX, hXX⟩ : ∃ N, decX T = N := ⟨_, rfl⟩;rw [hN, hDD, hXX] at D;rw [hN, hDD, hXX] at hO;rw [hN];have hlen := hT.len;obtain ⟨n, hn⟩ : ∃ n, tk.length = n := ⟨_, rfl⟩;rw [hn] at c0;have HI := Hj hi0;rw [hn] at hi0;obtain ⟨i, hi'⟩ : ∃ i, s.i = i := ⟨_, rfl⟩;rw [hi'] at q0 q1 q2 c1 hi0;have HII := Hj hi';have ii : (i : Int) < (n : Int) := by omega
  have wi : IntKind.i64.wrap ((i : Int) + 1) = (i : Int) + 1 := IntWalk.i64_in _ ⟨by omega, by omega⟩;clear h ht hT' eT eK hk ek hi' hT hdB hwB hN hDD hXX;rw [Bool.true_and] at hO;obtain ⟨O, hOO⟩ : ∃ O, numO tk lo hi s = O := ⟨_, rfl⟩;rw [hOO] at hO |-;clear hOO;obtain ⟨V, hV⟩ : ∃ V, (if O = true then N else 0) = V := ⟨_, rfl⟩;obtain ⟨Sx, hSx⟩ : ∃ V, (if O = true then s.adv else s.no) = V := ⟨_, rfl⟩;rw [hV, hSx];have HV := Hj hV;have HSx := Hj hSx;clear hV hSx;go_enter func33, ntmps33;go_wp2_with fail;refine (KD.out _ (Rel.refl _)).mono ?_;rintro e w1 ⟨rfl, h1⟩;have b0 := h1.cell c0;have b1 := h1.cell c1;have bq := h1.cell q1;have R1 := Hj h1;clear h1;go_wp2_with fail;refine wp_region_calm (fun _ w' => Rel w1 w') (fun _ => false) [0, 1, 2, 3, 4, 5, 6, 7, 8, 9, 10, 11, 12, 13, 14, 15] 4 (by kernel_rfl) (by kernel_rfl) ?hst ?hS0 (fun w0 h0 => ?_)
  case hst => exact fun _ _ _ h r => h.trans r
  case hS0 => exact Rel.refl _
  iterate 11
   refine wcg ?_;apply ei
   ·intro M w hM hS;have d0 := hS.cell b0;have d1 := hS.cell b1;have e1 := hS.cell bq;unfold calmAt;go_simp;exact ⟨rfl, Rel.refl _⟩
  refine wcg ?_;apply ei
  ·intro M w hM hS;unfold calmAt;go_simp
   with_reducible refine (D.out _).mono ?_
   rintro e w1 ⟨rfl, hb⟩;exact ⟨rfl, hb⟩
  iterate 4
   refine wcg ?_;apply ei
   ·intro M w hM hS;unfold calmAt;go_simp;exact ⟨rfl, Rel.refl _⟩
  refine wpCalm_nil ?_;have kz3 := h0.size;(try simp only [zsa, zsc, zsd] at kz3);have H3 := Hj h0;clear h0;refine wao 16 (fun w4 h4 K' hK' => ?_);have kz4 := h4.size;(try simp only [zsa, zsc, zsd] at kz4);have H4 := Hj h4;clear h4;go_simp;refine hK'.out _ _ (rx43210) ?_;clear hK' K';refine wao 17 (fun w5 h5 K' hK' => ?_);have kq0 := keep2 h5 (b := w4.heap.size) (by first | (simp; done) | (simp; omega) | omega);have kz5 := h5.size;(try simp only [zsa, zsc, zsd] at kz5);have H5 := Hj h5;clear h5;go_simp;refine hK'.out _ _ (rx543210) ?_;clear hK' K';refine wao 18 (fun w6 h6 K' hK' => ?_);have kq1 := keep2 h6 (b := w4.heap.size) (by first | (simp; done) | (simp; omega) | omega);have kz6 := h6.size;(try simp only [zsa, zsc, zsd] at kz6);have H6 := Hj h6;clear h6;go_simp;refine hK'.out _ _ (rx6543210) ?_;clear hK' K';refine wao 19 (fun w7 h7 K' hK' => ?_);have kq2 := keep2 h7 (b := w4.heap.size) (by first | (simp; done) | (simp; omega) | omega);have kz7 := h7.size;(try simp only [zsa, zsc, zsd] at kz7);have H7 := Hj h7;clear h7;go_simp;refine hK'.out _ _ (rx76543210) ?_;clear hK' K';refine wpAnyR_end (by kernel_rfl) (fun w8 h8 => ?_);(try simp only [Act.put, zla, zlb, zlc]);have kq3 := keep2 h8 (b := w4.heap.size) (by first | (simp; done) | (simp; omega) | omega);have kz8 := h8.size;(try simp only [zsa, zsc, zsd] at kz8);have H8 := Hj h8;clear h8;have RL : Hid (Rel w1 w8) := rx876543210
  have R8 := Hj (R1.out.trans RL.out);have P8 := Hj (HP.out.rel R8.out);have RO8 := Hj (Ro.of (b := b) R8.out);have a0 := P8.out.c1;rw [HII.out] at a0;have f1 := P8.out.f1;have l8 := P8.out.lt;have PA := Hj (P8.out.adv HI.out);have RA := Hj (RO8.out.set 1 (.int .i64 ((s.i : Int) + 1)));rw [HII.out] at PA RA;have nb4 : ¬ w4.heap.size = b := by have := R1.out.size; have := H3.out.size; have := H4.out.size; omega
  by_cases hx : XX = 2
  ·have ex : (XX == 2) = true := by rw [beq_iff_eq]; exact hx
   by_cases hd : DD = 1
   ·have ed : (DD == 1) = true := by rw [beq_iff_eq]; exact hd
    by_cases h3 : lo <= N
    ·have e3 : decide (lo <= N) = true := decide_eq_true h3;by_cases h4 : N <= hi
     ·have e4 : decide (N <= hi) = true := decide_eq_true h4;rw [ex, ed, e3, e4] at hO;have hO' : O = true := hO;subst hO';have hV := HV.out;have hSx := HSx.out;rw [if_pos rfl] at hV hSx;subst hV hSx;subst hx hd;clear hO;go_wp2;go_ret;exact ⟨rfl, PA.out, RA.out⟩
     ·have e4 : decide (N <= hi) = false := decide_eq_false h4;rw [ex, ed, e3, e4] at hO;have hO' : O = false := hO;subst hO';have hV := HV.out;have hSx := HSx.out;rw [if_neg (by simp)] at hV hSx;subst hV hSx;subst hx hd;clear hO PA RA;go_wp2_with fail;refine (rstop_any b G tk E s _ P8.out).mono ?_;unfold RUn;rintro e w9 ⟨⟨v, rfl⟩, hP, h9⟩;have P9 := Hj hP;have R9 := Hj (RO8.out.trans h9);clear hP h9;go_wp2;go_ret;exact ⟨rfl, P9.out, R9.out⟩
    ·have e3 : decide (lo <= N) = false := decide_eq_false h3;rw [ex, ed, e3] at hO;have hO' : O = false := by rw [hO]; simp
     subst hO';have hV := HV.out;have hSx := HSx.out;rw [if_neg (by simp)] at hV hSx;subst hV hSx;subst hx hd;clear hO PA RA;go_wp2_with fail;refine (rstop_any b G tk E s _ P8.out).mono ?_;unfold RUn;rintro e w9 ⟨⟨v, rfl⟩, hP, h9⟩;have P9 := Hj hP;have R9 := Hj (RO8.out.trans h9);clear hP h9;go_wp2;go_ret;exact ⟨rfl, P9.out, R9.out⟩
   ·have ed : (DD == 1) = false := by rw [zn]; exact hd
    rw [ex, ed] at hO;have hO' : O = false := by rw [hO]; simp
    subst hO';have hV := HV.out;have hSx := HSx.out;rw [if_neg (by simp)] at hV hSx;subst hV hSx;subst hx;clear hO PA RA;go_wp2_with fail;refine (rstop_any b G tk E s _ P8.out).mono ?_;unfold RUn;rintro e w9 ⟨⟨v, rfl⟩, hP, h9⟩;have P9 := Hj hP;have R9 := Hj (RO8.out.trans h9);clear hP h9;go_wp2;go_ret;exact ⟨rfl, P9.out, R9.out⟩
  ·have ex : (XX == 2) = false := by rw [zn]; exact hx
   rw [ex] at hO;have hO' : O = false := by rw [hO]; simp
   subst hO';have hV := HV.out;have hSx := HSx.out;rw [if_neg (by simp)] at hV hSx;subst hV hSx;clear hO PA RA;go_wp2_with fail;refine (rstop_any b G tk E s _ P8.out).mono ?_;unfold RUn;rintro e w9 ⟨⟨v, rfl⟩, hP, h9⟩;have P9 := Hj hP;have R9 := Hj (RO8.out.trans h9);clear hP h9;go_wp2;go_ret;exact ⟨rfl, P9.out, R9.out⟩
 ·have ek : (pkK tk s == 2) = false := by rw [zn]; exact hk
  rw [ek] at KD hO;rw [Bool.false_and] at hO;rw [hO, if_neg (by simp), if_neg (by simp)];clear h hO hz ek hk;go_enter func33, ntmps33;go_wp2_with fail;refine (KD.out _ (Rel.refl _)).mono ?_;rintro e w1 ⟨rfl, h1⟩;have P3 := Hj (HP.out.rel h1);have R3 := Hj (Ro.of (b := b) h1);clear h1;go_wp2_with fail;refine (rstop_any b G tk E s _ P3.out).mono ?_;unfold RUn;rintro e w4 ⟨⟨v, rfl⟩, hP, h4⟩;have P4 := Hj hP;have R4 := Hj (R3.out.trans h4);clear hP h4;go_wp2;go_ret;exact ⟨rfl, P4.out, R4.out⟩
def HdT (t : Tk) : Prop := (t.K = 2 \/ t.K = 3) -> ∃ c l, t.T.data.toList = c :: l /\ (dgb c = true \/ (c.toNat : Int) = 64)
def TkHd (tk : List Tk) : Prop := ∀ t ∈ tk, HdT t
def xokB (x : List UInt8) : Bool := match x with | [] => true | c :: _ => !dgb c && !((c.toNat : Int) == 64)
theorem txOk_of {tk : List Tk} (h : TkHd tk) (hT : TksOk tk) {x : List UInt8} (hx : xokB x = true) : TxOk tk x := fun t ht e => by
 rcases (hT.each t ht).2.2.2.1 with k | k | k | k
 ·exact .inl k
 ·exfalso
  obtain ⟨c, l, e', hc⟩ := h t ht (.inl k);rw [e] at e';subst e';have hx' : (!dgb c && !((c.toNat : Int) == 64)) = true := hx
  rcases hc with hc | hc
  ·rw [hc] at hx'; simp at hx'
  ·rw [hc] at hx'; simp at hx'
 ·exfalso
  obtain ⟨c, l, e', hc⟩ := h t ht (.inr k);rw [e] at e';subst e';have hx' : (!dgb c && !((c.toNat : Int) == 64)) = true := hx
  rcases hc with hc | hc
  ·rw [hc] at hx'; simp at hx'
  ·rw [hc] at hx'; simp at hx'
 ·exact .inr k
theorem tokK_hd {s : ByteArray} {b : Nat} (h : tokK s b = 2 \/ tokK s b = 3) : ∃ hb : b < s.size, dgb s[b] = true \/ (s[b].toNat : Int) = 64 := by
 unfold tokK at h;by_cases hb : b < s.size
 ·refine ⟨hb, ?_⟩;rw [dif_pos hb] at h;by_cases h1 : low s[b] = true
  ·rw [if_pos h1] at h
   split at h <;> omega
  ·rw [if_neg h1] at h;by_cases h2 : dgb s[b] = true
   ·exact .inl h2
   ·rw [if_neg h2] at h;by_cases h3 : (s[b].toNat : Int) = 64
    ·exact .inr h3
    ·rw [if_neg h3] at h
     split at h <;> omega
 ·rw [dif_neg hb] at h; omega
theorem allF_hd (s : ByteArray) : ∀ (f a : Nat) (acc : List Tk), a <= s.size -> TkHd acc -> TkHd (allF s f a acc).1 := by
 intro f
 induction f with
 | zero => intro a acc ha h; exact h
 | succ f ih =>
  intro a acc ha h;simp only [allF];have hs := skp_le ha;by_cases h1 : skp s a = s.size
  ·rw [if_pos h1]; exact h
  ·rw [if_neg h1];by_cases h2 : tokK s (skp s a) = 0
   ·rw [if_pos h2]; intro t ht; simp at ht
   ·rw [if_neg h2];have hb : skp s a < s.size := by omega
    have hn := tokN_pos h2;have hle := tok_le hb;refine ih _ _ hle (fun t ht => ?_)
    rcases List.mem_append.1 ht with ht | ht
    ·exact h t ht
    ·obtain rfl : t = ⟨tokK s (skp s a), s.extract (skp s a) (skp s a + tokN s (skp s a)), (skp s a : Int)⟩ := by simpa using ht
     intro hk;obtain ⟨hb', hc⟩ := tokK_hd hk;refine ⟨s[skp s a], ((s.data.toList.drop (skp s a + 1)).take (tokN s (skp s a) - 1)), ?_, hc⟩;show (s.extract _ _).data.toList = _
     rw [ext_data, show skp s a + tokN s (skp s a) - skp s a = (tokN s (skp s a) - 1) + 1 by omega, drop_cons s _ hb, List.take_succ_cons]
theorem allR_hd (s : ByteArray) : TkHd (allR s).1 := by
 unfold allR;split
 ·exact allF_hd s _ 0 [] (Nat.zero_le _) (fun t ht => by simp at ht)
 ·intro t ht; simp at ht
def opLn (n : Int) : List (List UInt8 × Int) := if n = 1 then [(kOr, 18)] else if n = 2 then [(kAnd, 17)] else if n = 4 then relL else if n = 5 then sumL else if n = 6 then mulL else []
theorem opLn_none {tk : List Tk} {s : Pt} {n : Int} (hno : ∀ j : Nat, 7 <= j -> j <= 18 -> levI (j : Int) = n -> accB tk (sgS (j : Int)).data.toList s = false) : binT tk s (opLn n) = 0 /\ binO tk s (opLn n) = false := by
 have key : ∀ l : List (List UInt8 × Int), (∀ p ∈ l, accB tk p.1 s = false) -> binT tk s l = 0 /\ binO tk s l = false := by
  intro l
  induction l with
  | nil => exact fun _ => ⟨rfl, rfl⟩
  | cons p l ih =>
   intro h;have h0 := h p (by simp);obtain ⟨i1, i2⟩ := ih (fun q hq => h q (by simp [hq]));simp only [binT, binO, h0];exact ⟨i1, i2⟩
 refine key _ (fun p hp => ?_)
 have at' : ∃ j : Nat, 7 <= j /\ j <= 18 /\ levI (j : Int) = n /\ p.1 = (sgS (j : Int)).data.toList := by
  unfold opLn at hp
  split at hp
  ·rename_i e; subst e;simp at hp; subst hp;exact ⟨18, by decide, by decide, rfl, rfl⟩
  ·split at hp
   ·rename_i e; subst e;simp at hp; subst hp;exact ⟨17, by decide, by decide, rfl, rfl⟩
   ·split at hp
    ·rename_i e; subst e;simp [relL] at hp
     rcases hp with rfl | rfl | rfl | rfl | rfl | rfl
     ·exact ⟨11, by decide, by decide, rfl, rfl⟩
     ·exact ⟨12, by decide, by decide, rfl, rfl⟩
     ·exact ⟨13, by decide, by decide, rfl, rfl⟩
     ·exact ⟨14, by decide, by decide, rfl, rfl⟩
     ·exact ⟨15, by decide, by decide, rfl, rfl⟩
     ·exact ⟨16, by decide, by decide, rfl, rfl⟩
    ·split at hp
     ·rename_i e; subst e;simp [sumL] at hp
      rcases hp with rfl | rfl
      ·exact ⟨7, by decide, by decide, rfl, rfl⟩
      ·exact ⟨8, by decide, by decide, rfl, rfl⟩
     ·split at hp
      ·rename_i e; subst e;simp [mulL] at hp
       rcases hp with rfl | rfl
       ·exact ⟨9, by decide, by decide, rfl, rfl⟩
       ·exact ⟨10, by decide, by decide, rfl, rfl⟩
      ·simp at hp
 obtain ⟨j, j0, j1, j2, e⟩ := at';rw [e]; exact hno j j0 j1 j2
theorem opLn_hit {tk : List Tk} {s : Pt} {k : Nat} (k0 : 7 <= k) (k1 : k <= 18) (hno : ∀ j : Nat, 7 <= j -> j < k -> levI (j : Int) = levI (k : Int) -> accB tk (sgS (j : Int)).data.toList s = false) (ha : accB tk (sgS (k : Int)).data.toList s = true) : binT tk s (opLn (levI (k : Int))) = (k : Int) /\ binO tk s (opLn (levI (k : Int))) = true := by
 have N : ∀ {p : List UInt8 × Int} {l : List (List UInt8 × Int)}, accB tk p.1 s = false -> binT tk s (p :: l) = binT tk s l /\ binO tk s (p :: l) = binO tk s l := fun h => by simp only [binT, binO, h]; exact ⟨rfl, rfl⟩
 have Y : ∀ {p : List UInt8 × Int} {l : List (List UInt8 × Int)}, accB tk p.1 s = true -> binT tk s (p :: l) = p.2 /\ binO tk s (p :: l) = true := fun h => by simp only [binT, binO, h]; exact ⟨rfl, rfl⟩
 have T : ∀ {a b : Int} {x y : Bool} {c : Int}, a = b /\ x = y -> b = c /\ y = true -> a = c /\ x = true := fun h k => ⟨h.1.trans k.1, h.2.trans k.2⟩
 rcases (show k = 7 \/ k = 8 \/ k = 9 \/ k = 10 \/ k = 11 \/ k = 12 \/ k = 13 \/ k = 14 \/ k = 15 \/ k = 16 \/ k = 17 \/ k = 18 by omega) with rfl | rfl | rfl | rfl | rfl | rfl | rfl | rfl | rfl | rfl | rfl | rfl
 ·exact Y (p := ([43], 7)) ha
 ·exact T (N (p := ([43], 7)) (hno 7 (by decide) (by decide) rfl)) (Y (p := ([45], 8)) ha)
 ·exact Y (p := ([42], 9)) ha
 ·exact T (N (p := ([42], 9)) (hno 9 (by decide) (by decide) rfl)) (Y (p := ([47], 10)) ha)
 ·exact Y (p := ([60], 11)) ha
 ·exact T (N (p := ([60], 11)) (hno 11 (by decide) (by decide) rfl)) (Y (p := ([60, 61], 12)) ha)
 ·exact T (N (p := ([60], 11)) (hno 11 (by decide) (by decide) rfl)) (T (N (p := ([60, 61], 12)) (hno 12 (by decide) (by decide) rfl)) (Y (p := ([61], 13)) ha))
 ·exact T (N (p := ([60], 11)) (hno 11 (by decide) (by decide) rfl)) (T (N (p := ([60, 61], 12)) (hno 12 (by decide) (by decide) rfl)) (T (N (p := ([61], 13)) (hno 13 (by decide) (by decide) rfl)) (Y (p := ([60, 62], 14)) ha)))
 ·exact T (N (p := ([60], 11)) (hno 11 (by decide) (by decide) rfl)) (T (N (p := ([60, 61], 12)) (hno 12 (by decide) (by decide) rfl)) (T (N (p := ([61], 13)) (hno 13 (by decide) (by decide) rfl)) (T (N (p := ([60, 62], 14)) (hno 14 (by decide) (by decide) rfl)) (Y (p := ([62], 15)) ha))))
 ·exact T (N (p := ([60], 11)) (hno 11 (by decide) (by decide) rfl)) (T (N (p := ([60, 61], 12)) (hno 12 (by decide) (by decide) rfl)) (T (N (p := ([61], 13)) (hno 13 (by decide) (by decide) rfl)) (T (N (p := ([60, 62], 14)) (hno 14 (by decide) (by decide) rfl)) (T (N (p := ([62], 15)) (hno 15 (by decide) (by decide) rfl)) (Y (p := ([62, 61], 16)) ha)))))
 ·exact Y (p := (kAnd, 17)) ha
 ·exact Y (p := (kOr, 18)) ha
theorem sgS_xok (op : Int) : xokB (sgS op).data.toList = true := by
 unfold sgS
 repeat' split
 all_goals decide
def RInt (b G : Nat) (tk : List Tk) (z : Int) (w : World) (e : Ending) (w' : World) : Prop := e = .returned (.int .i64 z) /\ Rel w w'
set_option maxRecDepth 20000 in
theorem rbin_any (b G : Nat) (tk : List Tk) (E : Int) (n : Int) (s : Pt) (w : World) (h : Rdr w b G tk E s) (hT : TksOk tk) (hH : TkHd tk) : Calls prog 160 #[.pointer (some ⟨b, 0, none⟩), .int .i64 n] w (RInt b G tk (binT tk s (opLn n)) w) := by
 have HP := Hj h;have HX := Hj fun (k : Int) => txOk_of hH hT (sgS_xok k)
 unfold RInt;clear h;obtain ⟨Z, hZ⟩ : ∃ Z, binT tk s (opLn n) = Z := ⟨_, rfl⟩;rw [hZ];have HZ := Hj hZ;clear hZ;go_enter func160, ntmps160;go_wp2_with fail
 go_loopw [5] (fun i wx => ∃ k : Nat, 7 <= k /\ k <= 19 /\ i = .int .i64 k /\ Hid (∀ j : Nat, 7 <= j -> j < k -> levI (j : Int) = n -> accB tk (sgS (j : Int)).data.toList s = false) /\ Hid (Rel w wx)) (fun i _ => 19 - (intOf i).toNat)
 case atStart => exact ⟨7, by omega, by omega, rfl, fun j h1 h2 => by omega, Rel.refl _⟩
 case round =>
  obtain ⟨k, k7, k19, rfl, hno, hR⟩ := hrel;by_cases hlt : k <= 18
  ·have ki : (k : Int) <= 18 := by omega
   have LV := Hj fun w => rlevel_any (k : Int) w (by omega) (by omega)
   by_cases hl : levI (k : Int) = n
   ·have el : (levI (k : Int) == n) = true := by rw [beq_iff_eq]; exact hl
    have SG := Hj fun w => rsign_any (k : Int) w (by omega) (by omega)
    have I := Hj fun w' (r : Rel w w') => ris_any b G tk E s (sgS (k : Int)) w' (HP.out.rel r) (HX.out k)
    unfold BRes at I;have HL := Hj hl;obtain ⟨kk, hkk⟩ : ∃ kk, accB tk (sgS (k : Int)).data.toList s = kk := ⟨_, rfl⟩;rw [hkk] at I;have HK := Hj hkk;obtain ⟨S, hS⟩ : ∃ S, sgS (k : Int) = S := ⟨_, rfl⟩;obtain ⟨L, hL⟩ : ∃ L, levI (k : Int) = L := ⟨_, rfl⟩;rw [hS] at SG I;rw [hL] at LV el;clear hkk hS hL hl;cases kk
    ·go_wp2_with fail;refine (LV.out _).mono ?_;rintro e w1 ⟨rfl, rfl⟩;go_wp2_with fail;refine (SG.out _).mono ?_;rintro e w1 ⟨rfl, rfl⟩;go_wp2_with fail;refine (I.out _ hR.out).mono ?_;rintro e w1 ⟨rfl, h1⟩;have R1 := Hj (hR.out.trans h1);clear h1;go_wp2
     go_roundw
     case rel => exact ⟨k + 1, by omega, by omega, by go_num, (by
      intro j j0 j1 jl;by_cases e : j = k
      ·subst e; exact HK.out
      ·exact hno.out j j0 (by omega) jl), R1⟩
     case measure => simp [intOf]; omega
    ·have hz : Hid (Z = (k : Int)) := by
      show _ = _
      rw [<- HZ.out, <- HL.out];exact (opLn_hit k7 hlt (fun j j0 j1 jl => hno.out j j0 j1 (jl.trans HL.out)) HK.out).1
     go_wp2_with fail;refine (LV.out _).mono ?_;rintro e w1 ⟨rfl, rfl⟩;go_wp2_with fail;refine (SG.out _).mono ?_;rintro e w1 ⟨rfl, rfl⟩;go_wp2_with fail;refine (I.out _ hR.out).mono ?_;rintro e w1 ⟨rfl, h1⟩;have R1 := Hj (hR.out.trans h1);clear h1;go_wp2;go_ret;exact ⟨by rw [hz.out]; rfl, R1.out⟩
   ·have el : (levI (k : Int) == n) = false := by rw [zn]; exact hl
    have HL := Hj hl;obtain ⟨L, hL⟩ : ∃ L, levI (k : Int) = L := ⟨_, rfl⟩;rw [hL] at LV el;clear hL hl;go_wp2_with fail;refine (LV.out _).mono ?_;rintro e w1 ⟨rfl, rfl⟩;go_wp2
    go_roundw
    case rel => exact ⟨k + 1, by omega, by omega, by go_num, (by
     intro j j0 j1 jl;by_cases e : j = k
     ·subst e; exact absurd jl HL.out
     ·exact hno.out j j0 (by omega) jl), hR⟩
    case measure => simp [intOf]; omega
  ·obtain rfl : k = 19 := by omega
   have hz : Hid (Z = 0) := by
    show _ = _
    rw [<- HZ.out];exact (opLn_none (fun j j0 j1 jl => hno.out j j0 (by omega) jl)).1
   go_wp2;go_ret;exact ⟨by rw [hz.out]; rfl, hR.out⟩
def RRes (b G : Nat) (tk : List Tk) (E : Int) (r : Ex × Pt) (w : World) (e : Ending) (w' : World) : Prop :=
 ∃ t x, e = .returned (.agg #[.int .i64 t.op, .int .i64 t.va, .int .i64 t.vb, .int .i64 t.dm, .string t.nm, x]) /\ ExKidsB (fun g => w.heap.size <= g) t w' x /\ (r.2.ok = true -> t = r.1) /\ Rdr w' b G tk E r.2 /\ Ro b w w'
def RC (b G : Nat) (tk : List Tk) (E : Int) (m f : Nat) : Prop :=
 ∀ (w : World) (s : Pt), Rdr w b G tk E s -> 10 * rem tk s + cc m <= f -> Calls prog 123 #[.pointer (some ⟨b, 0, none⟩), .int .i64 (m : Int)] w (RRes b G tk E (pe tk f m .no s) w)
def RF (b G : Nat) (tk : List Tk) (E : Int) (f : Nat) : Prop :=
 ∀ (w : World) (s : Pt), Rdr w b G tk E s -> s.ok = true -> 10 * rem tk s + 1 <= f -> Calls prog 159 #[.pointer (some ⟨b, 0, none⟩)] w (RRes b G tk E (pe tk f 7 .no s) w)
theorem bin_bad {tk : List Tk} {s : Pt} (h : s.ok = false) (l : List (List UInt8 × Int)) : binO tk s l = false /\ binT tk s l = 0 := bin_no (fun i p _ => accB_end (.inl h))
theorem pe_bad (tk : List Tk) {s : Pt} (h : s.ok = false) : ∀ f m a, md m -> (pe tk f m a s).2 = s := by
 intro f
 induction f with
 | zero => intro m a _; rfl
 | succ f ih =>
  intro m a hm;have A : ∀ x, accB tk x s = false := fun x => accB_end (.inl h)
  have I : ∀ m a, md m -> (pe tk f m a s).2 = s := ih;unfold md at hm
  rcases hm with rfl | rfl | rfl | rfl | rfl | rfl | rfl | rfl | rfl | rfl | rfl | rfl
  ·rw [pe_0, if_neg (by simp [A])]; exact I _ _ (by unfold md; decide)
  ·rw [pe_1, I 2 .no (by unfold md; decide)]; exact I _ _ (by unfold md; decide)
  ·rw [pe_11, if_neg (by simp [A])]
  ·rw [pe_2, I 3 .no (by unfold md; decide)]; exact I _ _ (by unfold md; decide)
  ·rw [pe_12, if_neg (by simp [A])]
  ·rw [pe_3, if_neg (by simp [A])]; exact I _ _ (by unfold md; decide)
  ·rw [pe_4, I 5 .no (by unfold md; decide), if_neg (by simp [bin_bad h])]; exact I _ _ (by unfold md; decide)
  ·rw [pe_5, I 6 .no (by unfold md; decide)]; exact I _ _ (by unfold md; decide)
  ·rw [pe_15, if_neg (by simp [bin_bad h])]
  ·rw [pe_6, I 7 .no (by unfold md; decide)]; exact I _ _ (by unfold md; decide)
  ·rw [pe_16, if_neg (by simp [bin_bad h])]
  ·rw [pe_7, if_neg (by simp [A]), if_neg (by simp [A]), if_neg (by simp [A]), if_neg (by simp [A]), if_neg (by simp [bin_bad h])];have hk : pkK tk s = 0 := by unfold pkK tkAt; rw [h]; rfl
   rw [if_neg (by rw [hk]; decide)];have hN : namO tk s = false := by unfold namO tkAt; rw [h]; rfl
   show namP tk s = s
   unfold namP; rw [if_neg (by simp [hN])]; exact no_no h
def zeroT : Ex := .mk 0 0 0 0 ⟨#[]⟩ 0 (fun _ => .no)
theorem zeroT_kids (P : Nat -> Prop) (w : World) : ExKidsB P zeroT w (.slice none 0 0) := ⟨⟨by decide, by decide, by decide, by decide, by decide, by decide, by decide, by decide, by decide⟩, by decide, none, 0, rfl, fun h => absurd h (by decide)⟩
theorem opLn_zero {tk : List Tk} {s : Pt} {n : Int} (h : binO tk s (opLn n) = false) : binT tk s (opLn n) = 0 := by
 generalize opLn n = l at *
 induction l with
 | nil => rfl
 | cons p l ih =>
  simp only [binO] at h;simp only [binT]
  split at h
  ·cases h
  ·rename_i ha; rw [if_neg ha]; exact ih h
theorem opLn_pos {tk : List Tk} {s : Pt} {n : Int} (h : binO tk s (opLn n) = true) : 7 <= binT tk s (opLn n) /\ binT tk s (opLn n) <= 18 := by
 have key : ∀ l : List (List UInt8 × Int), (∀ p ∈ l, 7 <= p.2 /\ p.2 <= 18) -> binO tk s l = true -> 7 <= binT tk s l /\ binT tk s l <= 18 := by
  intro l
  induction l with
  | nil => intro _ h; cases h
  | cons p l ih =>
   intro hl h;simp only [binO] at h;simp only [binT];split
   ·exact hl p (by simp)
   ·rename_i ha;rw [if_neg ha] at h;exact ih (fun q hq => hl q (by simp [hq])) h
 refine key _ ?_ h;unfold opLn
 repeat' split
 all_goals decide
theorem bin_some {tk : List Tk} {s : Pt} {l : List (List UInt8 × Int)} (h : binO tk s l = true) : ∃ t, tk[s.i]? = some t /\ s.i < tk.length := by
 induction l with
 | nil => cases h
 | cons p l ih =>
  simp only [binO] at h
  split at h
  ·rename_i ha;obtain ⟨t, ht, -⟩ := accB_some ha;obtain ⟨-, h1, h2⟩ := tkAt_some ht;exact ⟨t, h2, h1⟩
  ·exact ih h
theorem pe_lp (tk : List Tk) (f n : Nat) (hn : n = 1 \/ n = 2 \/ n = 5 \/ n = 6) (a : Ex) (s : Pt) : pe tk (f + 1) (10 + n) a s = if binO tk s (opLn (n : Int)) = true then pe tk f (10 + n) (trB (binT tk s (opLn (n : Int))) a (pe tk f (n + 1) .no s.adv).1) (pe tk f (n + 1) .no s.adv).2 else (a, s) := by
 rcases hn with rfl | rfl | rfl | rfl
 ·show pe tk (f + 1) 11 a s = _
  rw [pe_11]
  have e1 : binO tk s (opLn ((1 : Nat) : Int)) = accB tk kOr s := by show (if accB tk kOr s = true then true else false) = _; cases accB tk kOr s <;> rfl
  rw [e1];by_cases h : accB tk kOr s = true
  ·rw [if_pos h, if_pos h];have e2 : binT tk s (opLn ((1 : Nat) : Int)) = 18 := by show (if accB tk kOr s = true then (18 : Int) else 0) = _; rw [if_pos h]
   rw [e2]
  ·rw [if_neg h, if_neg h]
 ·show pe tk (f + 1) 12 a s = _
  rw [pe_12]
  have e1 : binO tk s (opLn ((2 : Nat) : Int)) = accB tk kAnd s := by show (if accB tk kAnd s = true then true else false) = _; cases accB tk kAnd s <;> rfl
  rw [e1];by_cases h : accB tk kAnd s = true
  ·rw [if_pos h, if_pos h];have e2 : binT tk s (opLn ((2 : Nat) : Int)) = 17 := by show (if accB tk kAnd s = true then (17 : Int) else 0) = _; rw [if_pos h]
   rw [e2]
  ·rw [if_neg h, if_neg h]
 ·rfl
 ·rfl
theorem Rdr.eq {W Z : World} {b G : Nat} {tk : List Tk} {E : Int} {s : Pt} (h : Rdr W b G tk E s) (hs : W.heap.size <= Z.heap.size) (hb : Z.heap[b]? = W.heap[b]?) (hG : tk = [] \/ Z.heap[G]? = W.heap[G]?) : Rdr Z b G tk E s := by
 obtain ⟨ad, cap, h1, h2⟩ := h.tok;have oc : ∀ j, Z.cell? ⟨b, j, none⟩ = W.cell? ⟨b, j, none⟩ := fun j => World.cell?_of_block hb
 have of : ∀ j, Z.frozen? ⟨b, j, none⟩ = W.frozen? ⟨b, j, none⟩ := fun j => World.frozen?_of_block hb
 have tk2 : Toks Z b G tk := by
  rcases h.toks with e | ⟨hg, hne, hc⟩
  ·exact .inl e
  ·rcases hG with e | e
   ·exact .inl e
   ·exact .inr ⟨Nat.lt_of_lt_of_le hg hs, hne, fun i t ht => ⟨(World.cell?_of_block e).trans (hc i t ht).1, (World.cell?_of_block e).trans (hc i t ht).2.1, (World.cell?_of_block e).trans (hc i t ht).2.2⟩⟩
 exact ⟨Nat.lt_of_lt_of_le h.lt hs, h.le, ⟨ad, cap, (oc 0).trans h1, h2⟩, tk2, (oc 1).trans h.c1, (oc 2).trans h.c2, (oc 3).trans h.c3, (of 1).trans h.f1, (of 3).trans h.f3⟩
structure RX (b G : Nat) (tk : List Tk) (E : Int) (w0 : World) (s : Pt) (W : World) : Prop where
 P : Rdr W b G tk E s
 R : Ro b w0 W
 hb : b < w0.heap.size
 hG : tk = [] \/ G < w0.heap.size
section
variable {b G : Nat} {tk : List Tk} {E : Int} {w0 W X : World} {s : Pt}
theorem RX.st {s2 : Pt} (h : RX b G tk E w0 s W) (p : Rdr X b G tk E s2) (r : Ro b W X) : RX b G tk E w0 s2 X := ⟨p, h.R.trans r, h.hb, h.hG⟩
theorem RX.of (h : Rdr W b G tk E s) : RX b G tk E W s W := ⟨h, Ro.refl _ _, h.lt, h.toks.imp id fun h => h.1⟩
theorem RX.rel (h : RX b G tk E w0 s W) (r : Rel W X) : RX b G tk E w0 s X := ⟨h.P.rel r, h.R.trans (Ro.of r), h.hb, h.hG⟩
theorem RX.al (h : RX b G tk E w0 s W) (o : Obj) : RX b G tk E w0 s (W.alloc o) := h.rel ((Rel.refl _).alloc o)
theorem RX.re (h : RX b G tk E w0 s W) : RX b G tk E W s W := ⟨h.P, Ro.refl _ _, Nat.lt_of_lt_of_le h.hb h.R.size, h.hG.imp id fun e => Nat.lt_of_lt_of_le e h.R.size⟩
theorem RX.tr (h : RX b G tk E w0 s W) {wa : World} (r : Ro b wa w0) (hb : b < wa.heap.size) (hG : tk = [] \/ G < wa.heap.size) : RX b G tk E wa s W := ⟨h.P, r.trans h.R, hb, hG⟩
theorem RX.adv (h : RX b G tk E w0 s W) (hi : s.i < tk.length) : RX b G tk E w0 s.adv (W.setCell ⟨b, 1, none⟩ (.int .i64 ((s.i : Int) + 1))) := ⟨h.P.adv hi, h.R.set 1 _, h.hb, h.hG⟩
theorem RX.put (h : RX b G tk E w0 s W) {g : Nat} (hg : w0.heap.size <= g) (i : Nat) (u : Value) : RX b G tk E w0 s (W.setCell ⟨g, i, none⟩ u) :=
 ⟨h.P.eq (by simp) (Below.heap_setCell _ _ _ _ (by show b ≠ g; have := h.hb; omega)) (h.hG.imp id fun e => Below.heap_setCell _ _ _ _ (by show G ≠ g; omega)), h.R.setNew (p := ⟨g, i, none⟩) hg u, h.hb, h.hG⟩
theorem RX.p2 (h : RX b G tk E w0 s W) {g : Nat} (hg : w0.heap.size <= g) (i : Nat) {u0 u1 : Value} : RX b G tk E w0 s ((W.setCell ⟨g, i, none⟩ u0).setCell ⟨g, i + 1, none⟩ u1) := (h.put hg _ _).put hg _ _
theorem RX.p6 (h : RX b G tk E w0 s W) {g : Nat} (hg : w0.heap.size <= g) (i : Nat) {u0 u1 u2 u3 u4 u5 : Value} : RX b G tk E w0 s ((((((W.setCell ⟨g, i, none⟩ u0).setCell ⟨g, i + 1, none⟩ u1).setCell ⟨g, i + 2, none⟩ u2).setCell ⟨g, i + 3, none⟩ u3).setCell ⟨g, i + 4, none⟩ u4).setCell ⟨g, i + 5, none⟩ u5) := (((((h.put hg _ _).put hg _ _).put hg _ _).put hg _ _).put hg _ _).put hg _ _
theorem RX.grown {row : Option Nat} (h : RX b G tk E w0 s W) (hg : W.grownBy X row) (hrow : ∀ q, row = some q -> w0.heap.size <= q) : RX b G tk E w0 s X := by
 have h1 := h.hb;have h3 := h.R.size;have key : ∀ q, q < w0.heap.size -> X.heap[q]? = W.heap[q]? := fun q hq => hg.block q (by omega) (fun e => by have := hrow q e.symm; omega)
 exact ⟨h.P.eq hg.size (key b h1) (h.hG.imp id fun e => key G e), Ro.grown h.R hg hrow, h.hb, h.hG⟩
end
section
variable {b G : Nat} {tk : List Tk} {E : Int} {w0 w : World} {s : Pt}
theorem x_ty (hT : TksOk tk) (hH : TkHd tk) (h : RX b G tk E w0 s w) (X : ByteArray) {x : List UInt8} (ha : accB tk x s = true) (hX : X.data.toList = x := by rfl) (hx : xokB X.data.toList = true := by kernel_rfl) : Calls prog 34 #[.pointer (some ⟨b, 0, none⟩), .string X] w fun e w' => e = .returned (.bool true) /\ RX b G tk E w0 s.adv w' := by
 refine (rtake_any b G tk E s X w h.P (txOk_of hH hT hx) hT.len).mono ?_;rintro e w' ⟨h1, h2, h3⟩;unfold accP at h2;rw [hX, ha] at h1 h2;exact ⟨h1, h2, h.R.trans h3, h.hb, h.hG⟩
theorem x_tn (hT : TksOk tk) (hH : TkHd tk) (h : RX b G tk E w0 s w) (X : ByteArray) {x : List UInt8} (ha : accB tk x s = false) (hX : X.data.toList = x := by rfl) (hx : xokB X.data.toList = true := by kernel_rfl) : Calls prog 34 #[.pointer (some ⟨b, 0, none⟩), .string X] w fun e w' => e = .returned (.bool false) /\ RX b G tk E w0 s w' := by
 refine (rtake_any b G tk E s X w h.P (txOk_of hH hT hx) hT.len).mono ?_;rintro e w' ⟨h1, h2, h3⟩;unfold accP at h2;rw [hX, ha] at h1 h2;exact ⟨h1, h2, h.R.trans h3, h.hb, h.hG⟩
theorem x_want (hT : TksOk tk) (hH : TkHd tk) (h : RX b G tk E w0 s w) (X : ByteArray) {x : List UInt8} (hX : X.data.toList = x := by rfl) (hx : xokB X.data.toList = true := by kernel_rfl) : Calls prog 31 #[.pointer (some ⟨b, 0, none⟩), .string X] w fun e w' => (∃ v, e = .returned v) /\ RX b G tk E w0 (expP tk x s) w' := by
 subst hX;refine (rwant_any b G tk E s X w h.P (txOk_of hH hT hx) hT.len).mono ?_;rintro e w' ⟨h1, h2, h3⟩;exact ⟨h1, h2, h.R.trans h3, h.hb, h.hG⟩
theorem x_stop (h : RX b G tk E w0 s w) : Calls prog 78 #[.pointer (some ⟨b, 0, none⟩)] w fun e w' => (∃ v, e = .returned v) /\ RX b G tk E w0 s.no w' := by
 refine (rstop_any b G tk E s w h.P).mono ?_;rintro e w' ⟨h1, h2, h3⟩;exact ⟨h1, h2, h.R.trans h3, h.hb, h.hG⟩
theorem x_whole (hT : TksOk tk) (h : RX b G tk E w0 s w) (lo hi : Int) : Calls prog 33 #[.pointer (some ⟨b, 0, none⟩), .int .i64 lo, .int .i64 hi] w fun e w' => e = .returned (.int .i64 (numT tk lo hi s)) /\ RX b G tk E w0 (numP tk lo hi s) w' := by
 refine (rwhole_any b G tk E lo hi s w h.P hT).mono ?_;rintro e w' ⟨h1, h2, h3⟩;exact ⟨h1, h2, h.R.trans h3, h.hb, h.hG⟩
theorem x_name (hT : TksOk tk) (h : RX b G tk E w0 s w) : Calls prog 32 #[.pointer (some ⟨b, 0, none⟩)] w fun e w' => e = .returned (.string (namT tk s)) /\ RX b G tk E w0 (namP tk s) w' := by
 refine (rname_any b G tk E s w h.P hT).mono ?_;rintro e w' ⟨h1, h2, h3⟩;exact ⟨h1, h2, h.R.trans h3, h.hb, h.hG⟩
end
section
variable {b G : Nat} {tk : List Tk} {E : Int} {w0 w W : World} {s : Pt}
theorem RX.at {fn : FuncId} {ar : Array Value} {r : Ex × Pt} (S : RX b G tk E w0 s w) (C : Calls prog fn ar w (RRes b G tk E r w)) (hb : Beh tk s r.2) : Calls prog fn ar w fun e X => ∃ t a xa xc s1, r = (a, s1) /\ e = .returned (.agg #[.int .i64 t.op, .int .i64 t.va, .int .i64 t.vb, .int .i64 t.dm, .string t.nm, .slice xa t.cnt xc]) /\ ExKidsB (fun q => w.heap.size <= q) t X (.slice xa t.cnt xc) /\ (s1.ok = true -> s.ok = true /\ t = a) /\ RX b G tk E w0 s1 X /\ Ro b w X /\ rem tk s1 <= rem tk s := by
 refine C.mono ?_;rintro e X ⟨t, x, h1, h2, h3, h4, h5⟩;obtain ⟨xa, xc, rfl⟩ := kids_slice (kidsB_to h2);exact ⟨t, _, xa, xc, _, rfl, h1, h2, fun h => ⟨hb.2.1 h, h3 h⟩, S.st h4 h5, h5, hb.rem⟩
theorem RC.at (n c : Nat) {z : Int} {f : Nat} (H : ∀ m, m <= 7 -> RC b G tk E m f) (S : RX b G tk E w0 s w) (hf : 10 * rem tk s + c <= f := by omega) (hz : z = (n : Int) := by rfl) (hn : n <= 7 := by decide) (hc : cc n = c := by rfl) : Calls prog 123 #[.pointer (some ⟨b, 0, none⟩), .int .i64 z] w fun e X => ∃ t a xa xc s1, pe tk f n .no s = (a, s1) /\ e = .returned (.agg #[.int .i64 t.op, .int .i64 t.va, .int .i64 t.vb, .int .i64 t.dm, .string t.nm, .slice xa t.cnt xc]) /\ ExKidsB (fun q => w.heap.size <= q) t X (.slice xa t.cnt xc) /\ (s1.ok = true -> s.ok = true /\ t = a) /\ RX b G tk E w0 s1 X /\ Ro b w X /\ rem tk s1 <= rem tk s := by
 subst hc hz;exact S.at (H n hn w s S.P hf) (pe_beh tk f n .no s (by unfold md; omega))
theorem r_ret {fn : Func} {ac : Act} {tm : Tmp} {T : TypeId} {l : List Value} {r : Ex × Pt} {t a : Ex} {xa : Option Addr} {xc : Nat} (e : r = (a, s)) (q : s.ok = true -> t = a) (S : RX b G tk E w s W) (B : Blk W w.heap.size T l) (K : ExKidsB (fun q => w.heap.size < q) t W (.slice xa t.cnt xc)) (hl : l.length = 6 := by rfl) (h : fn.results = #[.cell tm 59] := by rfl) (ht : ac.tmps.getD tm undef = .pointer (some ⟨w.heap.size, 0, none⟩) := by rfl) (hd : ac.defers = [] := by rfl) :
  bodyPost prog fn (RRes b G tk E r w) .ret ac ((((((W.setCell ⟨w.heap.size, 0, none⟩ (.int .i64 t.op)).setCell ⟨w.heap.size, 1, none⟩ (.int .i64 t.va)).setCell ⟨w.heap.size, 2, none⟩ (.int .i64 t.vb)).setCell ⟨w.heap.size, 3, none⟩ (.int .i64 t.dm)).setCell ⟨w.heap.size, 4, none⟩ (.string t.nm)).setCell ⟨w.heap.size, 5, none⟩ (.slice xa t.cnt xc)) := by
 subst e;exact six_ret t B K (fun Z hZ hK => by subst hZ; exact ⟨t, _, rfl, hK, q, (S.p6 (Nat.le_refl _) 0).P, (S.p6 (Nat.le_refl _) 0).R⟩) hl h ht hd
theorem r_retA {fn : Func} {ac : Act} {tm : Tmp} {T : TypeId} {l : List Value} {r : Ex × Pt} {t a : Ex} {xa : Option Addr} {xc : Nat} {o : Obj} (e : r = (a, s)) (q : s.ok = true -> t = a) (S : RX b G tk E w s W) (B : Blk W w.heap.size T l) (K : ExKidsB (fun q => w.heap.size < q) t (W.alloc o) (.slice xa t.cnt xc)) (hl : l.length = 6 := by rfl) (h : fn.results = #[.cell tm 59] := by rfl) (ht : ac.tmps.getD tm undef = .pointer (some ⟨w.heap.size, 0, none⟩) := by rfl) (hd : ac.defers = [] := by rfl) :
  bodyPost prog fn (RRes b G tk E r w) .ret ac (((((((W.setCell ⟨w.heap.size, 0, none⟩ (.int .i64 t.op)).setCell ⟨w.heap.size, 1, none⟩ (.int .i64 t.va)).setCell ⟨w.heap.size, 2, none⟩ (.int .i64 t.vb)).setCell ⟨w.heap.size, 3, none⟩ (.int .i64 t.dm)).setCell ⟨w.heap.size, 4, none⟩ (.string t.nm)).setCell ⟨w.heap.size, 5, none⟩ (.slice xa t.cnt xc)).alloc o) := by
 have hlt := B.lt;have := r_ret (fn := fn) (ac := ac) e q (S.al o) (B.alloc o) K hl h ht hd
 repeat rw [World.setCell_alloc_past _ _ _ _ (by simpa using hlt)] at this
 exact this
end
theorem expP_ok {tk : List Tk} {x : List UInt8} {s : Pt} (h : (expP tk x s).ok = true) : s.ok = true := by
 unfold expP at h; split at h
 ·exact h
 ·cases h
set_option maxRecDepth 20000 in
theorem rexpr_bad (b G : Nat) (tk : List Tk) (E : Int) (s : Pt) (n : Int) (w : World) (h : Rdr w b G tk E s) (ho : s.ok = false) (a : Ex) : Calls prog 123 #[.pointer (some ⟨b, 0, none⟩), .int .i64 n] w (RRes b G tk E (a, s) w) := by
 have S := RX.of h;have c3 := h.c3;have hlt := h.lt;rw [ho] at c3;clear h;go_enter func123, ntmps123;refine gw ?_;exact bodyPost_ret (res6 rfl rfl (Blk.new w _ _)) rfl ⟨zeroT, _, rfl, zeroT_kids _ _, fun h => (by rw [ho] at h; cases h), (S.al _).P, (S.al _).R⟩
theorem RC.of {b G m f : Nat} {tk : List Tk} {E : Int} (hm : md m) (h : ∀ w s, s.ok = true -> RX b G tk E w s w -> w.cell? ⟨b, 3, none⟩ = some (.bool false) -> b < w.heap.size -> 10 * rem tk s + cc m <= f -> Calls prog 123 #[.pointer (some ⟨b, 0, none⟩), .int .i64 (m : Int)] w (RRes b G tk E (pe tk f m .no s) w)) : RC b G tk E m f := by
 intro w s hP hf;by_cases ho : s.ok = true
 ·have c3 := hP.c3;rw [ho] at c3;exact h w s ho (.of hP) c3 hP.lt hf
 ·have := rexpr_bad b G tk E s m w hP (by simpa using ho) (pe tk f m .no s).1
  rwa [show ((pe tk f m .no s).1, s) = pe tk f m .no s from Prod.ext rfl (pe_bad tk (by simpa using ho) f m .no hm).symm] at this
set_option maxRecDepth 20000 in
theorem rexpr3_step (b G : Nat) (tk : List Tk) (E : Int) (hT : TksOk tk) (hH : TkHd tk) (f : Nat) (H : ∀ g, g <= f -> ∀ m, m <= 7 -> RC b G tk E m g) : RC b G tk E 3 (f + 1) := by
 refine .of (by unfold md; decide) fun w s ho S c3 hb hf => ?_
 have hf : 10 * rem tk s + 5 <= f + 1 := hf;have HH := Hj H;obtain ⟨RES, hR⟩ : ∃ r, pe tk (f + 1) 3 .no s = r := ⟨_, rfl⟩;rw [hR];rw [pe_3] at hR;obtain ⟨q, hq⟩ : ∃ q, accB tk kNot s = q := ⟨_, rfl⟩;rw [hq] at hR;cases q
 all_goals
  go_enter func123, ntmps123;go_wp2_with fail;refine al_c fun X BX RX hX => ?_
  have S := S.rel RX;have zX := BX.lt
 ·refine (x_tn hT hH S.re _ hq).mono ?_;rintro e w1 ⟨rfl, N⟩;have z1 := N.R.size;go_wp2_with fail;refine (RC.at 4 4 (HH.out f (Nat.le_refl _)) (S.st N.P N.R)).mono ?_;rintro e w2 ⟨t, a, xa, xc, s2, p2, rfl, K2, q2, S2, r2, -⟩;have B := (BX.ro N.R (by omega)).ro r2 (by omega);have k1 := B.cs;have f1 := B.f;have l1 := B.lt;refine gw ?_;exact r_ret (hR.symm.trans p2) (fun h => (q2 h).2) S2 B (kids_up K2)
 ·refine (x_ty hT hH S.re _ hq).mono ?_;rintro e w1 ⟨rfl, N⟩;have z1 := N.R.size;have hrem := (acc_beh hq).2;go_wp2_with fail;refine (RC.at 3 5 (HH.out f (Nat.le_refl _)) (S.st N.P N.R)).mono ?_;rintro e w2 ⟨t, a, xa, xc, s2, p2, rfl, K2, q2, S2, r2, -⟩;have B := (BX.ro N.R (by omega)).ro r2 (by omega);have z2 := r2.size;rw [p2, if_pos (by trivial)] at hR;(try dsimp only at hR);have k1 := B.cs;have f1 := B.f;have l1 := B.lt;refine gw ?_;exact r_retA (t := trU 5 t) hR.symm (fun h => by rw [(q2 h).2]) S2 B (one_tree (op := 5) rfl (by omega) ⟨by decide, by decide⟩ (kids_up K2))
set_option maxRecDepth 20000 in
theorem rexpr0_step (b G : Nat) (tk : List Tk) (E : Int) (hT : TksOk tk) (hH : TkHd tk) (f : Nat) (H : ∀ g, g <= f -> ∀ m, m <= 7 -> RC b G tk E m g) : RC b G tk E 0 (f + 1) := by
 refine .of (by unfold md; decide) fun w s ho S c3 hb hf => ?_
 have hf : 10 * rem tk s + 8 <= f + 1 := hf;have HH := Hj H;obtain ⟨RES, hR⟩ : ∃ r, pe tk (f + 1) 0 .no s = r := ⟨_, rfl⟩;rw [hR];rw [pe_0] at hR;obtain ⟨q, hq⟩ : ∃ q, accB tk kIf s = q := ⟨_, rfl⟩;rw [hq] at hR;cases q
 all_goals
  go_enter func123, ntmps123;go_wp2_with fail;refine al_c fun X BX RX hX => ?_
  have S := S.rel RX;have zX := BX.lt
 ·refine (x_tn hT hH S.re _ hq).mono ?_;rintro e w1 ⟨rfl, N⟩;have z1 := N.R.size;go_wp2_with fail;refine (RC.at 1 7 (HH.out f (Nat.le_refl _)) (S.st N.P N.R)).mono ?_;rintro e w2 ⟨t, a, xa, xc, s2, p2, rfl, K2, q2, S2, r2, -⟩;have B := (BX.ro N.R (by omega)).ro r2 (by omega);have k1 := B.cs;have f1 := B.f;have l1 := B.lt;refine gw ?_;exact r_ret (hR.symm.trans p2) (fun h => (q2 h).2) S2 B (kids_up K2)
 ·refine (x_ty hT hH S.re _ hq).mono ?_;rintro e w1 ⟨rfl, N⟩;have z1 := N.R.size;have hrem := (acc_beh hq).2;rw [if_pos (by trivial)] at hR;go_wp2_with fail;refine (RC.at 0 8 (HH.out f (Nat.le_refl _)) (S.st N.P N.R)).mono ?_;rintro e w2 ⟨t2, a2, xa2, xc2, s2, p2, rfl, K2, q2, S2, r2, b2⟩;have z2 := r2.size;rw [p2] at hR;(try dsimp only at hR);have L := LV.mk0 hb ((BX.ro N.R (by omega)).ro r2 (by omega)) (kids_up K2);clear N;go_wp2_with fail;refine (x_want hT hH (x := kThen) (S2.al _).re _).mono ?_;rintro e w3 ⟨⟨v3, rfl⟩, N⟩;have L := L.ro N.R;have b3 := (exp_beh tk kThen s2).rem;have z3 := L.E.lt;go_wp2_with fail;refine (RC.at 0 8 (HH.out f (Nat.le_refl _)) ((S2.al _).st N.P N.R)).mono ?_;rintro e w4 ⟨t4, a4, xa4, xc4, s4, p4, rfl, K4, q4, S4, r4, b4⟩;have z4 := r4.size;rw [p4] at hR;(try dsimp only at hR);have L := L.ro r4;have M := LV.mk0 hb L.B (kids_up K4);have L := L.al (.cells #[.int .i64 t4.op, .int .i64 t4.va, .int .i64 t4.vb, .int .i64 t4.dm, .string t4.nm, .slice xa4 t4.cnt xc4] 59);clear N;go_wp2_with fail;refine (x_want hT hH (x := kElse) (S4.al _).re _).mono ?_;rintro e w5 ⟨⟨v5, rfl⟩, N⟩;have L := L.ro N.R;have M := M.ro N.R;have b5 := (exp_beh tk kElse s4).rem;have z5 := M.E.lt;go_wp2_with fail;refine (RC.at 0 8 (HH.out f (Nat.le_refl _)) ((S4.al _).st N.P N.R)).mono ?_;rintro e w6 ⟨t6, a6, xa6, xc6, s6, p6, rfl, K6, q6, S6, r6, b6⟩;rw [p6] at hR;have z6 := r6.size;have L := L.ro r6;have M := M.ro r6;have U := LV.mk0 hb L.B (kids_up K6);have L := L.al (.cells #[.int .i64 t6.op, .int .i64 t6.va, .int .i64 t6.vb, .int .i64 t6.dm, .string t6.nm, .slice xa6 t6.cnt xc6] 59);have M := M.al (.cells #[.int .i64 t6.op, .int .i64 t6.va, .int .i64 t6.vb, .int .i64 t6.dm, .string t6.nm, .slice xa6 t6.cnt xc6] 59);have S7 := S6.al (.cells #[.int .i64 t6.op, .int .i64 t6.va, .int .i64 t6.vb, .int .i64 t6.dm, .string t6.nm, .slice xa6 t6.cnt xc6] 59);obtain ⟨Z, hZ⟩ : ∃ Z, w6.alloc (.cells #[.int .i64 t6.op, .int .i64 t6.va, .int .i64 t6.vb, .int .i64 t6.dm, .string t6.nm, .slice xa6 t6.cnt xc6] 59) = Z := ⟨_, rfl⟩;rw [hZ] at L M U S7;have zz := L.B.lt;have k2 := L.E.cs;have l2 := L.E.lt;have k3 := M.E.cs;have l3 := M.E.lt;have k4 := U.E.cs;have l4 := U.E.lt;have k1 := L.B.cs;have f1 := L.B.f;have l1 := L.B.lt;clear N;refine gw ?_
  exact r_retA (t := trI t2 t4 t6) hR.symm (fun h => by
   obtain ⟨h6, rfl⟩ := q6 h;obtain ⟨h4, rfl⟩ := q4 (expP_ok h6);obtain ⟨-, rfl⟩ := q2 (expP_ok h4)
   rfl) S7 L.B (three_tree rfl (by omega) L.kk M.kk U.kk)
set_option maxRecDepth 20000 in
theorem rexpr7_step (b G : Nat) (tk : List Tk) (E : Int) (f : Nat) (HF : RF b G tk E (f + 1)) : RC b G tk E 7 (f + 1) := by
 refine .of (by unfold md; decide) fun w s ho S c3 hb hf => ?_
 have HH := Hj HF;go_enter func123, ntmps123;go_wp2_with fail;refine al_c fun X BX RX hX => ?_
 have S := S.rel RX;refine (S.at (HH.out X s S.P ho hf) (pe_beh tk (f + 1) 7 .no s (by unfold md; decide))).mono ?_;rintro e w2 ⟨t, a, xa, xc, s2, p2, rfl, K2, q2, S2, r2, -⟩;have B := BX.ro r2 (by omega);have k1 := B.cs;have f1 := B.f;have l1 := B.lt;refine gw ?_;exact r_ret p2 (fun h => (q2 h).2) S2 B (kids_up K2)
noncomputable def pz (tk : List Tk) (n f : Nat) (a : Ex) (s : Pt) : Ex × Pt := if binO tk s (opLn (n : Int)) = true then (if n = 4 then (trB (binT tk s (opLn (n : Int))) a (pe tk f (n + 1) .no s.adv).1, (pe tk f (n + 1) .no s.adv).2) else pe tk f (10 + n) (trB (binT tk s (opLn (n : Int))) a (pe tk f (n + 1) .no s.adv).1) (pe tk f (n + 1) .no s.adv).2) else (a, s)
theorem pz_lp {tk : List Tk} {n f : Nat} {a : Ex} {s : Pt} (hn : n = 1 \/ n = 2 \/ n = 5 \/ n = 6) : pe tk (f + 1) (10 + n) a s = pz tk n f a s := by
 rw [pe_lp tk f n hn]; unfold pz; rw [if_neg (by omega : ¬ n = 4)]
theorem pz_at {tk : List Tk} {n f : Nat} {s s1 : Pt} {a : Ex} (hn : n = 1 \/ n = 2 \/ n = 4 \/ n = 5 \/ n = 6) (h : pe tk (f + 1) (n + 1) .no s = (a, s1)) : ∃ g, g <= f + 1 /\ f <= g /\ pe tk (f + 1 + 1) n .no s = pz tk n g a s1 := by
 by_cases h4 : n = 4
 ·subst h4;refine ⟨f + 1, Nat.le_refl _, Nat.le_succ _, ?_⟩;rw [pe_4]; unfold pz;rw [show pe tk (f + 1) 5 .no s = (a, s1) from h];rfl
 ·have hn : n = 1 \/ n = 2 \/ n = 5 \/ n = 6 := by omega
  exact ⟨f, Nat.le_succ _, Nat.le_refl _, by rw [pe_nn tk _ n hn, h, pz_lp hn]⟩
set_option maxRecDepth 20000 in
theorem rexprC_step (b G : Nat) (tk : List Tk) (E : Int) (hT : TksOk tk) (hH : TkHd tk) (f : Nat) (H : ∀ g, g <= f -> ∀ m, m <= 7 -> RC b G tk E m g) (n : Nat) (hn : n = 1 \/ n = 2 \/ n = 4 \/ n = 5 \/ n = 6) : RC b G tk E n (f + 1) := by
 refine .of (by unfold md; omega) fun w s ho S c3 hb hf => ?_
 have HH := Hj H
 obtain ⟨c, hc, hf, hc1⟩ : ∃ c, cc (n + 1) = c /\ 10 * rem tk s + c <= f /\ 1 <= c /\ c <= 8 := by
  have : cc (n + 1) + 1 = cc n /\ 1 <= cc (n + 1) /\ cc (n + 1) <= 8 := by rcases hn with rfl | rfl | rfl | rfl | rfl <;> decide
  exact ⟨_, rfl, by omega, this.2⟩
 obtain ⟨nI, hnI⟩ : ∃ z : Int, (n : Int) = z := ⟨_, rfl⟩;have e0 : (nI == 0) = false := by rw [zn]; omega
 have e3 : (nI == 3) = false := by rw [zn]; omega
 have e7 : (nI == 7) = false := by rw [zn]; omega
 have wn : IntKind.i64.wrap (nI + 1) = ((n + 1 : Nat) : Int) := by rw [IntWalk.i64_in _ ⟨by omega, by omega⟩]; omega
 obtain ⟨mI, hmI⟩ : ∃ z : Int, ((n + 1 : Nat) : Int) = z := ⟨_, rfl⟩;rw [hmI] at wn;obtain ⟨RES, hR⟩ : ∃ r, pe tk (f + 1) n .no s = r := ⟨_, rfl⟩;rw [hR, hnI];have hle := hT.len;go_enter func123, ntmps123;go_wp2_with fail;refine al_c fun X BX RX hX => ?_
 have S := S.rel RX;refine (RC.at (n + 1) c (HH.out f (Nat.le_refl _)) S hf hmI.symm (by omega) hc).mono ?_;rintro e w1 ⟨t1, a1, xa1, xc1, s1, p1, rfl, K1, q1, S1, r1, b1⟩;obtain ⟨f', rfl⟩ : ∃ g, f = g + 1 := ⟨f - 1, by omega⟩;obtain ⟨f1, g1, g2, hz⟩ := pz_at hn p1;have HR := Hj (hz.symm.trans hR);have HQ1 := Hj (fun h => (q1 h).2);have L1 := LV.mk0 hb (BX.ro r1 (by omega)) (kids_up K1);clear hR hz q1 p1 c3 RX hX;go_wp2_with fail
 go_loopg [] (f' + 1) (fun g wx => ∃ (t a : Ex) (xa : Option Addr) (xc : Nat) (s' : Pt) (f0 : Nat), f0 <= f' + 1 /\ 10 * rem tk s' <= f0 /\ 10 * rem tk s' + 1 <= g /\ Hid (pz tk n f0 a s' = RES) /\ Hid (Pt.ok s' = true -> t = a) /\ LV b w w1.heap.size t xa xc wx /\ RX b G tk E w s' wx)
 case atStart => exact ⟨t1, a1, xa1, xc1, s1, f1, g1, by omega, by omega, HR, HQ1, L1, S1.al _⟩
 case round =>
  obtain ⟨t, a, xa, xc, s', f0, hf0, hf1, hgr, hF, hQ, L, S2⟩ := hrel;have hl := L.lt;have b3 := S2.P.c3;have lb := S2.P.lt;obtain ⟨kk, hkk⟩ : ∃ k, s'.ok = k := ⟨_, rfl⟩;rw [hkk] at b3;have hF := hF.out;unfold pz at hF;obtain ⟨k, hk⟩ : ∃ k, binO tk s' (opLn (n : Int)) = k := ⟨_, rfl⟩;rw [hk] at hF;cases kk
  ·rw [(bin_bad hkk _).1] at hk;subst hk;rw [if_neg (by decide)] at hF;have k2 := L.E.cs;have l2 := L.E.lt;have k1 := L.B.cs;have f1 := L.B.f;have l1 := L.B.lt;refine gw ?_;exact r_ret hF.symm hQ.out S2 L.B L.kk
  ·cases gk with
   | zero => omega
   | succ g =>
   rw [hnI] at hk hF;go_wp2_with fail;refine (rbin_any b G tk E nI s' wr S2.P hT hH).mono ?_;rintro e w2 ⟨rfl, r2⟩;have L := L.rel r2;have S3 := S2.rel r2;have d3 := r2.cell b3;cases k
   ·rw [if_neg (by decide)] at hF;have hop := opLn_zero hk;rw [hop];have k2 := L.E.cs;have l2 := L.E.lt;have k1 := L.B.cs;have f1 := L.B.f;have l1 := L.B.lt;refine gw ?_;exact r_ret hF.symm hQ.out S3 L.B L.kk
   ·obtain ⟨op7, op18⟩ := opLn_pos hk;obtain ⟨tt, htt, hi⟩ := bin_some hk;have hrem := (bin_beh hk).2;rw [if_pos (by trivial)] at hF;generalize binT tk s' (opLn nI) = op at *;have eop : (op == 0) = false := by rw [zn]; omega
    have wi : IntKind.i64.wrap ((s'.i : Int) + 1) = (s'.i : Int) + 1 := IntWalk.i64_in _ ⟨by omega, by omega⟩;have u1 := S3.P.c1;have uf := S3.P.f1;have ul := S3.P.lt;have L := L.ro ((Ro.refl b w2).set 1 (.int .i64 ((s'.i : Int) + 1)));have S4 := S3.adv hi;obtain ⟨Y, hY⟩ : ∃ Y, w2.setCell ⟨b, 1, none⟩ (.int .i64 ((s'.i : Int) + 1)) = Y := ⟨_, rfl⟩;rw [hY] at S4 L;go_wp2_with fail;(try rw [hY]);clear hY u1 uf d3 b3;refine wrb [0, 1, 2, 3, 4] 4 8 L.E (fun w3 h3 => ?_);refine ao 5 (fun w4 h4 K' hK' => ?_);have L := L.rel (h3.trans h4);go_simp;refine (RC.at (n + 1) c (HH.out f0 hf0) (S4.rel (h3.trans h4)) (by omega) hmI.symm (by omega) hc).mono ?_;rintro e w5 ⟨t5, a5, xa5, xc5, s5, p5, rfl, K5, q5, S5, r5, b5⟩;rw [p5] at hF;dsimp only at hF;have l4 := L.E.lt;have L := L.ro r5;have K5 := kidsB_mono (Q := fun q => w.heap.size < q /\ q ≠ w1.heap.size) K5 (fun q _ hq => by omega);refine hK'.out _ _ (fun _ => L.E) ?_;clear hK' K';refine ao 6 (fun w6 h6 K' hK' => ?_);have L := L.rel h6;have l6 := L.E.lt;have TR := pair_tree (op := op) (T := 59) rfl (P := fun q => w.heap.size < q /\ q ≠ w1.heap.size) ⟨by omega, by omega⟩ ⟨by omega, by omega⟩ L.K (kidsB_rl K5 h6);go_simp;refine hK'.out _ _ (fun _ => (L.al _).E) ?_;clear hK' K';refine ao 7 (fun w7 h7 K' hK' => ?_);go_simp;refine hK'.out _ _ (fun _ => ((L.al _).rel h7).E) ?_;clear hK' K';refine ao 8 (fun w8 h8 K' hK' => ?_);have L := (L.al _).rel (h7.trans h8);have S8 := ((S5.rel h6).al _).rel (h7.trans h8);have TR := kidsB_rl TR (h7.trans h8);have k1 := L.E.cs;have f1 := L.E.f;have l1 := L.E.lt;go_simp;refine hK'.out _ _ mkd ?_;clear hK' K';refine ae (fun w9 h9 => ?_);(try simp only [Act.put, zla, zlb, zlc]);have L := (L.six TR).rel h9;have S9 := (S8.p6 (by omega) 0).rel h9;have Q5 : s5.ok = true -> trB op t t5 = trB op a a5 := fun h => by rw [hQ.out hkk, (q5 h).2]
    clear k1 f1 l1;by_cases h4 : n = 4
    ·have e4 : nI = 4 := by omega
     subst e4;rw [if_pos h4] at hF;have k2 := L.E.cs;have l2 := L.E.lt;have k1 := L.B.cs;have f1 := L.B.f;have l1 := L.B.lt;refine gw ?_;exact r_ret hF.symm Q5 S9 L.B L.kk
    ·rw [if_neg h4] at hF;have hn : n = 1 \/ n = 2 \/ n = 5 \/ n = 6 := by omega
     have e4 : (nI == 4) = false := by rw [zn]; omega
     obtain ⟨f2, rfl⟩ : ∃ g, f0 = g + 1 := ⟨f0 - 1, by omega⟩;rw [pz_lp hn] at hF;go_wp2
     go_roundg g
     case rel => exact ⟨_, _, _, _, s5, f2, by omega, by omega, by omega, Hj hF, Hj Q5, L, S9⟩
     case measure => omega
theorem al2_c {w : World} {f : FuncId} {ar : Array Value} {Q : Ending -> World -> Prop} {c d : Array Value} {T U : TypeId} (h : ∀ X, Blk X w.heap.size T c.toList -> Blk X (w.heap.size + 1) U d.toList -> Rel w X -> X.heap.size = w.heap.size + 2 -> Calls prog f ar X Q) : Calls prog f ar ((w.alloc (.cells c T)).alloc (.cells d U)) Q :=
 h _ ((Blk.new w T c).alloc _) (by have := Blk.new (w.alloc (.cells c T)) U d; rwa [World.size_alloc] at this) (((Rel.refl w).alloc _).alloc _) (by simp)
theorem accB_two {tk : List Tk} {s : Pt} (h : pkK tk s = 2) (x : List UInt8) : accB tk x s = false := by rw [accB_pk, h]; rfl
theorem mm_two {tk : List Tk} {s : Pt} {a b : Bool} (h1 : accB tk [109, 105, 110] s = a) (h2 : accB tk [109, 97, 120] s = b) : binO tk s mmL = (a || b) /\ binT tk s mmL = (if a = true then 19 else if b = true then 20 else 0) := by
 unfold mmL;simp only [binO, binT, h1, h2]
 cases a <;> cases b <;> simp
theorem x_is {b G : Nat} {tk : List Tk} {E : Int} {w0 w : World} {s : Pt} (hT : TksOk tk) (hH : TkHd tk) (h : RX b G tk E w0 s w) (X : ByteArray) {x : List UInt8} {q : Bool} (ha : accB tk x s = q) (hX : X.data.toList = x := by rfl) (hx : xokB X.data.toList = true := by kernel_rfl) : Calls prog 81 #[.pointer (some ⟨b, 0, none⟩), .string X] w fun e w' => e = .returned (.bool q) /\ Rel w w' := by
 subst hX ha;exact ris_any b G tk E s X w h.P (txOk_of hH hT hx)
set_option maxRecDepth 20000 in
theorem rcall (b G : Nat) (tk : List Tk) (E : Int) (hT : TksOk tk) (hH : TkHd tk) (f : Nat) (H : Hid (∀ g, g <= f -> ∀ m, m <= 7 -> RC b G tk E m g)) (w : World) (s : Pt) (op : Int) (RES : Ex × Pt) (hP : Rdr w b G tk E s) (hop : op = 6 \/ op = 19 \/ op = 20) (hrem : rem tk s.adv + 1 <= rem tk s) (hf : 10 * rem tk s + 1 <= f + 1)
  (hR : (if op = 6 then (trU op (pe tk f 0 .no (expP tk kOpen s.adv)).1, expP tk kShut (pe tk f 0 .no (expP tk kOpen s.adv)).2) else (trB op (pe tk f 0 .no (expP tk kOpen s.adv)).1 (pe tk f 0 .no (expP tk kComma (pe tk f 0 .no (expP tk kOpen s.adv)).2)).1, expP tk kShut (pe tk f 0 .no (expP tk kComma (pe tk f 0 .no (expP tk kOpen s.adv)).2)).2)) = RES) :
  Calls prog 182 #[.pointer (some ⟨b, 0, none⟩), .int .i64 op] w (RRes b G tk E RES w) := by
 have S := RX.of hP;have hb := hP.lt;have hle := hT.len
 have hi : s.i < tk.length := by
  have h := hrem;unfold Tree.rem at h
  split at h <;> split at h <;> omega
 have wi : IntKind.i64.wrap ((s.i : Int) + 1) = (s.i : Int) + 1 := IntWalk.i64_in _ ⟨by omega, by omega⟩;have u1 := hP.c1;have uf := hP.f1;have e1 := (exp_beh tk kOpen s.adv).rem;have S1 := (S.al (.cells #[.int .i64 0, .int .i64 0, .int .i64 0, .int .i64 0, .string ⟨#[]⟩, .slice none 0 0] 59)).adv hi;have B1 := (Blk.new w 59 #[.int .i64 0, .int .i64 0, .int .i64 0, .int .i64 0, .string ⟨#[]⟩, .slice none 0 0]).ro ((Ro.refl b _).set 1 (.int .i64 ((s.i : Int) + 1))) (by omega);obtain ⟨X, hX⟩ : ∃ X, (w.alloc (.cells #[.int .i64 0, .int .i64 0, .int .i64 0, .int .i64 0, .string ⟨#[]⟩, .slice none 0 0] 59)).setCell ⟨b, 1, none⟩ (.int .i64 ((s.i : Int) + 1)) = X := ⟨_, rfl⟩;rw [hX] at S1 B1;clear hP;go_enter func182, ntmps182;go_wp2_with fail;(try rw [hX]);clear hX u1 uf;refine (x_want hT hH (x := kOpen) S1.re _).mono ?_;rintro e w2 ⟨⟨v2, rfl⟩, N⟩;have B2 := B1.ro N.R (by omega);have zB := B2.lt;go_wp2_with fail;refine (RC.at 0 8 (H.out f (Nat.le_refl _)) (S1.st N.P N.R)).mono ?_;rintro e w3 ⟨t3, a3, xa3, xc3, s3, p3, rfl, K3, q3, S3, r3, b3⟩;rw [p3] at hR;(try dsimp only at hR);have B3 := B2.ro r3 (by omega);have zB := B3.lt;have hb3 := S3.P.lt;have hop2 : 0 <= op /\ op <= 100 := by omega
 clear S S1 B1 N B2;go_wp2_with fail;refine al2_c fun X BX BY RX hX => ?_
 have L : LV b w (w3.heap.size + 1) (trU op t3) (some ⟨w3.heap.size, 0, none⟩) 1 X := ⟨hb, B3.rel RX, BY, one_at BX ⟨by omega, by omega⟩ hop2 (kidsB_rl (kidsB_mono K3 fun q hq hp => ⟨by omega, by omega⟩) RX), by omega⟩;have K3 := kidsB_rl (kidsB_mono (Q := fun q => w.heap.size < q /\ q ≠ w3.heap.size + 1) K3 fun q hq hp => ⟨by omega, by omega⟩) RX;have S4 := S3.rel RX;clear S3 RX BY B3;refine (Args_any op X).mono ?_;rintro e w9 ⟨rfl, rfl⟩;by_cases h6 : op = 6
 ·subst h6;rw [if_pos (by trivial)] at hR;rw [show arI 6 = 1 from rfl];go_wp2_with fail;refine (x_want hT hH (x := kShut) S4.re _).mono ?_;rintro e w5 ⟨⟨v5, rfl⟩, N⟩;have L := L.ro N.R;have S5 := S4.st N.P N.R;have k2 := L.E.cs;have l2 := L.E.lt;have k1 := L.B.cs;have f1 := L.B.f;have l1 := L.B.lt;clear N BX S4;refine gw ?_;exact r_ret hR.symm (fun h => by rw [(q3 (expP_ok h)).2]) S5 L.B L.kk
 ·rw [show arI op = 2 by rcases hop with rfl | rfl | rfl; exact absurd rfl h6; rfl; rfl];rw [if_neg h6] at hR;go_wp2_with fail;refine (x_want hT hH (x := kComma) S4.re _).mono ?_;rintro e w5 ⟨⟨v5, rfl⟩, N⟩;have L := L.ro N.R;have BX := BX.ro N.R (by omega);have K3 := kidsB_ro K3 N.R (fun q hq => by omega);have S5 := S4.st N.P N.R;have b5 := (exp_beh tk kComma s3).rem;clear N S4;go_wp2_with fail;refine wrb2 [0, 1, 2, 3, 4] 4 8 ⟨L.E, BX⟩ (fun w6 h6 => ?_);refine ao 5 (fun w7 h7 K' hK' => ?_);have L := L.rel (h6.trans h7);have BX := BX.rel (h6.trans h7);have K3 := kidsB_rl K3 (h6.trans h7);have lL := L.E.lt;go_simp;refine (RC.at 0 8 (H.out f (Nat.le_refl _)) (S5.rel (h6.trans h7))).mono ?_;rintro e w8 ⟨t8, a8, xa8, xc8, s8, p8, rfl, K8, q8, S8, r8, b8⟩;rw [p8] at hR;have L := L.ro r8;have BX := BX.ro r8 (by omega);have K3 := kidsB_ro K3 r8 (fun q hq => by omega);have K8 := kidsB_mono (Q := fun q => w.heap.size < q /\ q ≠ w3.heap.size + 1) K8 (fun q _ hq => by omega);refine hK'.out _ _ (fun _ => ⟨L.E, BX⟩) ?_;clear hK' K';refine ao 6 (fun w9 h9 K' hK' => ?_);have L := L.rel h9;have BX := BX.rel h9;have lL := L.E.lt;have TR := pair_tree (op := op) (T := 59) rfl (P := fun q => w.heap.size < q /\ q ≠ w3.heap.size + 1) ⟨by omega, by omega⟩ hop2 (kidsB_rl K3 h9) (kidsB_rl K8 h9);go_simp;refine hK'.out _ _ (fun _ => ⟨(L.al _).E, BX.alloc _⟩) ?_;clear hK' K';refine ao 7 (fun wa ha K' hK' => ?_);go_simp;refine hK'.out _ _ (fun _ => ⟨((L.al _).rel ha).E, (BX.alloc _).rel ha⟩) ?_;clear hK' K';refine ao 8 (fun wb hb' K' hK' => ?_);have L := (L.al _).rel (ha.trans hb');have S9 := ((S8.rel h9).al _).rel (ha.trans hb');have TR := kidsB_rl TR (ha.trans hb');have k1 := L.E.cs;have f1 := L.E.f;have l1 := L.E.lt;go_simp;refine hK'.out _ _ mkd ?_;clear hK' K';refine ae (fun wc hc => ?_);(try simp only [Act.put, zla, zlb, zlc]);have lt := L.lt;have L : LV b w (w3.heap.size + 1) (trB op t3 t8) (some ⟨w9.heap.size, 0, none⟩) 2 wc := LV.rel ⟨hb, L.B.other (by omega) 5 _, L.E.set 5 _, kidsB_ro TR ((Ro.refl _ _).set 5 _) (fun q hq => hq.2), L.lt⟩ hc;have S9 := (S9.put (by omega) 5 _).rel hc;clear k1 f1 l1 TR;go_wp2_with fail;refine (x_want hT hH (x := kShut) S9.re _).mono ?_;rintro e wd ⟨⟨vd, rfl⟩, N⟩;have L := L.ro N.R;have Sd := S9.st N.P N.R;have k2 := L.E.cs;have l2 := L.E.lt;have k1 := L.B.cs;have f1 := L.B.f;have l1 := L.B.lt;clear N S9;refine gw ?_
  exact r_ret hR.symm (fun h => by
   obtain ⟨h8, rfl⟩ := q8 (expP_ok h);obtain ⟨-, rfl⟩ := q3 (expP_ok h8)
   rfl) Sd L.B L.kk
set_option maxRecDepth 20000 in
theorem rfactor_step (b G : Nat) (tk : List Tk) (E : Int) (hT : TksOk tk) (hH : TkHd tk) (f : Nat) (H : ∀ g, g <= f -> ∀ m, m <= 7 -> RC b G tk E m g) : RF b G tk E (f + 1) := by
 intro w s hP hok hf;have S := RX.of hP;have hb := hP.lt;have HH := Hj H;have hle := hT.len;clear hP H;obtain ⟨RES, hR⟩ : ∃ r, pe tk (f + 1) 7 .no s = r := ⟨_, rfl⟩;rw [hR];rw [pe_7] at hR;go_enter func159, ntmps159;go_wp2_with fail;refine al_c fun X B RX hX => ?_
 replace S := S.rel RX;refine (rkind_any b G tk E s 2 _ S.P (by decide)).mono ?_;rintro e w1 ⟨rfl, r⟩;replace S := S.rel r;replace B := B.rel r;clear RX hX r;by_cases hK : pkK tk s = 2
 ·have ek : (pkK tk s == 2) = true := by rw [beq_iff_eq]; exact hK
  rw [ek];have hA := accB_two hK;rw [if_neg (by simp [hA]), if_neg (by simp [hA]), if_neg (by simp [hA]), if_neg (by simp [hA]), if_neg (by simp [(mm_two (hA _) (hA _)).1]), if_pos hK] at hR;obtain ⟨-, hi⟩ := pkK_some (tk := tk) (s := s) (by omega);obtain ⟨tt, cap, htt, c0, q0, q1, q2⟩ := rdr_at S.P hi;have c1 := S.P.c1;obtain ⟨eK, eT⟩ := pk_tok hok htt;have hz := (hT.each tt (List.mem_of_getElem? htt)).1;have hdB : decB tt.T = true := (hT.each tt (List.mem_of_getElem? htt)).2.2.2.2 (by rw [<- eK]; exact hK);rw [eT] at hR;clear eK eT htt hA ek;generalize tt.T = TX at *;have C5 := Hj fun w => rDecimal_any TX w (by unfold maxLen; omega)
  unfold DecRes at C5;rw [hdB] at C5;obtain ⟨⟨n0, n1⟩, d0, d1⟩ := dec_bd TX;obtain ⟨x0, x1⟩ := decX_bd TX;generalize decN TX = N at *;generalize decD TX = DD at *;generalize decX TX = XX at *;have ii : (s.i : Int) < (tk.length : Int) := by omega
  have wi : IntKind.i64.wrap ((s.i : Int) + 1) = (s.i : Int) + 1 := IntWalk.i64_in _ ⟨by omega, by omega⟩;go_wp2_with fail;refine wrs 16 (fun g W hg BG r => ?_);clear C5 c0 c1 q0 q1 q2;have zB := B.lt;have B := B.rel r;have S := S.rel r;have hbw := S.hb;have zW := S.P.lt;have u1 := S.P.c1;have uf := S.P.f1;have S' := S.adv hi;have rb : Ro b W _ := (Ro.refl b W).set 1 (.int .i64 ((s.i : Int) + 1));have B := B.ro rb (by omega);have BG := BG.ro rb (by have := S.P.lt; have hg := hg; have := S.R.size; omega);obtain ⟨Y, hY⟩ : ∃ Y, W.setCell ⟨b, 1, none⟩ (.int .i64 ((s.i : Int) + 1)) = Y := ⟨_, rfl⟩;rw [hY] at S' B BG;have k2 := BG.cs;have l2 := BG.lt;clear rb;have k1 := B.cs;have f1 := B.f;have l1 := B.lt;refine gw ?_;exact r_ret (t := trL N DD XX) hR.symm (fun _ => rfl) S' B (leaf_tree ⟨by decide, by decide, by omega, by omega, by omega, by omega, by omega, by omega, by decide⟩)
 have ek : (pkK tk s == 2) = false := by rw [zn]; exact hK
 rw [ek];clear ek;go_wp2_with fail;obtain ⟨q, hq⟩ : ∃ q, accB tk kNeg s = q := ⟨_, rfl⟩;rw [hq] at hR;cases q
 rotate_left
 ·have hrem := (acc_beh hq).2;rw [if_pos (by trivial)] at hR;refine (x_ty hT hH S.re _ hq).mono ?_;rintro e w1 ⟨rfl, N⟩;have S := S.st N.P N.R;have B := B.ro N.R (by omega);have zB := B.lt;clear N;go_wp2_with fail;refine (RC.at 7 1 (HH.out f (Nat.le_refl _)) S).mono ?_;rintro e w2 ⟨t, a, xa, xc, s2, p2, rfl, K, q2, S, r, -⟩;rw [p2] at hR;have B := B.ro r (by omega);have zC := B.lt;have k1 := B.cs;have f1 := B.f;have l1 := B.lt;refine gw ?_;exact r_retA (t := trU 4 t) hR.symm (fun h => by rw [(q2 h).2]) S B (one_tree (op := 4) rfl (by omega) ⟨by decide, by decide⟩ (kids_up K))
 refine (x_tn hT hH S.re _ hq).mono ?_;rintro e w1 ⟨rfl, N⟩;replace S := S.st N.P N.R;replace B := B.ro N.R (by omega);rw [if_neg (by decide)] at hR;clear N hq;go_wp2_with fail;obtain ⟨q, hq⟩ : ∃ q, accB tk kOpen s = q := ⟨_, rfl⟩;rw [hq] at hR;cases q
 rotate_left
 ·have hrem := (acc_beh hq).2;rw [if_pos (by trivial)] at hR;refine (x_ty hT hH S.re _ hq).mono ?_;rintro e w1 ⟨rfl, N⟩;have S := S.st N.P N.R;have B := B.ro N.R (by omega);have zB := B.lt;clear N;go_wp2_with fail;refine (RC.at 0 8 (HH.out f (Nat.le_refl _)) S).mono ?_;rintro e w2 ⟨t, a, xa, xc, s2, p2, rfl, K, q2, S, r, be⟩;rw [p2] at hR;(try dsimp only at hR);have L := LV.mk0 hb (B.ro r (by omega)) (kids_up K);go_wp2_with fail;refine (x_want hT hH (x := kShut) (S.al _).re _).mono ?_;rintro e w3 ⟨⟨v, rfl⟩, N⟩;have L := L.ro N.R;have S := (S.al _).st N.P N.R;have k2 := L.E.cs;have l2 := L.E.lt;have k1 := L.B.cs;have f1 := L.B.f;have l1 := L.B.lt;clear N;refine gw ?_;exact r_ret hR.symm (fun h => (q2 (expP_ok h)).2) S L.B L.kk
 refine (x_tn hT hH S.re _ hq).mono ?_;rintro e w1 ⟨rfl, N⟩;replace S := S.st N.P N.R;replace B := B.ro N.R (by omega);rw [if_neg (by decide)] at hR;clear N hq;go_wp2_with fail;obtain ⟨q, hq⟩ : ∃ q, accB tk kBest s = q := ⟨_, rfl⟩;rw [hq] at hR;cases q
 rotate_left
 ·have hrem := (acc_beh hq).2;rw [if_pos (by trivial)] at hR;refine (x_ty hT hH S.re _ hq).mono ?_;rintro e w1 ⟨rfl, N⟩;have S := S.st N.P N.R;have B := B.ro N.R (by omega);have zB := B.lt;clear N;go_wp2_with fail;refine (x_want hT hH (x := kOpen) S.re _).mono ?_;rintro e w1 ⟨⟨v, rfl⟩, N⟩;have S := S.st N.P N.R;have B := B.ro N.R (by omega);have zB := B.lt;clear N;go_wp2_with fail;refine (x_whole hT S.re _ _).mono ?_;rintro e w2 ⟨rfl, N⟩;have S := S.st N.P N.R;have B := B.ro N.R (by omega);clear N;go_wp2_with fail;refine (x_want hT hH (x := kShut) S.re _).mono ?_;rintro e w1 ⟨⟨v, rfl⟩, N⟩;have S := S.st N.P N.R;have B := B.ro N.R (by omega);have zB := B.lt;clear N;have nb := numT_bd tk (expP tk kOpen s.adv);generalize numT tk 1 45 (expP tk kOpen s.adv) = n at *;have k1 := B.cs;have f1 := B.f;have l1 := B.lt;refine gw ?_;exact r_ret (t := trS n) hR.symm (fun _ => rfl) S B (leaf_tree ⟨by decide, by decide, by omega, by omega, by decide, by decide, by decide, by decide, by decide⟩)
 refine (x_tn hT hH S.re _ hq).mono ?_;rintro e w1 ⟨rfl, N⟩;replace S := S.st N.P N.R;replace B := B.ro N.R (by omega);rw [if_neg (by decide)] at hR;clear N hq;go_wp2_with fail;obtain ⟨q, hq⟩ : ∃ q, accB tk kFloor s = q := ⟨_, rfl⟩;rw [hq] at hR;refine (x_is hT hH S _ hq).mono ?_;rintro e w1 ⟨rfl, r⟩;replace S := S.rel r;replace B := B.rel r;clear r;cases q
 rotate_left
 ·have hrem := (acc_beh hq).2;go_wp2_with fail;refine (rcall b G tk E hT hH f HH _ s 6 RES S.P (by decide) hrem hf hR).mono ?_;rintro e w2 ⟨t, x, rfl, K, q2, P, r⟩;obtain ⟨xa, xc, rfl⟩ := kids_slice (kidsB_to K);have S := S.st P r;have zB := B.lt;have B := B.ro r (by omega);have k1 := B.cs;have f1 := B.f;have l1 := B.lt;refine gw ?_;exact r_ret rfl q2 S B (kids_up K)
 rw [if_neg (by decide)] at hR;clear hq;go_wp2_with fail;obtain ⟨q, hq⟩ : ∃ q, accB tk [109, 105, 110] s = q := ⟨_, rfl⟩;obtain ⟨p, hp⟩ : ∃ q, accB tk [109, 97, 120] s = q := ⟨_, rfl⟩;rw [(mm_two hq hp).1, (mm_two hq hp).2] at hR;refine (x_is hT hH S _ hq).mono ?_;rintro e w1 ⟨rfl, r⟩;replace S := S.rel r;replace B := B.rel r;clear r;cases q
 rotate_left
 ·have hrem := (acc_beh hq).2;go_wp2_with fail;refine (rcall b G tk E hT hH f HH _ s 19 RES S.P (by decide) hrem hf hR).mono ?_;rintro e w2 ⟨t, x, rfl, K, q2, P, r⟩;obtain ⟨xa, xc, rfl⟩ := kids_slice (kidsB_to K);have S := S.st P r;have zB := B.lt;have B := B.ro r (by omega);have k1 := B.cs;have f1 := B.f;have l1 := B.lt;refine gw ?_;exact r_ret rfl q2 S B (kids_up K)
 go_wp2_with fail;refine (x_is hT hH S _ hp).mono ?_;rintro e w1 ⟨rfl, r⟩;replace S := S.rel r;replace B := B.rel r;clear r;cases p
 rotate_left
 ·have hrem := (acc_beh hp).2;go_wp2_with fail;refine (rcall b G tk E hT hH f HH _ s 20 RES S.P (by decide) hrem hf hR).mono ?_;rintro e w2 ⟨t, x, rfl, K, q2, P, r⟩;obtain ⟨xa, xc, rfl⟩ := kids_slice (kidsB_to K);have S := S.st P r;have zB := B.lt;have B := B.ro r (by omega);have k1 := B.cs;have f1 := B.f;have l1 := B.lt;refine gw ?_;exact r_ret rfl q2 S B (kids_up K)
 rw [if_neg (by decide), if_neg hK] at hR;have hns := namT_size hT s;clear hp hq;go_wp2_with fail;refine (x_name hT S.re).mono ?_;rintro e w1 ⟨rfl, N⟩;replace S := S.st N.P N.R;replace B := B.ro N.R (by omega);generalize namT tk s = NT at *;clear N;have k1 := B.cs;have f1 := B.f;have l1 := B.lt;refine gw ?_;exact r_ret (t := trN NT) hR.symm (fun _ => rfl) S B (leaf_tree ⟨by decide, by decide, by decide, by decide, by decide, by decide, by decide, by decide, hns⟩)
theorem rread_all (b G : Nat) (tk : List Tk) (E : Int) (hT : TksOk tk) (hH : TkHd tk) (F : Nat) : ∀ f, f <= F -> ∀ m, m <= 7 -> RC b G tk E m f := by
 induction F with
 | zero =>
  intro f hf m hm w s _ h;obtain rfl : f = 0 := by omega
  have := cc_pos m
  omega
 | succ F ih =>
  intro f hf m hm;by_cases h : f <= F
  ·exact ih f h m hm
  ·obtain rfl : f = F + 1 := by omega
   rcases (show m = 0 \/ m = 3 \/ m = 7 \/ (m = 1 \/ m = 2 \/ m = 4 \/ m = 5 \/ m = 6) by omega) with rfl | rfl | rfl | h
   ·exact rexpr0_step b G tk E hT hH F ih
   ·exact rexpr3_step b G tk E hT hH F ih
   ·exact rexpr7_step b G tk E F (rfactor_step b G tk E hT hH F ih)
   ·exact rexprC_step b G tk E hT hH F ih m h
theorem rdr_new {w : World} {base : Nat} {T U : TypeId} {v : Value} {l : List Tk} {E : Int} (hO : w.ownsRow base T 3 v l.length (encL l)) {b : Nat} (hb : b = w.heap.size) : ∃ (G : Nat) (ad : Option Addr) (n cap : Nat), v = .slice ad n cap /\ (l = [] \/ base <= G) /\ Rdr (w.alloc (.cells #[v, .int .i64 0, .int .i64 E, .bool false] U)) b G l E ⟨0, true⟩ := by
 subst hb
 rcases hO.2 with ⟨e, h0⟩ | ⟨g, cap, cur, e, hg, hgl, hc, -⟩
 ·have hl : l = [] := List.eq_nil_of_length_eq_zero h0;subst hl;exact ⟨0, none, 0, 0, e, .inl rfl, ⟨by simp, Nat.zero_le _, ⟨none, 0, by rw [e]; simp, fun h => by simp at h⟩, .inl rfl, by simp, by simp, by simp, by simp, by simp⟩⟩
 ·have hlt : g < w.heap.size := by
   rcases Nat.lt_or_ge g w.heap.size with hlt | hge
   ·exact hlt
   ·rw [Array.getElem?_eq_none hge] at hgl; cases hgl
  have r : Rel w (w.alloc (.cells #[v, .int .i64 0, .int .i64 E, .bool false] U)) := (Rel.refl _).alloc _
  have hadd : ∀ m, (⟨g, 0, none⟩ : Addr).add m = ⟨g, m, none⟩ := fun m => by unfold Addr.add; split <;> simp_all
  refine ⟨g, some ⟨g, 0, none⟩, l.length, cap, e, .inr hg, ⟨by simp, Nat.zero_le _, ⟨some ⟨g, 0, none⟩, cap, by rw [e]; simp, fun _ => rfl⟩, .inr ⟨by simp; omega, by omega, fun i t ht => ?_⟩, by simp, by simp, by simp, by simp, by simp⟩⟩;obtain ⟨h1, h2, h3⟩ := encL_get ht;have c1 := hO.cells (g := g) (by rw [e]; rfl) _ _ h1;have c2 := hO.cells (g := g) (by rw [e]; rfl) _ _ h2;have c3 := hO.cells (g := g) (by rw [e]; rfl) _ _ h3;rw [hadd] at c1 c2 c3;exact ⟨r.cell c1, r.cell c2, r.cell c3⟩
def BegRes (s : ByteArray) (w : World) (e : Ending) (w' : World) : Prop := (¬ (allR s).2.2 = 0 /\ e = .returned (.tuple #[.pointer none, .int .i64 (allR s).2.1, .int .i64 (allR s).2.2]) /\ Rel w w') \/
 ((allR s).2.2 = 0 /\ ∃ b G, e = .returned (.tuple #[.pointer (some ⟨b, 0, none⟩), .int .i64 0, .int .i64 0]) /\ w.heap.size <= b /\ ((allR s).1 = [] \/ w.heap.size <= G) /\ Rdr w' b G (allR s).1 s.size ⟨0, true⟩ /\ Rel w w')
theorem rbegin_any (s : ByteArray) (w : World) (hs : s.size <= 140737488355328) : Calls prog 30 #[.string s] w (BegRes s w) := by
 have A := Hj fun w => rAll_any s w hs
 unfold AllRes at A;unfold BegRes;obtain ⟨l, hl⟩ : ∃ l, (allR s).1 = l := ⟨_, rfl⟩;obtain ⟨x, hx⟩ : ∃ l, (allR s).2.1 = l := ⟨_, rfl⟩;obtain ⟨c, hc⟩ : ∃ l, (allR s).2.2 = l := ⟨_, rfl⟩;rw [hl, hx, hc] at A |-;clear hl hx hc;by_cases hc0 : c = 0
 ·subst hc0;go_enter func30, ntmps30;go_wp2_with fail;refine (A.out _).mono ?_;rintro e w1 ⟨v, rfl, h1, hO⟩;obtain ⟨G, ad, n, cap, rfl, hG, hP⟩ := rdr_new (U := 90) (E := s.size) hO rfl;have P1 := Hj hP;have R1 := Hj h1;clear hO hP h1;refine gw ?_;refine bodyPost_ret (v := .tuple #[.pointer (some ⟨w1.heap.size, 0, none⟩), .int .i64 0, .int .i64 0]) ?_ rfl (.inr ⟨(by first | rfl | trivial), w1.heap.size, G, rfl, R1.out.size, hG, P1.out, R1.out.alloc _⟩);simp [results, results30, go_sem]
 ·have ec : (c != 0) = true := by simpa using hc0
  go_enter func30, ntmps30;go_wp2_with fail;refine (A.out _).mono ?_;rintro e w1 ⟨v, rfl, h1, hO⟩;obtain ⟨G, ad, n, cap, rfl, hG, hP⟩ := rdr_new (U := 90) (E := s.size) hO rfl;have R1 := Hj h1;have HC := Hj hc0;clear hO hP h1 hc0;refine gw ?_;refine bodyPost_ret (v := .tuple #[.pointer none, .int .i64 x, .int .i64 c]) ?_ rfl (.inl ⟨HC.out, rfl, R1.out⟩);simp [results, results30, go_sem]
set_option maxRecDepth 20000 in
theorem rplace_any (b G : Nat) (tk : List Tk) (E : Int) (s : Pt) (w : World) (h : Rdr w b G tk E s) : Calls prog 36 #[.pointer (some ⟨b, 0, none⟩)] w (IntRes (posI tk E s.i) w) := by
 have hlt := h.lt;have c1 := h.c1;have c2 := h.c2;unfold IntRes;by_cases hi : s.i < tk.length
 ·obtain ⟨t, cap, ht, c0, q0, q1, q2⟩ := rdr_at h hi;have e : posI tk E s.i = t.A := by unfold posI; rw [ht]
  rw [e];obtain ⟨n, hn⟩ : ∃ n, tk.length = n := ⟨_, rfl⟩;obtain ⟨i, hi'⟩ : ∃ i, s.i = i := ⟨_, rfl⟩;rw [hn] at c0 hi;rw [hi'] at q0 q1 q2 c1 hi;have ii : (i : Int) < (n : Int) := by omega
  clear h ht hn hi' e;go_enter func36, ntmps36;go_upto_region 1 with (fail);refine wp_region_calm (fun _ w' => Rel w w') (fun _ => false) [0, 1, 2, 3, 4, 5, 6, 7, 8, 9] 0 (by kernel_rfl) (by kernel_rfl) ?hst ?hS0 (fun w0 h0 => ?_)
  case hst => exact fun _ _ _ h r => h.trans r
  case hS0 => exact Rel.refl _
  iterate 10
   refine wcg ?_;apply ei
   ·intro M w hM hS;have d0 := hS.cell c0;have d1 := hS.cell c1;unfold calmAt;go_simp;exact ⟨rfl, Rel.refl _⟩
  refine wpCalm_nil (wpAnyR_end (by kernel_rfl) (fun w3 h3' => ?_));(try simp only [Act.put, zla, zlb, zlc]);have h3 := h0.trans h3';have k0 := h3.cell c0;have k1 := h3.cell c1;have kq := h3.cell q2;have R3 := Hj h3;clear h0 h3' h3;go_wp2_with fail;refine wp_region_calm (fun _ w' => Rel w3 w') (fun _ => false) [0, 1, 2, 3, 4, 5, 6, 7, 8, 9, 10, 11] 0 (by kernel_rfl) (by kernel_rfl) ?hst ?hS0 (fun w0 h0 => ?_)
  case hst => exact fun _ _ _ h r => h.trans r
  case hS0 => exact Rel.refl _
  iterate 12
   refine wcg ?_;apply ei
   ·intro M w hM hS;have d0 := hS.cell k0;have d1 := hS.cell k1;have e1 := hS.cell kq;unfold calmAt;go_simp;exact ⟨rfl, Rel.refl _⟩
  refine wpAnyR_end (by kernel_rfl) (fun w5 h5' => ?_);(try simp only [Act.put, zla, zlb, zlc]);have h5 := h0.trans h5';clear h0 h5';have kz5 := h5.size;(try simp only [zsa, zsc, zsd] at kz5);have H5 := Hj h5;clear h5;go_wp2;go_ret;exact ⟨rfl, R3.out.trans H5.out⟩
 ·obtain ⟨ad, cap, c0, -⟩ := h.tok;have e : posI tk E s.i = E := by unfold posI; rw [List.getElem?_eq_none (by omega)]
  rw [e];obtain ⟨n, hn⟩ : ∃ n, tk.length = n := ⟨_, rfl⟩;obtain ⟨i, hi'⟩ : ∃ i, s.i = i := ⟨_, rfl⟩;rw [hn] at c0 hi;rw [hi'] at c1 hi;have ii : decide ((i : Int) < (n : Int)) = false := dF (by omega);clear h hn hi' e;go_enter func36, ntmps36;go_upto_region 1 with (fail);refine wp_region_calm (fun _ w' => Rel w w') (fun _ => false) [0, 1, 2, 3, 4, 5, 6, 7, 8, 9] 0 (by kernel_rfl) (by kernel_rfl) ?hst ?hS0 (fun w0 h0 => ?_)
  case hst => exact fun _ _ _ h r => h.trans r
  case hS0 => exact Rel.refl _
  iterate 10
   refine wcg ?_;apply ei
   ·intro M w hM hS;have d0 := hS.cell c0;have d1 := hS.cell c1;unfold calmAt;go_simp;exact ⟨rfl, Rel.refl _⟩
  refine wpCalm_nil (wpAnyR_end (by kernel_rfl) (fun w3 h3' => ?_));(try simp only [Act.put, zla, zlb, zlc]);have h3 := h0.trans h3';have k2 := h3.cell c2;have R3 := Hj h3;clear h0 h3' h3;go_wp2;go_ret;exact ⟨rfl, R3.out⟩
end Go.Proofs.YthmlhheceihcbaaGreatDoor

/- Contract of typing.Infer, over whatever lookup answers. No conditions but those printed. -/
import Derived.Test.YtnhmebhmlbofgaaDoorExG
namespace Go.Proofs.YtnhmebhmlbofgaaDoor
open Go.RowKit Cal Str Tok Frac Txt Tree
attribute [local go_sem] calmUpon
set_option linter.unusedVariables false
set_option linter.unusedSimpArgs false

/-- The k bindings at an address: names and dimensions. -/
def EnvAt (w : World) (k : Nat) (nm : Nat → ByteArray) (dm : Nat → Int) (ad : Option Addr) : Prop := 0 < k → ∃ g off, ad = some ⟨g, off, none⟩ ∧ g < w.heap.size ∧ ∀ i, i < k →
  w.cell? ⟨g, off + i * 2, none⟩ = some (.string (nm i)) ∧ w.cell? ⟨g, off + i * 2 + 1, none⟩ = some (.int .i64 (dm i)) ∧ (nm i).size ≤ 140737488355328 ∧ -9223372036854775808 ≤ dm i ∧ dm i ≤ 9223372036854775807
theorem env_rel {w w' : World} {k : Nat} {nm : Nat → ByteArray} {dm : Nat → Int} {ad : Option Addr} (h : EnvAt w k nm dm ad) (r : Rel w w') : EnvAt w' k nm dm ad := fun h0 => by
  obtain ⟨g, off, e, hg, hc⟩ := h h0
  exact ⟨g, off, e, Nat.lt_of_lt_of_le hg r.size, fun i hi => ⟨r.cell (hc i hi).1, r.cell (hc i hi).2.1, (hc i hi).2.2⟩⟩
def dmB (dm : Nat → Int) (i : Nat) : Bool := decide (1 ≤ dm i) && decide (dm i ≤ 4)
def envB (dm : Nat → Int) (k : Nat) : Bool := alK (dmB dm) k
theorem envB_bd {dm : Nat → Int} {k : Nat} (h : envB dm k = true) : ∀ i, i < k → 1 ≤ dm i ∧ dm i ≤ 4 := fun i hi => by
  have := alK_lt h i hi
  unfold dmB at this; simpa using this

set_option maxHeartbeats 1000000 in
theorem inf1_any (s : ByteArray) (d : Int) (w : World) :
    Calls Tryd.prog 24 #[.agg #[.string s, .int .i64 d]] w (BRes (!(decide (1 ≤ d) && decide (d ≤ 4))) w) := by
  unfold BRes
  by_cases h1 : 1 ≤ d
  · have b1 : decide (d < 1) = false := decide_eq_false (by omega)
    have fin : Hid (decide (4 < d) = (!(decide (1 ≤ d) && decide (d ≤ 4)))) := by
      show _ = _
      rw [decide_eq_true h1]
      by_cases h4 : d ≤ 4
      · rw [decide_eq_true h4, decide_eq_false (by omega)]; rfl
      · rw [decide_eq_false h4, decide_eq_true (by omega)]; rfl
    go_enter Tryd.func24, Tryd.ntmps24
    go_wp2
    go_ret
    exact ⟨ret_b2 fin.out, by (show Rel _ _; repeat (first | with_reducible exact Rel.refl _ | with_reducible refine Rel.alloc ?_ _ | with_reducible refine Rel.setCell ?_ (by first | (simp; done) | (simp; omega)) _ | with_reducible refine Rel.drew ?_ | with_reducible refine Rel.trans ?_ H0.out))⟩
  · have b1 : decide (d < 1) = true := decide_eq_true (by omega)
    have fin : Hid (true = (!(decide (1 ≤ d) && decide (d ≤ 4)))) := by
      show _ = _
      rw [decide_eq_false h1]; rfl
    go_enter Tryd.func24, Tryd.ntmps24
    go_wp2
    go_ret
    exact ⟨ret_b2 (by simpa using fin.out), by (show Rel _ _; repeat (first | with_reducible exact Rel.refl _ | with_reducible refine Rel.alloc ?_ _ | with_reducible refine Rel.setCell ?_ (by first | (simp; done) | (simp; omega)) _ | with_reducible refine Rel.drew ?_ | with_reducible refine Rel.trans ?_ H0.out))⟩

set_option maxHeartbeats 2000000 in
theorem indexB_any (k : Nat) (nm : Nat → ByteArray) (dm : Nat → Int) (ad : Option Addr) (cap : Nat) (w : World) (hk : Hid (EnvAt w k nm dm ad)) (hn : k ≤ 17592186044416) :
    Calls Tryd.prog 40 #[.slice ad k cap, .func (.func 24) #[] #[]] w fun e w' => ∃ r : Int, e = .returned (.int .i64 r) ∧ decide (0 ≤ r) = (!envB dm k) ∧ Rel w w' := by
  go_enter Tryd.func40, Tryd.ntmps40
  go_wp2_with fail
  go_loopw [8] (fun i wx => ∃ j : Nat, j ≤ k ∧ i = .int .i64 j ∧ Hid (alK (dmB dm) j = true) ∧ Hid (Rel w wx)) (fun i _ => k - (intOf i).toNat)
  case atStart => exact ⟨0, by omega, rfl, rfl, Rel.refl _⟩
  case round =>
    obtain ⟨j, hkn, rfl, hA, hR⟩ := hrel
    by_cases hlt : j < k
    · obtain ⟨g, off, rfl, hg, hc⟩ := hk.out (by omega)
      obtain ⟨q0, q1, -⟩ := hc j hlt
      have c0 := hR.out.cell q0
      have c1 := hR.out.cell q1
      have C := Lib.hid (inf1_any (nm j) (dm j) wr)
      unfold BRes at C
      clear hc q0 q1
      go_wp2_with fail
      refine C.out.mono ?_
      rintro e w1 ⟨rfl, h1⟩
      have kz1 := h1.size
      (try simp only [World.size_alloc, World.size_setCell, World.size_drew] at kz1)
      have H1 := Lib.hid h1
      clear h1
      obtain ⟨B, hB⟩ : ∃ B, (decide (1 ≤ dm j) && decide (dm j ≤ 4)) = B := ⟨_, rfl⟩
      rw [hB]
      cases B
      · have fin : Hid (decide (0 ≤ (j : Int)) = !envB dm k) := by
          show _ = _
          unfold envB
          rw [alK_no hlt hB]; simp
        clear hB
        go_wp2
        go_ret
        exact ⟨_, rfl, fin.out, hR.out.trans H1.out⟩
      · have fin : Hid (alK (dmB dm) (j + 1) = true) := by
          show _ = _
          simp only [alK]; rw [hA.out]; exact hB
        clear hB
        go_wp2
        go_roundw
        case rel => exact ⟨j + 1, by omega, by go_num, fin, hR.out.trans H1.out⟩
        case measure => simp [intOf]; omega
    · have : j = k := by omega
      subst this
      go_wp2
      go_ret
      exact ⟨-1, rfl, by unfold envB; rw [hA.out]; rfl, hR.out⟩

set_option maxHeartbeats 1000000 in
theorem containsB_any (k : Nat) (nm : Nat → ByteArray) (dm : Nat → Int) (ad : Option Addr) (cap : Nat) (w : World) (hk : Hid (EnvAt w k nm dm ad)) (hn : k ≤ 17592186044416) :
    Calls Tryd.prog 23 #[.slice ad k cap, .func (.func 24) #[] #[]] w (BRes (!envB dm k) w) := by
  have C := Lib.hid fun w' (r : Rel w w') => indexB_any k nm dm ad cap w' (Lib.hid (env_rel hk.out r)) hn
  unfold BRes
  go_enter Tryd.func23, Tryd.ntmps23
  go_wp2_with fail
  refine (C.out _ (Rel.refl _)).mono ?_
  rintro e w1 ⟨r, rfl, hr, h1⟩
  have HR := Lib.hid hr
  clear hr
  go_wp2
  go_ret
  exact ⟨ret_b2 HR.out, h1⟩

/-- What Infer gives. -/
def infV (t : Ex) (nm : Nat → ByteArray) (dm : Nat → Int) (k : Nat) : Int × Int := if (t.valid && envB dm k) = true then t.inf nm dm k else (0, 1)

set_option maxHeartbeats 2000000 in
theorem Infer_of (Q : ByteArray → Prop) (ad : Option Addr) (k cap : Nat) (nm : Nat → ByteArray) (dm : Nat → Int) (w : World) (HL : Hid (envB dm k = true → LookOk Q (.slice ad k cap) nm dm k w)) (hk : Hid (EnvAt w k nm dm ad)) (hn : k ≤ 17592186044416)
    (t : Ex) (x : Value) (h : ExKids t w x) (hz : t.size ≤ 1000000000000) (hq : t.allNm Q) (ht : Hid (TabW w)) :
    Calls Tryd.prog 14 #[.agg #[.int .i64 t.op, .int .i64 t.va, .int .i64 t.vb, .int .i64 t.dm, .string t.nm, x], .slice ad k cap] w (InfRes (infV t nm dm k) w) := by
  obtain ⟨xa, xc, rfl⟩ := kids_slice h
  have V := Lib.hid fun w' (r : Rel w w') => ValidExpr_any t _ w' (kids_rel h r) hz (Lib.hid (ht.out.rel r))
  have C := Lib.hid fun w' (r : Rel w w') => containsB_any k nm dm ad cap w' (Lib.hid (env_rel hk.out r)) hn
  have HV : Hid (infV t nm dm k = if (t.valid && envB dm k) = true then t.inf nm dm k else (0, 1)) := rfl
  have I := Lib.hid fun (hv : t.valid = true) (he : envB dm k = true) w' (r : Rel w w') => infer_all Q (.slice ad k cap) nm dm k w (Lib.hid (HL.out he)) (Lib.hid (envB_bd he)) t _ w' r (kids_rel h r) (by unfold Ex.valid at hv; simp only [Bool.and_eq_true] at hv; exact hv.2.2) hq
  unfold BRes at V C
  obtain ⟨RES, hRES⟩ : ∃ RES, infV t nm dm k = RES := ⟨_, rfl⟩
  rw [hRES] at HV ⊢
  obtain ⟨A, hA⟩ : ∃ A, t.valid = A := ⟨_, rfl⟩
  obtain ⟨B, hB⟩ : ∃ B, envB dm k = B := ⟨_, rfl⟩
  rw [hA] at V I HV
  rw [hB] at C I HV
  clear h hRES hA hB hq
  cases A
  · have fin : Hid (RES = (0, 1)) := HV.out
    clear I
    go_enter Tryd.func14, Tryd.ntmps14
    go_wp2_with fail
    refine (V.out _ (by show Rel _ _; (show Rel _ _; repeat (first | with_reducible exact Rel.refl _ | with_reducible refine Rel.alloc ?_ _ | with_reducible refine Rel.setCell ?_ (by first | (simp; done) | (simp; omega)) _ | with_reducible refine Rel.drew ?_ | with_reducible refine Rel.trans ?_ H0.out)))).mono ?_
    rintro e w1 ⟨rfl, h1⟩
    have q := keep6 h1 (b := w.heap.size) (by first | (simp; done) | (simp; omega) | omega)
    have kc1_0_0 := q.1
    have kc1_0_1 := q.2.1
    have kc1_0_2 := q.2.2.1
    have kc1_0_3 := q.2.2.2.1
    have kc1_0_4 := q.2.2.2.2.1
    have kc1_0_5 := q.2.2.2.2.2.1
    have kf1_0_0 := q.2.2.2.2.2.2.1
    have kf1_0_1 := q.2.2.2.2.2.2.2.1
    have kf1_0_2 := q.2.2.2.2.2.2.2.2.1
    have kf1_0_3 := q.2.2.2.2.2.2.2.2.2.1
    have kf1_0_4 := q.2.2.2.2.2.2.2.2.2.2.1
    have kf1_0_5 := q.2.2.2.2.2.2.2.2.2.2.2.1
    have kl1_0 := q.2.2.2.2.2.2.2.2.2.2.2.2.1
    have kn1_0 := q.2.2.2.2.2.2.2.2.2.2.2.2.2.1
    have km1_0 := q.2.2.2.2.2.2.2.2.2.2.2.2.2.2
    clear q
    have kz1 := h1.size
    (try simp only [World.size_alloc, World.size_setCell, World.size_drew] at kz1)
    have H1 := Lib.hid h1
    clear h1
    go_wp2
    go_ret2
    exact inf_ret fin.out (by (show Rel _ _; repeat (first | with_reducible exact Rel.refl _ | with_reducible refine Rel.alloc ?_ _ | with_reducible refine Rel.setCell ?_ (by first | (simp; done) | (simp; omega)) _ | with_reducible refine Rel.drew ?_ | with_reducible refine Rel.trans ?_ H1.out | with_reducible refine Rel.trans ?_ H0.out)))
  · cases B
    · have fin : Hid (RES = (0, 1)) := HV.out
      clear I
      go_enter Tryd.func14, Tryd.ntmps14
      go_wp2_with fail
      refine (V.out _ (by show Rel _ _; (show Rel _ _; repeat (first | with_reducible exact Rel.refl _ | with_reducible refine Rel.alloc ?_ _ | with_reducible refine Rel.setCell ?_ (by first | (simp; done) | (simp; omega)) _ | with_reducible refine Rel.drew ?_ | with_reducible refine Rel.trans ?_ H0.out)))).mono ?_
      rintro e w1 ⟨rfl, h1⟩
      have q := keep6 h1 (b := w.heap.size) (by first | (simp; done) | (simp; omega) | omega)
      have kc1_0_0 := q.1
      have kc1_0_1 := q.2.1
      have kc1_0_2 := q.2.2.1
      have kc1_0_3 := q.2.2.2.1
      have kc1_0_4 := q.2.2.2.2.1
      have kc1_0_5 := q.2.2.2.2.2.1
      have kf1_0_0 := q.2.2.2.2.2.2.1
      have kf1_0_1 := q.2.2.2.2.2.2.2.1
      have kf1_0_2 := q.2.2.2.2.2.2.2.2.1
      have kf1_0_3 := q.2.2.2.2.2.2.2.2.2.1
      have kf1_0_4 := q.2.2.2.2.2.2.2.2.2.2.1
      have kf1_0_5 := q.2.2.2.2.2.2.2.2.2.2.2.1
      have kl1_0 := q.2.2.2.2.2.2.2.2.2.2.2.2.1
      have kn1_0 := q.2.2.2.2.2.2.2.2.2.2.2.2.2.1
      have km1_0 := q.2.2.2.2.2.2.2.2.2.2.2.2.2.2
      clear q
      have kz1 := h1.size
      (try simp only [World.size_alloc, World.size_setCell, World.size_drew] at kz1)
      have H1 := Lib.hid h1
      clear h1
      go_wp2_with fail
      refine (C.out _ (by show Rel _ _; (show Rel _ _; repeat (first | with_reducible exact Rel.refl _ | with_reducible refine Rel.alloc ?_ _ | with_reducible refine Rel.setCell ?_ (by first | (simp; done) | (simp; omega)) _ | with_reducible refine Rel.drew ?_ | with_reducible refine Rel.trans ?_ H1.out | with_reducible refine Rel.trans ?_ H0.out)))).mono ?_
      rintro e w2 ⟨rfl, h2⟩
      have q := keep6 h2 (b := w.heap.size) (by first | (simp; done) | (simp; omega) | omega)
      have kc2_0_0 := q.1
      have kc2_0_1 := q.2.1
      have kc2_0_2 := q.2.2.1
      have kc2_0_3 := q.2.2.2.1
      have kc2_0_4 := q.2.2.2.2.1
      have kc2_0_5 := q.2.2.2.2.2.1
      have kf2_0_0 := q.2.2.2.2.2.2.1
      have kf2_0_1 := q.2.2.2.2.2.2.2.1
      have kf2_0_2 := q.2.2.2.2.2.2.2.2.1
      have kf2_0_3 := q.2.2.2.2.2.2.2.2.2.1
      have kf2_0_4 := q.2.2.2.2.2.2.2.2.2.2.1
      have kf2_0_5 := q.2.2.2.2.2.2.2.2.2.2.2.1
      have kl2_0 := q.2.2.2.2.2.2.2.2.2.2.2.2.1
      have kn2_0 := q.2.2.2.2.2.2.2.2.2.2.2.2.2.1
      have km2_0 := q.2.2.2.2.2.2.2.2.2.2.2.2.2.2
      clear q
      have kz2 := h2.size
      (try simp only [World.size_alloc, World.size_setCell, World.size_drew] at kz2)
      have H2 := Lib.hid h2
      clear h2
      go_wp2
      go_ret2
      exact inf_ret fin.out (by (show Rel _ _; repeat (first | with_reducible exact Rel.refl _ | with_reducible refine Rel.alloc ?_ _ | with_reducible refine Rel.setCell ?_ (by first | (simp; done) | (simp; omega)) _ | with_reducible refine Rel.drew ?_ | with_reducible refine Rel.trans ?_ H2.out | with_reducible refine Rel.trans ?_ H1.out | with_reducible refine Rel.trans ?_ H0.out)))
    · have fin : Hid (RES = t.inf nm dm k) := HV.out
      have J := Lib.hid (I.out rfl rfl)
      unfold InfRes at J
      obtain ⟨r, hr⟩ : ∃ r, t.inf nm dm k = r := ⟨_, rfl⟩
      rw [hr] at J fin
      clear I hr
      obtain ⟨r1, r2⟩ := r
      go_enter Tryd.func14, Tryd.ntmps14
      go_wp2_with fail
      refine (V.out _ (by show Rel _ _; (show Rel _ _; repeat (first | with_reducible exact Rel.refl _ | with_reducible refine Rel.alloc ?_ _ | with_reducible refine Rel.setCell ?_ (by first | (simp; done) | (simp; omega)) _ | with_reducible refine Rel.drew ?_ | with_reducible refine Rel.trans ?_ H0.out)))).mono ?_
      rintro e w1 ⟨rfl, h1⟩
      have q := keep6 h1 (b := w.heap.size) (by first | (simp; done) | (simp; omega) | omega)
      have kc1_0_0 := q.1
      have kc1_0_1 := q.2.1
      have kc1_0_2 := q.2.2.1
      have kc1_0_3 := q.2.2.2.1
      have kc1_0_4 := q.2.2.2.2.1
      have kc1_0_5 := q.2.2.2.2.2.1
      have kf1_0_0 := q.2.2.2.2.2.2.1
      have kf1_0_1 := q.2.2.2.2.2.2.2.1
      have kf1_0_2 := q.2.2.2.2.2.2.2.2.1
      have kf1_0_3 := q.2.2.2.2.2.2.2.2.2.1
      have kf1_0_4 := q.2.2.2.2.2.2.2.2.2.2.1
      have kf1_0_5 := q.2.2.2.2.2.2.2.2.2.2.2.1
      have kl1_0 := q.2.2.2.2.2.2.2.2.2.2.2.2.1
      have kn1_0 := q.2.2.2.2.2.2.2.2.2.2.2.2.2.1
      have km1_0 := q.2.2.2.2.2.2.2.2.2.2.2.2.2.2
      clear q
      have kz1 := h1.size
      (try simp only [World.size_alloc, World.size_setCell, World.size_drew] at kz1)
      have H1 := Lib.hid h1
      clear h1
      go_wp2_with fail
      refine (C.out _ (by show Rel _ _; (show Rel _ _; repeat (first | with_reducible exact Rel.refl _ | with_reducible refine Rel.alloc ?_ _ | with_reducible refine Rel.setCell ?_ (by first | (simp; done) | (simp; omega)) _ | with_reducible refine Rel.drew ?_ | with_reducible refine Rel.trans ?_ H1.out | with_reducible refine Rel.trans ?_ H0.out)))).mono ?_
      rintro e w2 ⟨rfl, h2⟩
      have q := keep6 h2 (b := w.heap.size) (by first | (simp; done) | (simp; omega) | omega)
      have kc2_0_0 := q.1
      have kc2_0_1 := q.2.1
      have kc2_0_2 := q.2.2.1
      have kc2_0_3 := q.2.2.2.1
      have kc2_0_4 := q.2.2.2.2.1
      have kc2_0_5 := q.2.2.2.2.2.1
      have kf2_0_0 := q.2.2.2.2.2.2.1
      have kf2_0_1 := q.2.2.2.2.2.2.2.1
      have kf2_0_2 := q.2.2.2.2.2.2.2.2.1
      have kf2_0_3 := q.2.2.2.2.2.2.2.2.2.1
      have kf2_0_4 := q.2.2.2.2.2.2.2.2.2.2.1
      have kf2_0_5 := q.2.2.2.2.2.2.2.2.2.2.2.1
      have kl2_0 := q.2.2.2.2.2.2.2.2.2.2.2.2.1
      have kn2_0 := q.2.2.2.2.2.2.2.2.2.2.2.2.2.1
      have km2_0 := q.2.2.2.2.2.2.2.2.2.2.2.2.2.2
      clear q
      have kz2 := h2.size
      (try simp only [World.size_alloc, World.size_setCell, World.size_drew] at kz2)
      have H2 := Lib.hid h2
      clear h2
      go_wp2_with fail
      refine (J.out _ (by show Rel _ _; (show Rel _ _; repeat (first | with_reducible exact Rel.refl _ | with_reducible refine Rel.alloc ?_ _ | with_reducible refine Rel.setCell ?_ (by first | (simp; done) | (simp; omega)) _ | with_reducible refine Rel.drew ?_ | with_reducible refine Rel.trans ?_ H2.out | with_reducible refine Rel.trans ?_ H1.out | with_reducible refine Rel.trans ?_ H0.out)))).mono ?_
      rintro e w3 ⟨rfl, h3⟩
      have q := keep6 h3 (b := w.heap.size) (by first | (simp; done) | (simp; omega) | omega)
      have kc3_0_0 := q.1
      have kc3_0_1 := q.2.1
      have kc3_0_2 := q.2.2.1
      have kc3_0_3 := q.2.2.2.1
      have kc3_0_4 := q.2.2.2.2.1
      have kc3_0_5 := q.2.2.2.2.2.1
      have kf3_0_0 := q.2.2.2.2.2.2.1
      have kf3_0_1 := q.2.2.2.2.2.2.2.1
      have kf3_0_2 := q.2.2.2.2.2.2.2.2.1
      have kf3_0_3 := q.2.2.2.2.2.2.2.2.2.1
      have kf3_0_4 := q.2.2.2.2.2.2.2.2.2.2.1
      have kf3_0_5 := q.2.2.2.2.2.2.2.2.2.2.2.1
      have kl3_0 := q.2.2.2.2.2.2.2.2.2.2.2.2.1
      have kn3_0 := q.2.2.2.2.2.2.2.2.2.2.2.2.2.1
      have km3_0 := q.2.2.2.2.2.2.2.2.2.2.2.2.2.2
      clear q
      have kz3 := h3.size
      (try simp only [World.size_alloc, World.size_setCell, World.size_drew] at kz3)
      have H3 := Lib.hid h3
      clear h3
      go_wp2
      go_ret2
      exact inf_ret fin.out (by (show Rel _ _; repeat (first | with_reducible exact Rel.refl _ | with_reducible refine Rel.alloc ?_ _ | with_reducible refine Rel.setCell ?_ (by first | (simp; done) | (simp; omega)) _ | with_reducible refine Rel.drew ?_ | with_reducible refine Rel.trans ?_ H3.out | with_reducible refine Rel.trans ?_ H2.out | with_reducible refine Rel.trans ?_ H1.out | with_reducible refine Rel.trans ?_ H0.out)))

end Go.Proofs.YtnhmebhmlbofgaaDoor

/- Contracts of form and ValidExpr. No conditions but those printed. -/
import Derived.Test.YtnhmebhmlbofgaaDoorExC
namespace Go.Proofs.YtnhmebhmlbofgaaDoor
open Go.RowKit Cal Str Tok Frac Txt Tree
attribute [local go_sem] calmUpon
set_option linter.unusedVariables false
set_option linter.unusedSimpArgs false

def FormOk (t : Ex) : Prop := ∀ (x : Value) (w : World), ExKids t w x → Hid (TabW w) → Calls Tryd.prog 39 #[.agg #[.int .i64 t.op, .int .i64 t.va, .int .i64 t.vb, .int .i64 t.dm, .string t.nm, x]] w (BRes t.form w)

set_option maxHeartbeats 1000000 in
theorem form1_of (t : Ex) (h : FormOk t) (x : Value) (w : World) (hx : ExKids t w x) (ht : Hid (TabW w)) :
    Calls Tryd.prog 56 #[.agg #[.int .i64 t.op, .int .i64 t.va, .int .i64 t.vb, .int .i64 t.dm, .string t.nm, x]] w (BRes (!t.form) w) := by
  obtain ⟨xa, xc, rfl⟩ := kids_slice hx
  have C := Lib.hid fun w' (r : Rel w w') => h _ w' (kids_rel hx r) (Lib.hid (ht.out.rel r))
  unfold BRes at C ⊢
  clear h hx
  go_enter Tryd.func56, Tryd.ntmps56
  go_wp2_with fail
  refine (C.out _ (by show Rel _ _; (show Rel _ _; repeat (first | with_reducible exact Rel.refl _ | with_reducible refine Rel.alloc ?_ _ | with_reducible refine Rel.setCell ?_ (by first | (simp; done) | (simp; omega)) _ | with_reducible refine Rel.drew ?_ | with_reducible refine Rel.trans ?_ H0.out)))).mono ?_
  rintro e w1 ⟨rfl, h1⟩
  have kz1 := h1.size
  (try simp only [World.size_alloc, World.size_setCell, World.size_drew] at kz1)
  have H1 := Lib.hid h1
  clear h1
  go_wp2
  go_ret
  exact ⟨ret_b2 (by simp), by (show Rel _ _; repeat (first | with_reducible exact Rel.refl _ | with_reducible refine Rel.alloc ?_ _ | with_reducible refine Rel.setCell ?_ (by first | (simp; done) | (simp; omega)) _ | with_reducible refine Rel.drew ?_ | with_reducible refine Rel.trans ?_ H1.out | with_reducible refine Rel.trans ?_ H0.out))⟩

def KidsAt (w : World) (n : Nat) (kid : Nat → Ex) (ad : Option Addr) : Prop := 0 < n → ∃ g off, ad = some ⟨g, off, none⟩ ∧ g < w.heap.size ∧ ∀ i, i < n → ∃ xi, Six w g (off + i * 6) (kid i).op (kid i).va (kid i).vb (kid i).dm (kid i).nm xi ∧ ExKids (kid i) w xi

set_option maxHeartbeats 2000000 in
theorem indexF_of (n : Nat) (kid : Nat → Ex) (h : Hid (∀ k, FormOk (kid k))) (ad : Option Addr) (cap : Nat) (w : World) (hk : Hid (KidsAt w n kid ad)) (hn : n ≤ 17592186044416) (ht : Hid (TabW w)) :
    Calls Tryd.prog 67 #[.slice ad n cap, .func (.func 56) #[] #[]] w fun e w' => ∃ r : Int, e = .returned (.int .i64 r) ∧ decide (0 ≤ r) = (!alK (fun i => (kid i).form) n) ∧ Rel w w' := by
  go_enter Tryd.func67, Tryd.ntmps67
  go_wp2_with fail
  go_loopw [8] (fun i wx => ∃ k : Nat, k ≤ n ∧ i = .int .i64 k ∧ Hid (alK (fun i => (kid i).form) k = true) ∧ Hid (Rel w wx)) (fun i _ => n - (intOf i).toNat)
  case atStart => exact ⟨0, by omega, rfl, rfl, Rel.refl _⟩
  case round =>
    obtain ⟨k, hkn, rfl, hA, hR⟩ := hrel
    by_cases hlt : k < n
    · obtain ⟨g, off, rfl, hg, hc⟩ := hk.out (by omega)
      obtain ⟨xi, hs, hx⟩ := hc k hlt
      obtain ⟨xa, xc, rfl⟩ := kids_slice hx
      obtain ⟨c0, c1, c2, c3, c4, c5⟩ := six_rel hs hR.out hg
      have C := Lib.hid fun w' (r : Rel w w') => form1_of _ (h.out k) _ w' (kids_rel hx r) (Lib.hid (ht.out.rel r))
      clear hs hc hx
      go_wp2_with fail
      refine (C.out _ hR.out).mono ?_
      unfold BRes
      rintro e w1 ⟨rfl, h1⟩
      have kz1 := h1.size
      (try simp only [World.size_alloc, World.size_setCell, World.size_drew] at kz1)
      have H1 := Lib.hid h1
      clear h1
      cases hf : (kid k).form
      · have fin : Hid (decide (0 ≤ (k : Int)) = !alK (fun i => (kid i).form) n) := by
          show _ = _
          rw [alK_no hlt hf]; simp
        go_wp2
        go_ret
        exact ⟨_, rfl, fin.out, hR.out.trans H1.out⟩
      · have fin : Hid (alK (fun i => (kid i).form) (k + 1) = true) := by
          show _ = _
          simp only [alK]; rw [hA.out, hf]; rfl
        go_wp2
        go_roundw
        case rel => exact ⟨k + 1, by omega, by go_num, fin, hR.out.trans H1.out⟩
        case measure => simp [intOf]; omega
    · have : k = n := by omega
      subst this
      go_wp2
      go_ret
      exact ⟨-1, rfl, by rw [hA.out]; rfl, hR.out⟩

set_option maxHeartbeats 1000000 in
theorem contains_of (n : Nat) (kid : Nat → Ex) (h : Hid (∀ k, FormOk (kid k))) (ad : Option Addr) (cap : Nat) (w : World) (hk : Hid (KidsAt w n kid ad)) (hn : n ≤ 17592186044416) (ht : Hid (TabW w)) :
    Calls Tryd.prog 55 #[.slice ad n cap, .func (.func 56) #[] #[]] w (BRes (!alK (fun i => (kid i).form) n) w) := by
  have C := Lib.hid fun w' (r : Rel w w') => indexF_of n kid h ad cap w' (Lib.hid (fun h0 => by
    obtain ⟨g, off, e, hg, hc⟩ := hk.out h0
    exact ⟨g, off, e, Nat.lt_of_lt_of_le hg r.size, fun i hi => by
      obtain ⟨xi, hs, hx⟩ := hc i hi
      exact ⟨xi, six_rel hs r hg, kids_rel hx r⟩⟩)) hn (Lib.hid (ht.out.rel r))
  unfold BRes
  go_enter Tryd.func55, Tryd.ntmps55
  go_wp2_with fail
  refine (C.out _ (Rel.refl _)).mono ?_
  rintro e w1 ⟨r, rfl, hr, h1⟩
  have HR := Lib.hid hr
  clear hr
  go_wp2
  go_ret
  exact ⟨ret_b2 HR.out, h1⟩

set_option maxHeartbeats 2000000 in
theorem form_all (t : Ex) : FormOk t := by
  induction t with
  | no => intro x w h; exact h.elim
  | mk op a b d s n kid ih =>
    intro x w h ht
    obtain ⟨hb, hn, ad, cap, rfl, hk⟩ := h
    have HK : Hid (KidsAt w n kid ad) := hk
    have IH := Lib.hid ih
    rw [form_mk]
    simp only [Ex.op, Ex.va, Ex.vb, Ex.dm, Ex.nm]
    clear hk ih
    have N := Lib.hid fun w' ht => node_any op a b d s ad n cap w' ht hb hn
    have C := Lib.hid fun w' (r : Rel w w') => contains_of n kid IH ad cap w' (Lib.hid (fun h0 => by
      obtain ⟨g, off, e, hg, hc⟩ := HK.out h0
      exact ⟨g, off, e, Nat.lt_of_lt_of_le hg r.size, fun i hi => by
        obtain ⟨xi, hs, hx⟩ := hc i hi
        exact ⟨xi, six_rel hs r hg, kids_rel hx r⟩⟩)) hn (Lib.hid (ht.out.rel r))
    unfold BRes at N C ⊢
    obtain ⟨A, hA⟩ : ∃ A, alK (fun i => (kid i).form) n = A := ⟨_, rfl⟩
    obtain ⟨B, hB⟩ : ∃ B, nodB op a b d s n = B := ⟨_, rfl⟩
    rw [hA] at C ⊢
    rw [hB] at N ⊢
    clear hA hB hb
    cases B
    · go_enter Tryd.func39, Tryd.ntmps39
      go_wp2_with fail
      refine (N.out _ (Lib.hid (ht.out.rel (by show Rel _ _; (show Rel _ _; repeat (first | with_reducible exact Rel.refl _ | with_reducible refine Rel.alloc ?_ _ | with_reducible refine Rel.setCell ?_ (by first | (simp; done) | (simp; omega)) _ | with_reducible refine Rel.drew ?_ | with_reducible refine Rel.trans ?_ H0.out)))))).mono ?_
      rintro e w1 ⟨rfl, h1⟩
      have q := keep6 h1 (b := w.heap.size) (by first | (simp; done) | (simp; omega) | omega)
      have kc1_0_0 := q.1
      have kc1_0_1 := q.2.1
      have kc1_0_2 := q.2.2.1
      have kc1_0_3 := q.2.2.2.1
      have kc1_0_4 := q.2.2.2.2.1
      have kc1_0_5 := q.2.2.2.2.2.1
      have kf1_0_0 := q.2.2.2.2.2.2.1
      have kf1_0_1 := q.2.2.2.2.2.2.2.1
      have kf1_0_2 := q.2.2.2.2.2.2.2.2.1
      have kf1_0_3 := q.2.2.2.2.2.2.2.2.2.1
      have kf1_0_4 := q.2.2.2.2.2.2.2.2.2.2.1
      have kf1_0_5 := q.2.2.2.2.2.2.2.2.2.2.2.1
      have kl1_0 := q.2.2.2.2.2.2.2.2.2.2.2.2.1
      have kn1_0 := q.2.2.2.2.2.2.2.2.2.2.2.2.2.1
      have km1_0 := q.2.2.2.2.2.2.2.2.2.2.2.2.2.2
      clear q
      have kz1 := h1.size
      (try simp only [World.size_alloc, World.size_setCell, World.size_drew] at kz1)
      have H1 := Lib.hid h1
      clear h1
      go_wp2
      go_ret
      exact ⟨rfl, by (show Rel _ _; repeat (first | with_reducible exact Rel.refl _ | with_reducible refine Rel.alloc ?_ _ | with_reducible refine Rel.setCell ?_ (by first | (simp; done) | (simp; omega)) _ | with_reducible refine Rel.drew ?_ | with_reducible refine Rel.trans ?_ H1.out | with_reducible refine Rel.trans ?_ H0.out))⟩
    · go_enter Tryd.func39, Tryd.ntmps39
      go_wp2_with fail
      refine (N.out _ (Lib.hid (ht.out.rel (by show Rel _ _; (show Rel _ _; repeat (first | with_reducible exact Rel.refl _ | with_reducible refine Rel.alloc ?_ _ | with_reducible refine Rel.setCell ?_ (by first | (simp; done) | (simp; omega)) _ | with_reducible refine Rel.drew ?_ | with_reducible refine Rel.trans ?_ H0.out)))))).mono ?_
      rintro e w1 ⟨rfl, h1⟩
      have q := keep6 h1 (b := w.heap.size) (by first | (simp; done) | (simp; omega) | omega)
      have kc1_0_0 := q.1
      have kc1_0_1 := q.2.1
      have kc1_0_2 := q.2.2.1
      have kc1_0_3 := q.2.2.2.1
      have kc1_0_4 := q.2.2.2.2.1
      have kc1_0_5 := q.2.2.2.2.2.1
      have kf1_0_0 := q.2.2.2.2.2.2.1
      have kf1_0_1 := q.2.2.2.2.2.2.2.1
      have kf1_0_2 := q.2.2.2.2.2.2.2.2.1
      have kf1_0_3 := q.2.2.2.2.2.2.2.2.2.1
      have kf1_0_4 := q.2.2.2.2.2.2.2.2.2.2.1
      have kf1_0_5 := q.2.2.2.2.2.2.2.2.2.2.2.1
      have kl1_0 := q.2.2.2.2.2.2.2.2.2.2.2.2.1
      have kn1_0 := q.2.2.2.2.2.2.2.2.2.2.2.2.2.1
      have km1_0 := q.2.2.2.2.2.2.2.2.2.2.2.2.2.2
      clear q
      have kz1 := h1.size
      (try simp only [World.size_alloc, World.size_setCell, World.size_drew] at kz1)
      have H1 := Lib.hid h1
      clear h1
      go_wp2_with fail
      refine (C.out _ (by show Rel _ _; (show Rel _ _; repeat (first | with_reducible exact Rel.refl _ | with_reducible refine Rel.alloc ?_ _ | with_reducible refine Rel.setCell ?_ (by first | (simp; done) | (simp; omega)) _ | with_reducible refine Rel.drew ?_ | with_reducible refine Rel.trans ?_ H1.out | with_reducible refine Rel.trans ?_ H0.out)))).mono ?_
      rintro e w2 ⟨rfl, h2⟩
      have kz2 := h2.size
      (try simp only [World.size_alloc, World.size_setCell, World.size_drew] at kz2)
      have H2 := Lib.hid h2
      clear h2
      go_wp2
      go_ret
      exact ⟨ret_b2 (by simp), by (show Rel _ _; repeat (first | with_reducible exact Rel.refl _ | with_reducible refine Rel.alloc ?_ _ | with_reducible refine Rel.setCell ?_ (by first | (simp; done) | (simp; omega)) _ | with_reducible refine Rel.drew ?_ | with_reducible refine Rel.trans ?_ H2.out | with_reducible refine Rel.trans ?_ H1.out | with_reducible refine Rel.trans ?_ H0.out))⟩

set_option maxHeartbeats 2000000 in
theorem ValidExpr_any (t : Ex) (x : Value) (w : World) (h : ExKids t w x) (hz : t.size ≤ 1000000000000) (ht : Hid (TabW w)) :
    Calls Tryd.prog 22 #[.agg #[.int .i64 t.op, .int .i64 t.va, .int .i64 t.vb, .int .i64 t.dm, .string t.nm, x]] w (BRes t.valid w) := by
  obtain ⟨xa, xc, rfl⟩ := kids_slice h
  have D := Lib.hid fun w' (r : Rel w w') => Depth_any t _ w' (kids_rel h r) hz
  have S := Lib.hid fun w' (r : Rel w w') => Size_any t _ w' (kids_rel h r) hz
  have F := Lib.hid fun w' (r : Rel w w') => form_all t _ w' (kids_rel h r) (Lib.hid (ht.out.rel r))
  have hv : t.valid = (decide (t.depth ≤ 10) && (decide (t.size ≤ 60) && t.form)) := rfl
  have hd := depth_bd t
  rw [hv]
  unfold IntRes at D S
  unfold BRes at F ⊢
  obtain ⟨dp, hdp⟩ : ∃ dp, t.depth = dp := ⟨_, rfl⟩
  obtain ⟨sz, hsz⟩ : ∃ sz, t.size = sz := ⟨_, rfl⟩
  obtain ⟨fo, hfo⟩ : ∃ fo, t.form = fo := ⟨_, rfl⟩
  rw [hdp] at D hd ⊢
  rw [hsz] at S hd hz ⊢
  rw [hfo] at F ⊢
  clear h hv hdp hsz hfo
  by_cases h1 : dp ≤ 10
  · have b1 : decide (dp ≤ 10) = true := decide_eq_true h1
    rw [b1]
    by_cases h2 : sz ≤ 60
    · have b2 : decide (sz ≤ 60) = true := decide_eq_true h2
      rw [b2]
      go_enter Tryd.func22, Tryd.ntmps22
      go_wp2_with fail
      refine (D.out _ (by show Rel _ _; (show Rel _ _; repeat (first | with_reducible exact Rel.refl _ | with_reducible refine Rel.alloc ?_ _ | with_reducible refine Rel.setCell ?_ (by first | (simp; done) | (simp; omega)) _ | with_reducible refine Rel.drew ?_ | with_reducible refine Rel.trans ?_ H0.out)))).mono ?_
      rintro e w1 ⟨rfl, h1⟩
      have q := keep6 h1 (b := w.heap.size) (by first | (simp; done) | (simp; omega) | omega)
      have kc1_0_0 := q.1
      have kc1_0_1 := q.2.1
      have kc1_0_2 := q.2.2.1
      have kc1_0_3 := q.2.2.2.1
      have kc1_0_4 := q.2.2.2.2.1
      have kc1_0_5 := q.2.2.2.2.2.1
      have kf1_0_0 := q.2.2.2.2.2.2.1
      have kf1_0_1 := q.2.2.2.2.2.2.2.1
      have kf1_0_2 := q.2.2.2.2.2.2.2.2.1
      have kf1_0_3 := q.2.2.2.2.2.2.2.2.2.1
      have kf1_0_4 := q.2.2.2.2.2.2.2.2.2.2.1
      have kf1_0_5 := q.2.2.2.2.2.2.2.2.2.2.2.1
      have kl1_0 := q.2.2.2.2.2.2.2.2.2.2.2.2.1
      have kn1_0 := q.2.2.2.2.2.2.2.2.2.2.2.2.2.1
      have km1_0 := q.2.2.2.2.2.2.2.2.2.2.2.2.2.2
      clear q
      have kz1 := h1.size
      (try simp only [World.size_alloc, World.size_setCell, World.size_drew] at kz1)
      have H1 := Lib.hid h1
      clear h1
      go_wp2_with fail
      refine (S.out _ (by show Rel _ _; (show Rel _ _; repeat (first | with_reducible exact Rel.refl _ | with_reducible refine Rel.alloc ?_ _ | with_reducible refine Rel.setCell ?_ (by first | (simp; done) | (simp; omega)) _ | with_reducible refine Rel.drew ?_ | with_reducible refine Rel.trans ?_ H1.out | with_reducible refine Rel.trans ?_ H0.out)))).mono ?_
      rintro e w2 ⟨rfl, h2⟩
      have q := keep6 h2 (b := w.heap.size) (by first | (simp; done) | (simp; omega) | omega)
      have kc2_0_0 := q.1
      have kc2_0_1 := q.2.1
      have kc2_0_2 := q.2.2.1
      have kc2_0_3 := q.2.2.2.1
      have kc2_0_4 := q.2.2.2.2.1
      have kc2_0_5 := q.2.2.2.2.2.1
      have kf2_0_0 := q.2.2.2.2.2.2.1
      have kf2_0_1 := q.2.2.2.2.2.2.2.1
      have kf2_0_2 := q.2.2.2.2.2.2.2.2.1
      have kf2_0_3 := q.2.2.2.2.2.2.2.2.2.1
      have kf2_0_4 := q.2.2.2.2.2.2.2.2.2.2.1
      have kf2_0_5 := q.2.2.2.2.2.2.2.2.2.2.2.1
      have kl2_0 := q.2.2.2.2.2.2.2.2.2.2.2.2.1
      have kn2_0 := q.2.2.2.2.2.2.2.2.2.2.2.2.2.1
      have km2_0 := q.2.2.2.2.2.2.2.2.2.2.2.2.2.2
      clear q
      have kz2 := h2.size
      (try simp only [World.size_alloc, World.size_setCell, World.size_drew] at kz2)
      have H2 := Lib.hid h2
      clear h2
      go_wp2_with fail
      refine (F.out _ (by show Rel _ _; (show Rel _ _; repeat (first | with_reducible exact Rel.refl _ | with_reducible refine Rel.alloc ?_ _ | with_reducible refine Rel.setCell ?_ (by first | (simp; done) | (simp; omega)) _ | with_reducible refine Rel.drew ?_ | with_reducible refine Rel.trans ?_ H2.out | with_reducible refine Rel.trans ?_ H1.out | with_reducible refine Rel.trans ?_ H0.out)))).mono ?_
      rintro e w3 ⟨rfl, h3⟩
      have q := keep6 h3 (b := w.heap.size) (by first | (simp; done) | (simp; omega) | omega)
      have kc3_0_0 := q.1
      have kc3_0_1 := q.2.1
      have kc3_0_2 := q.2.2.1
      have kc3_0_3 := q.2.2.2.1
      have kc3_0_4 := q.2.2.2.2.1
      have kc3_0_5 := q.2.2.2.2.2.1
      have kf3_0_0 := q.2.2.2.2.2.2.1
      have kf3_0_1 := q.2.2.2.2.2.2.2.1
      have kf3_0_2 := q.2.2.2.2.2.2.2.2.1
      have kf3_0_3 := q.2.2.2.2.2.2.2.2.2.1
      have kf3_0_4 := q.2.2.2.2.2.2.2.2.2.2.1
      have kf3_0_5 := q.2.2.2.2.2.2.2.2.2.2.2.1
      have kl3_0 := q.2.2.2.2.2.2.2.2.2.2.2.2.1
      have kn3_0 := q.2.2.2.2.2.2.2.2.2.2.2.2.2.1
      have km3_0 := q.2.2.2.2.2.2.2.2.2.2.2.2.2.2
      clear q
      have kz3 := h3.size
      (try simp only [World.size_alloc, World.size_setCell, World.size_drew] at kz3)
      have H3 := Lib.hid h3
      clear h3
      go_wp2
      go_ret
      exact ⟨rfl, by (show Rel _ _; repeat (first | with_reducible exact Rel.refl _ | with_reducible refine Rel.alloc ?_ _ | with_reducible refine Rel.setCell ?_ (by first | (simp; done) | (simp; omega)) _ | with_reducible refine Rel.drew ?_ | with_reducible refine Rel.trans ?_ H3.out | with_reducible refine Rel.trans ?_ H2.out | with_reducible refine Rel.trans ?_ H1.out | with_reducible refine Rel.trans ?_ H0.out))⟩
    · have b2 : decide (sz ≤ 60) = false := decide_eq_false h2
      rw [b2]
      go_enter Tryd.func22, Tryd.ntmps22
      go_wp2_with fail
      refine (D.out _ (by show Rel _ _; (show Rel _ _; repeat (first | with_reducible exact Rel.refl _ | with_reducible refine Rel.alloc ?_ _ | with_reducible refine Rel.setCell ?_ (by first | (simp; done) | (simp; omega)) _ | with_reducible refine Rel.drew ?_ | with_reducible refine Rel.trans ?_ H0.out)))).mono ?_
      rintro e w1 ⟨rfl, h1⟩
      have q := keep6 h1 (b := w.heap.size) (by first | (simp; done) | (simp; omega) | omega)
      have kc1_0_0 := q.1
      have kc1_0_1 := q.2.1
      have kc1_0_2 := q.2.2.1
      have kc1_0_3 := q.2.2.2.1
      have kc1_0_4 := q.2.2.2.2.1
      have kc1_0_5 := q.2.2.2.2.2.1
      have kf1_0_0 := q.2.2.2.2.2.2.1
      have kf1_0_1 := q.2.2.2.2.2.2.2.1
      have kf1_0_2 := q.2.2.2.2.2.2.2.2.1
      have kf1_0_3 := q.2.2.2.2.2.2.2.2.2.1
      have kf1_0_4 := q.2.2.2.2.2.2.2.2.2.2.1
      have kf1_0_5 := q.2.2.2.2.2.2.2.2.2.2.2.1
      have kl1_0 := q.2.2.2.2.2.2.2.2.2.2.2.2.1
      have kn1_0 := q.2.2.2.2.2.2.2.2.2.2.2.2.2.1
      have km1_0 := q.2.2.2.2.2.2.2.2.2.2.2.2.2.2
      clear q
      have kz1 := h1.size
      (try simp only [World.size_alloc, World.size_setCell, World.size_drew] at kz1)
      have H1 := Lib.hid h1
      clear h1
      go_wp2_with fail
      refine (S.out _ (by show Rel _ _; (show Rel _ _; repeat (first | with_reducible exact Rel.refl _ | with_reducible refine Rel.alloc ?_ _ | with_reducible refine Rel.setCell ?_ (by first | (simp; done) | (simp; omega)) _ | with_reducible refine Rel.drew ?_ | with_reducible refine Rel.trans ?_ H1.out | with_reducible refine Rel.trans ?_ H0.out)))).mono ?_
      rintro e w2 ⟨rfl, h2⟩
      have q := keep6 h2 (b := w.heap.size) (by first | (simp; done) | (simp; omega) | omega)
      have kc2_0_0 := q.1
      have kc2_0_1 := q.2.1
      have kc2_0_2 := q.2.2.1
      have kc2_0_3 := q.2.2.2.1
      have kc2_0_4 := q.2.2.2.2.1
      have kc2_0_5 := q.2.2.2.2.2.1
      have kf2_0_0 := q.2.2.2.2.2.2.1
      have kf2_0_1 := q.2.2.2.2.2.2.2.1
      have kf2_0_2 := q.2.2.2.2.2.2.2.2.1
      have kf2_0_3 := q.2.2.2.2.2.2.2.2.2.1
      have kf2_0_4 := q.2.2.2.2.2.2.2.2.2.2.1
      have kf2_0_5 := q.2.2.2.2.2.2.2.2.2.2.2.1
      have kl2_0 := q.2.2.2.2.2.2.2.2.2.2.2.2.1
      have kn2_0 := q.2.2.2.2.2.2.2.2.2.2.2.2.2.1
      have km2_0 := q.2.2.2.2.2.2.2.2.2.2.2.2.2.2
      clear q
      have kz2 := h2.size
      (try simp only [World.size_alloc, World.size_setCell, World.size_drew] at kz2)
      have H2 := Lib.hid h2
      clear h2
      go_wp2
      go_ret
      exact ⟨rfl, by (show Rel _ _; repeat (first | with_reducible exact Rel.refl _ | with_reducible refine Rel.alloc ?_ _ | with_reducible refine Rel.setCell ?_ (by first | (simp; done) | (simp; omega)) _ | with_reducible refine Rel.drew ?_ | with_reducible refine Rel.trans ?_ H2.out | with_reducible refine Rel.trans ?_ H1.out | with_reducible refine Rel.trans ?_ H0.out))⟩
  · have b1 : decide (dp ≤ 10) = false := decide_eq_false h1
    rw [b1]
    go_enter Tryd.func22, Tryd.ntmps22
    go_wp2_with fail
    refine (D.out _ (by show Rel _ _; (show Rel _ _; repeat (first | with_reducible exact Rel.refl _ | with_reducible refine Rel.alloc ?_ _ | with_reducible refine Rel.setCell ?_ (by first | (simp; done) | (simp; omega)) _ | with_reducible refine Rel.drew ?_ | with_reducible refine Rel.trans ?_ H0.out)))).mono ?_
    rintro e w1 ⟨rfl, h1⟩
    have q := keep6 h1 (b := w.heap.size) (by first | (simp; done) | (simp; omega) | omega)
    have kc1_0_0 := q.1
    have kc1_0_1 := q.2.1
    have kc1_0_2 := q.2.2.1
    have kc1_0_3 := q.2.2.2.1
    have kc1_0_4 := q.2.2.2.2.1
    have kc1_0_5 := q.2.2.2.2.2.1
    have kf1_0_0 := q.2.2.2.2.2.2.1
    have kf1_0_1 := q.2.2.2.2.2.2.2.1
    have kf1_0_2 := q.2.2.2.2.2.2.2.2.1
    have kf1_0_3 := q.2.2.2.2.2.2.2.2.2.1
    have kf1_0_4 := q.2.2.2.2.2.2.2.2.2.2.1
    have kf1_0_5 := q.2.2.2.2.2.2.2.2.2.2.2.1
    have kl1_0 := q.2.2.2.2.2.2.2.2.2.2.2.2.1
    have kn1_0 := q.2.2.2.2.2.2.2.2.2.2.2.2.2.1
    have km1_0 := q.2.2.2.2.2.2.2.2.2.2.2.2.2.2
    clear q
    have kz1 := h1.size
    (try simp only [World.size_alloc, World.size_setCell, World.size_drew] at kz1)
    have H1 := Lib.hid h1
    clear h1
    go_wp2
    go_ret
    exact ⟨rfl, by (show Rel _ _; repeat (first | with_reducible exact Rel.refl _ | with_reducible refine Rel.alloc ?_ _ | with_reducible refine Rel.setCell ?_ (by first | (simp; done) | (simp; omega)) _ | with_reducible refine Rel.drew ?_ | with_reducible refine Rel.trans ?_ H1.out | with_reducible refine Rel.trans ?_ H0.out))⟩

end Go.Proofs.YtnhmebhmlbofgaaDoor

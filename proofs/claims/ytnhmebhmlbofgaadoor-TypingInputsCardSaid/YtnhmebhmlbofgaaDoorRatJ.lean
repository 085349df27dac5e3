/- Contracts of Make, MakeFraction, Pick and awake. No conditions but those printed. -/
import Derived.Test.YtnhmebhmlbofgaaDoorRatI
namespace Go.Proofs.YtnhmebhmlbofgaaDoor
open Go.RowKit Frac

attribute [local go_sem] calmUpon
set_option linter.unusedSimpArgs false
set_option linter.unusedVariables false

theorem hi_small {n : Nat} (h : n < 18446744073709551616) : hi64 n = 0 := by unfold hi64; omega
theorem lo_small {n : Nat} (h : n < 18446744073709551616) : lo64 n = n := by unfold lo64; omega

theorem lowest_any (s : Bool) (X d : Nat) (w : World) (hX : X < 340282366920938463463374607431768211456) (hd : 0 < d) (hd2 : d < 18446744073709551616) :
    Calls Tryd.prog 50 #[.bool s, .agg #[.int .u64 (hi64 X), .int .u64 (lo64 X)], .int .u64 d] w (FrRes (wN s (X / Nat.gcd X d) (d / Nat.gcd X d)) (wD (X / Nat.gcd X d) (d / Nat.gcd X d)) (wE (X / Nat.gcd X d) (d / Nat.gcd X d)) w) := by
  have hg : 0 < Nat.gcd X d := Nat.gcd_pos_of_pos_right _ hd
  have hgd : Nat.gcd X d ≤ d := Nat.gcd_le_right _ hd
  have hge : Nat.gcd d (X % d) = Nat.gcd X d := by rw [Nat.gcd_comm X d, Nat.gcd_rec d X, Nat.gcd_comm]
  have hm : X % d < d := Nat.mod_lt _ hd
  refine lowest_core s (hi64 X) (lo64 X) d (X % d) (Nat.gcd X d) (hi64 (X / Nat.gcd X d)) (lo64 (X / Nat.gcd X d)) (X % Nat.gcd X d) (d / Nat.gcd X d) (hi64 (X / d)) (lo64 (X / d)) _ _ _ w hg hd2 rfl
    (Lib.hid fun w => rover_any X d w hX hd hd2) (Lib.hid fun w => by have := rgcd_any d (X % d) w hd2 (by omega); rwa [hge] at this) (Lib.hid fun w => rover_any X (Nat.gcd X d) w hX hg (by omega)) ?_
  have hdd : d / Nat.gcd X d < 18446744073709551616 := Nat.lt_of_le_of_lt (Nat.div_le_self _ _) hd2
  have h1 := hi_small hdd
  have h2 := lo_small hdd
  rcases w_ways2 s (X / Nat.gcd X d) (d / Nat.gcd X d) with h | h | ⟨_, _, h, _⟩ | ⟨a, b, c, e, f⟩ | ⟨a, b, c, e, f, g, k, l, m⟩
  · exact .inl h
  · exact .inr (.inl h)
  · rw [h1] at h; simp at h
  · rw [h2] at e; exact .inr (.inr (.inl ⟨a, b, e, f⟩))
  · rw [h2] at e g l; exact .inr (.inr (.inr ⟨a, b, e, f, g, k, l, m⟩))

theorem lowest_small (s : Bool) (X d : Nat) (w : World) (hX : X < 18446744073709551616) (hd : 0 < d) (hd2 : d < 18446744073709551616) :
    Calls Tryd.prog 50 #[.bool s, .agg #[.int .u64 0, .int .u64 X], .int .u64 d] w (FrRes (wN s (X / Nat.gcd X d) (d / Nat.gcd X d)) (wD (X / Nat.gcd X d) (d / Nat.gcd X d)) (wE (X / Nat.gcd X d) (d / Nat.gcd X d)) w) := by
  have h := lowest_any s X d w (by omega) hd hd2
  rw [hi_small hX, lo_small hX] at h
  exact h

set_option maxHeartbeats 1600000 in
theorem rmake_core (n d : Int) (s : Bool) (a b : Nat) (R1 R2 R3 : Int) (w : World) (hd : d ≠ 0)
    (h : (n < 0 ∧ d < 0 ∧ s = false) ∨ (n < 0 ∧ 0 < d ∧ s = true) ∨ (0 ≤ n ∧ d < 0 ∧ s = true) ∨ (0 ≤ n ∧ 0 < d ∧ s = false))
    (S1 : Hid (∀ w, Calls Tryd.prog 51 #[.int .i64 n] w fun e w' => e = .returned (.int .u64 a) ∧ w = w'))
    (S2 : Hid (∀ w, Calls Tryd.prog 51 #[.int .i64 d] w fun e w' => e = .returned (.int .u64 b) ∧ w = w'))
    (hW : Hid (∀ w, Calls Tryd.prog 50 #[.bool s, .agg #[.int .u64 0, .int .u64 a], .int .u64 b] w (FrRes R1 R2 R3 w))) :
    Calls Tryd.prog 30 #[.int .i64 n, .int .i64 d] w (FrRes R1 R2 R3 w) := by
  have z1 : (d == 0) = false := by simp; omega
  unfold FrRes at hW ⊢
  have hN : ∀ x : Int, x < 0 → decide (x < 0) = true := by simp
  have hP : ∀ x : Int, 0 ≤ x → decide (x < 0) = false := by intro x hx; simp; omega
  rcases h with ⟨h1, h2, rfl⟩ | ⟨h1, h2, rfl⟩ | ⟨h1, h2, rfl⟩ | ⟨h1, h2, rfl⟩
  · have z3 := hN n h1; have z4 := hN d h2; clear hN hP
    go_enter Tryd.func30, Tryd.ntmps30
    go_wp2_with fail
    with_reducible refine (S1.out _).mono ?_
    rintro e w1 ⟨rfl, rfl⟩
    go_wp2_with fail
    with_reducible refine (S2.out _).mono ?_
    rintro e w1 ⟨rfl, rfl⟩
    go_wp2_with fail
    with_reducible refine (hW.out _).mono ?_
    rintro e w1 ⟨rfl, h3⟩
    have q := keep2 h3 (b := w.heap.size) (by first | (simp; done) | (simp; omega) | omega)
    have kc3_0_0 := q.1
    have kc3_0_1 := q.2.1
    have kf3_0_0 := q.2.2.1
    have kf3_0_1 := q.2.2.2.1
    have kl3_0 := q.2.2.2.2.1
    have kn3_0 := q.2.2.2.2.2.1
    have km3_0 := q.2.2.2.2.2.2
    clear q
    have kz3 := h3.size
    (try simp only [World.size_alloc, World.size_setCell, World.size_drew] at kz3)
    have H3 := Lib.hid h3
    clear h3
    go_wp2
    refine bodyPost_ret ?_ rfl ⟨rfl, ?_⟩
    · simp [results, Tryd.results30, go_sem, kc3_0_0, kc3_0_1, kl3_0]
    · (show Rel _ _; repeat (first | with_reducible exact Rel.refl _ | with_reducible refine Rel.alloc ?_ _ | with_reducible refine Rel.setCell ?_ (by first | (simp; done) | (simp; omega)) _ | with_reducible refine Rel.drew ?_ | with_reducible refine Rel.trans ?_ H3.out | with_reducible refine Rel.trans ?_ H2.out | with_reducible refine Rel.trans ?_ H1.out | with_reducible refine Rel.trans ?_ H0.out))
  · have z3 := hN n h1; have z4 := hP d (by omega); clear hN hP
    go_enter Tryd.func30, Tryd.ntmps30
    go_wp2_with fail
    with_reducible refine (S1.out _).mono ?_
    rintro e w1 ⟨rfl, rfl⟩
    go_wp2_with fail
    with_reducible refine (S2.out _).mono ?_
    rintro e w1 ⟨rfl, rfl⟩
    go_wp2_with fail
    with_reducible refine (hW.out _).mono ?_
    rintro e w1 ⟨rfl, h3⟩
    have q := keep2 h3 (b := w.heap.size) (by first | (simp; done) | (simp; omega) | omega)
    have kc3_0_0 := q.1
    have kc3_0_1 := q.2.1
    have kf3_0_0 := q.2.2.1
    have kf3_0_1 := q.2.2.2.1
    have kl3_0 := q.2.2.2.2.1
    have kn3_0 := q.2.2.2.2.2.1
    have km3_0 := q.2.2.2.2.2.2
    clear q
    have kz3 := h3.size
    (try simp only [World.size_alloc, World.size_setCell, World.size_drew] at kz3)
    have H3 := Lib.hid h3
    clear h3
    go_wp2
    refine bodyPost_ret ?_ rfl ⟨rfl, ?_⟩
    · simp [results, Tryd.results30, go_sem, kc3_0_0, kc3_0_1, kl3_0]
    · (show Rel _ _; repeat (first | with_reducible exact Rel.refl _ | with_reducible refine Rel.alloc ?_ _ | with_reducible refine Rel.setCell ?_ (by first | (simp; done) | (simp; omega)) _ | with_reducible refine Rel.drew ?_ | with_reducible refine Rel.trans ?_ H3.out | with_reducible refine Rel.trans ?_ H2.out | with_reducible refine Rel.trans ?_ H1.out | with_reducible refine Rel.trans ?_ H0.out))
  · have z3 := hP n h1; have z4 := hN d h2; clear hN hP
    go_enter Tryd.func30, Tryd.ntmps30
    go_wp2_with fail
    with_reducible refine (S1.out _).mono ?_
    rintro e w1 ⟨rfl, rfl⟩
    go_wp2_with fail
    with_reducible refine (S2.out _).mono ?_
    rintro e w1 ⟨rfl, rfl⟩
    go_wp2_with fail
    with_reducible refine (hW.out _).mono ?_
    rintro e w1 ⟨rfl, h3⟩
    have q := keep2 h3 (b := w.heap.size) (by first | (simp; done) | (simp; omega) | omega)
    have kc3_0_0 := q.1
    have kc3_0_1 := q.2.1
    have kf3_0_0 := q.2.2.1
    have kf3_0_1 := q.2.2.2.1
    have kl3_0 := q.2.2.2.2.1
    have kn3_0 := q.2.2.2.2.2.1
    have km3_0 := q.2.2.2.2.2.2
    clear q
    have kz3 := h3.size
    (try simp only [World.size_alloc, World.size_setCell, World.size_drew] at kz3)
    have H3 := Lib.hid h3
    clear h3
    go_wp2
    refine bodyPost_ret ?_ rfl ⟨rfl, ?_⟩
    · simp [results, Tryd.results30, go_sem, kc3_0_0, kc3_0_1, kl3_0]
    · (show Rel _ _; repeat (first | with_reducible exact Rel.refl _ | with_reducible refine Rel.alloc ?_ _ | with_reducible refine Rel.setCell ?_ (by first | (simp; done) | (simp; omega)) _ | with_reducible refine Rel.drew ?_ | with_reducible refine Rel.trans ?_ H3.out | with_reducible refine Rel.trans ?_ H2.out | with_reducible refine Rel.trans ?_ H1.out | with_reducible refine Rel.trans ?_ H0.out))
  · have z3 := hP n h1; have z4 := hP d (by omega); clear hN hP
    go_enter Tryd.func30, Tryd.ntmps30
    go_wp2_with fail
    with_reducible refine (S1.out _).mono ?_
    rintro e w1 ⟨rfl, rfl⟩
    go_wp2_with fail
    with_reducible refine (S2.out _).mono ?_
    rintro e w1 ⟨rfl, rfl⟩
    go_wp2_with fail
    with_reducible refine (hW.out _).mono ?_
    rintro e w1 ⟨rfl, h3⟩
    have q := keep2 h3 (b := w.heap.size) (by first | (simp; done) | (simp; omega) | omega)
    have kc3_0_0 := q.1
    have kc3_0_1 := q.2.1
    have kf3_0_0 := q.2.2.1
    have kf3_0_1 := q.2.2.2.1
    have kl3_0 := q.2.2.2.2.1
    have kn3_0 := q.2.2.2.2.2.1
    have km3_0 := q.2.2.2.2.2.2
    clear q
    have kz3 := h3.size
    (try simp only [World.size_alloc, World.size_setCell, World.size_drew] at kz3)
    have H3 := Lib.hid h3
    clear h3
    go_wp2
    refine bodyPost_ret ?_ rfl ⟨rfl, ?_⟩
    · simp [results, Tryd.results30, go_sem, kc3_0_0, kc3_0_1, kl3_0]
    · (show Rel _ _; repeat (first | with_reducible exact Rel.refl _ | with_reducible refine Rel.alloc ?_ _ | with_reducible refine Rel.setCell ?_ (by first | (simp; done) | (simp; omega)) _ | with_reducible refine Rel.drew ?_ | with_reducible refine Rel.trans ?_ H3.out | with_reducible refine Rel.trans ?_ H2.out | with_reducible refine Rel.trans ?_ H1.out | with_reducible refine Rel.trans ?_ H0.out))

theorem rmake_any (n d : Int) (w : World) (n0 : -9223372036854775808 ≤ n) (n1 : n ≤ 9223372036854775807) (d0 : -9223372036854775808 ≤ d) (d1 : d ≤ 9223372036854775807) :
    Calls Tryd.prog 30 #[.int .i64 n, .int .i64 d] w (FrRes (mkN n d) (mkD n d) (mkE n d) w) := by
  by_cases hd : d = 0
  · subst hd
    have e1 : mkN n 0 = 0 := by simp [mkN]
    have e2 : mkD n 0 = 0 := by simp [mkD]
    have e3 : mkE n 0 = 3 := by simp [mkE]
    rw [e1, e2, e3]
    clear e1 e2 e3
    unfold FrRes
    go_enter Tryd.func30, Tryd.ntmps30
    go_wp2
    refine bodyPost_ret ?_ rfl ⟨rfl, ?_⟩
    · simp [results, Tryd.results30, go_sem]
    exact (Rel.refl _).alloc _
  · have hh : ∃ s : Bool, (n < 0 ∧ d < 0 ∧ s = false) ∨ (n < 0 ∧ 0 < d ∧ s = true) ∨ (0 ≤ n ∧ d < 0 ∧ s = true) ∨ (0 ≤ n ∧ 0 < d ∧ s = false) := by
      by_cases c1 : n < 0 <;> by_cases c2 : d < 0
      · exact ⟨false, .inl ⟨c1, c2, rfl⟩⟩
      · exact ⟨true, .inr (.inl ⟨c1, by omega, rfl⟩)⟩
      · exact ⟨true, .inr (.inr (.inl ⟨by omega, by omega, rfl⟩))⟩
      · exact ⟨false, .inr (.inr (.inr ⟨by omega, by omega, rfl⟩))⟩
    obtain ⟨s, hs⟩ := hh
    obtain ⟨j1, j2, j3⟩ := mk_join n d hd s (by by_cases h0 : n = 0; exact .inl h0; right; cases s <;> simp at hs ⊢ <;> omega)
    rw [← j1, ← j2, ← j3]
    exact rmake_core n d s n.natAbs d.natAbs _ _ _ w hd hs (Lib.hid fun w => rsize_any n w n0 n1) (Lib.hid fun w => rsize_any d w d0 d1) (Lib.hid fun w => lowest_small _ _ _ w (by omega) (by omega) (by omega))

theorem tmod_gt (v n : Int) (h : 0 < n) : -n < Int.tmod v n := by
  have h1 := Int.tmod_lt_of_pos (-v) h
  rw [Int.neg_tmod] at h1; omega
theorem fpick_eq (v n : Int) (h : 1 ≤ n) : Int.tmod (Int.tmod v n + n) n = v % n := by
  have hn := Int.emod_nonneg v (show n ≠ 0 by omega)
  have hl := Int.emod_lt_of_pos v (show 0 < n by omega)
  by_cases hv : 0 ≤ v
  · rw [Int.tmod_eq_emod_of_nonneg hv, Int.tmod_eq_emod_of_nonneg (by omega), Int.add_emod_right, Int.emod_emod]
  · have hb := Int.tmod_lt_of_pos v (show 0 < n by omega)
    have hb2 := tmod_gt v n (by omega)
    rw [Int.tmod_eq_emod_of_nonneg (by omega), Int.add_emod_right]
    have := Int.emod_def (Int.tmod v n) n
    have e : v.tmod n % n = v % n := by
      have h1 := Int.tmod_def v n
      rw [h1, Int.sub_mul_emod_self_left]
    exact e

set_option maxHeartbeats 400000 in
theorem pick_any (v n : Int) (w : World) (v0 : -9223372036854775808 ≤ v) (v1 : v ≤ 9223372036854775807) (h1 : 1 ≤ n) (h2 : n ≤ 4000000000000000000) :
    Calls Tryd.prog 8 #[.int .i64 v, .int .i64 n] w fun e w' => e = .returned (.int .i64 (v % n)) ∧ w = w' := by
  have hb := Int.tmod_lt_of_pos v (show 0 < n by omega)
  have hb2 := tmod_gt v n (by omega)
  have z1 : (n == 0) = false := by simp; omega
  have z2 : ¬ n = 0 := by omega
  rw [← fpick_eq v n h1]
  by_cases hv : 0 ≤ v
  · rw [Int.tmod_eq_emod_of_nonneg hv] at hb hb2 ⊢
    have := Int.emod_nonneg v (show n ≠ 0 by omega)
    rw [Int.tmod_eq_emod_of_nonneg (show 0 ≤ v % n + n by omega)]
    go_enter Tryd.func8, Tryd.ntmps8
    go_wp2
    go_ret
    exact ⟨rfl, rfl⟩
  · have hlt : v < 0 := by omega
    generalize ht : Int.tmod v n = t at *
    have HT := ht
    rw [Int.tmod_eq_emod_of_nonneg (show 0 ≤ t + n by omega)]
    go_enter Tryd.func8, Tryd.ntmps8
    go_wp2
    go_ret
    exact ⟨rfl, rfl⟩

end Go.Proofs.YtnhmebhmlbofgaaDoor

/- Contracts of Add, AddFractions, Sub, SubFractions. No conditions but those printed. -/
import Derived.Test.YtdhfecaoadnogaaRatL
import Derived.Test.YtdhfecaoadnogaaRatM
import Derived.Test.YtdhfecaoadnogaaRatP
namespace Go.Proofs.Ytdhfecaoadnogaa
open Go.RowKit Frac

attribute [local go_sem] calmUpon
set_option linter.unusedSimpArgs false
set_option linter.unusedVariables false

set_option maxHeartbeats 1600000 in
theorem add_bad (a b c d : Int) (w : World) (a0 : -9223372036854775808 ≤ a) (a1 : a ≤ 9223372036854775807) (b0 : -9223372036854775808 ≤ b) (b1 : b ≤ 9223372036854775807) (c0 : -9223372036854775808 ≤ c) (c1 : c ≤ 9223372036854775807) (d0 : -9223372036854775808 ≤ d) (d1 : d ≤ 9223372036854775807) (h : addB a b c d = false) :
    Calls Try.prog 33 #[.agg #[.int .i64 a, .int .i64 b], .agg #[.int .i64 c, .int .i64 d]] w (FrRes 0 0 1 w) := by
  unfold addB at h
  unfold FrRes
  cases v1 : validB a b
  · have V1 := Lib.hid (fun w => valid_is v1 w a0 a1 b0 b1)
    clear v1 h
    go_enter Try.func33, Try.ntmps33
    go_wp2_with fail
    with_reducible refine (V1.out _).mono ?_
    rintro e w1 ⟨rfl, h1⟩
    have q := keep2 h1 (b := w.heap.size) (by first | (simp; done) | (simp; omega) | omega)
    have kc1_0_0 := q.1
    have kc1_0_1 := q.2.1
    have kf1_0_0 := q.2.2.1
    have kf1_0_1 := q.2.2.2.1
    have kl1_0 := q.2.2.2.2.1
    have kn1_0 := q.2.2.2.2.2.1
    have km1_0 := q.2.2.2.2.2.2
    clear q
    have q := keep2 h1 (b := w.heap.size + 1) (by first | (simp; done) | (simp; omega) | omega)
    have kc1_1_0 := q.1
    have kc1_1_1 := q.2.1
    have kf1_1_0 := q.2.2.1
    have kf1_1_1 := q.2.2.2.1
    have kl1_1 := q.2.2.2.2.1
    have kn1_1 := q.2.2.2.2.2.1
    have km1_1 := q.2.2.2.2.2.2
    clear q
    have q := keep2 h1 (b := w.heap.size + 2) (by first | (simp; done) | (simp; omega) | omega)
    have kc1_2_0 := q.1
    have kc1_2_1 := q.2.1
    have kf1_2_0 := q.2.2.1
    have kf1_2_1 := q.2.2.2.1
    have kl1_2 := q.2.2.2.2.1
    have kn1_2 := q.2.2.2.2.2.1
    have km1_2 := q.2.2.2.2.2.2
    clear q
    have kz1 := h1.size
    (try simp only [World.size_alloc, World.size_setCell, World.size_drew] at kz1)
    have H1 := Lib.hid h1
    clear h1
    go_wp2
    refine bodyPost_ret ?_ rfl ⟨rfl, ?_⟩
    · simp [results, Try.results33, go_sem, kc1_2_0, kc1_2_1, kl1_2]
    · (show Rel _ _; repeat (first | with_reducible exact Rel.refl _ | with_reducible refine Rel.alloc ?_ _ | with_reducible refine Rel.setCell ?_ (by first | (simp; done) | (simp; omega)) _ | with_reducible refine Rel.drew ?_ | with_reducible refine Rel.trans ?_ H1.out | with_reducible refine Rel.trans ?_ H0.out))
  · have v2 : validB c d = false := by rw [v1] at h; simpa using h
    have V1 := Lib.hid (fun w => valid_is v1 w a0 a1 b0 b1)
    have V2 := Lib.hid (fun w => valid_is v2 w c0 c1 d0 d1)
    clear v1 v2 h
    go_enter Try.func33, Try.ntmps33
    go_wp2_with fail
    with_reducible refine (V1.out _).mono ?_
    rintro e w1 ⟨rfl, h1⟩
    have q := keep2 h1 (b := w.heap.size) (by first | (simp; done) | (simp; omega) | omega)
    have kc1_0_0 := q.1
    have kc1_0_1 := q.2.1
    have kf1_0_0 := q.2.2.1
    have kf1_0_1 := q.2.2.2.1
    have kl1_0 := q.2.2.2.2.1
    have kn1_0 := q.2.2.2.2.2.1
    have km1_0 := q.2.2.2.2.2.2
    clear q
    have q := keep2 h1 (b := w.heap.size + 1) (by first | (simp; done) | (simp; omega) | omega)
    have kc1_1_0 := q.1
    have kc1_1_1 := q.2.1
    have kf1_1_0 := q.2.2.1
    have kf1_1_1 := q.2.2.2.1
    have kl1_1 := q.2.2.2.2.1
    have kn1_1 := q.2.2.2.2.2.1
    have km1_1 := q.2.2.2.2.2.2
    clear q
    have q := keep2 h1 (b := w.heap.size + 2) (by first | (simp; done) | (simp; omega) | omega)
    have kc1_2_0 := q.1
    have kc1_2_1 := q.2.1
    have kf1_2_0 := q.2.2.1
    have kf1_2_1 := q.2.2.2.1
    have kl1_2 := q.2.2.2.2.1
    have kn1_2 := q.2.2.2.2.2.1
    have km1_2 := q.2.2.2.2.2.2
    clear q
    have kz1 := h1.size
    (try simp only [World.size_alloc, World.size_setCell, World.size_drew] at kz1)
    have H1 := Lib.hid h1
    clear h1
    go_wp2_with fail
    with_reducible refine (V2.out _).mono ?_
    rintro e w2 ⟨rfl, h2⟩
    have q := keep2 h2 (b := w.heap.size) (by first | (simp; done) | (simp; omega) | omega)
    have kc2_0_0 := q.1
    have kc2_0_1 := q.2.1
    have kf2_0_0 := q.2.2.1
    have kf2_0_1 := q.2.2.2.1
    have kl2_0 := q.2.2.2.2.1
    have kn2_0 := q.2.2.2.2.2.1
    have km2_0 := q.2.2.2.2.2.2
    clear q
    have q := keep2 h2 (b := w.heap.size + 1) (by first | (simp; done) | (simp; omega) | omega)
    have kc2_1_0 := q.1
    have kc2_1_1 := q.2.1
    have kf2_1_0 := q.2.2.1
    have kf2_1_1 := q.2.2.2.1
    have kl2_1 := q.2.2.2.2.1
    have kn2_1 := q.2.2.2.2.2.1
    have km2_1 := q.2.2.2.2.2.2
    clear q
    have q := keep2 h2 (b := w.heap.size + 2) (by first | (simp; done) | (simp; omega) | omega)
    have kc2_2_0 := q.1
    have kc2_2_1 := q.2.1
    have kf2_2_0 := q.2.2.1
    have kf2_2_1 := q.2.2.2.1
    have kl2_2 := q.2.2.2.2.1
    have kn2_2 := q.2.2.2.2.2.1
    have km2_2 := q.2.2.2.2.2.2
    clear q
    have kz2 := h2.size
    (try simp only [World.size_alloc, World.size_setCell, World.size_drew] at kz2)
    have H2 := Lib.hid h2
    clear h2
    go_wp2
    refine bodyPost_ret ?_ rfl ⟨rfl, ?_⟩
    · simp [results, Try.results33, go_sem, kc2_2_0, kc2_2_1, kl2_2, kc1_2_0, kc1_2_1, kl1_2]
    · (show Rel _ _; repeat (first | with_reducible exact Rel.refl _ | with_reducible refine Rel.alloc ?_ _ | with_reducible refine Rel.setCell ?_ (by first | (simp; done) | (simp; omega)) _ | with_reducible refine Rel.drew ?_ | with_reducible refine Rel.trans ?_ H2.out | with_reducible refine Rel.trans ?_ H1.out | with_reducible refine Rel.trans ?_ H0.out))

set_option maxHeartbeats 1600000 in
theorem radd_bad (a b c d : Int) (w : World) (a0 : -9223372036854775808 ≤ a) (a1 : a ≤ 9223372036854775807) (b0 : -9223372036854775808 ≤ b) (b1 : b ≤ 9223372036854775807) (c0 : -9223372036854775808 ≤ c) (c1 : c ≤ 9223372036854775807) (d0 : -9223372036854775808 ≤ d) (d1 : d ≤ 9223372036854775807) (h : addB a b c d = false) :
    Calls Try.prog 34 #[.agg #[.int .i64 a, .int .i64 b], .agg #[.int .i64 c, .int .i64 d]] w (FrRes 0 0 1 w) := by
  unfold addB at h
  unfold FrRes
  cases v1 : validB a b
  · have V1 := Lib.hid (fun w => rvalid_is v1 w a0 a1 b0 b1)
    clear v1 h
    go_enter Try.func34, Try.ntmps34
    go_wp2_with fail
    with_reducible refine (V1.out _).mono ?_
    rintro e w1 ⟨rfl, h1⟩
    have q := keep2 h1 (b := w.heap.size) (by first | (simp; done) | (simp; omega) | omega)
    have kc1_0_0 := q.1
    have kc1_0_1 := q.2.1
    have kf1_0_0 := q.2.2.1
    have kf1_0_1 := q.2.2.2.1
    have kl1_0 := q.2.2.2.2.1
    have kn1_0 := q.2.2.2.2.2.1
    have km1_0 := q.2.2.2.2.2.2
    clear q
    have q := keep2 h1 (b := w.heap.size + 1) (by first | (simp; done) | (simp; omega) | omega)
    have kc1_1_0 := q.1
    have kc1_1_1 := q.2.1
    have kf1_1_0 := q.2.2.1
    have kf1_1_1 := q.2.2.2.1
    have kl1_1 := q.2.2.2.2.1
    have kn1_1 := q.2.2.2.2.2.1
    have km1_1 := q.2.2.2.2.2.2
    clear q
    have q := keep2 h1 (b := w.heap.size + 2) (by first | (simp; done) | (simp; omega) | omega)
    have kc1_2_0 := q.1
    have kc1_2_1 := q.2.1
    have kf1_2_0 := q.2.2.1
    have kf1_2_1 := q.2.2.2.1
    have kl1_2 := q.2.2.2.2.1
    have kn1_2 := q.2.2.2.2.2.1
    have km1_2 := q.2.2.2.2.2.2
    clear q
    have kz1 := h1.size
    (try simp only [World.size_alloc, World.size_setCell, World.size_drew] at kz1)
    have H1 := Lib.hid h1
    clear h1
    go_wp2
    refine bodyPost_ret ?_ rfl ⟨rfl, ?_⟩
    · simp [results, Try.results34, go_sem, kc1_2_0, kc1_2_1, kl1_2]
    · (show Rel _ _; repeat (first | with_reducible exact Rel.refl _ | with_reducible refine Rel.alloc ?_ _ | with_reducible refine Rel.setCell ?_ (by first | (simp; done) | (simp; omega)) _ | with_reducible refine Rel.drew ?_ | with_reducible refine Rel.trans ?_ H1.out | with_reducible refine Rel.trans ?_ H0.out))
  · have v2 : validB c d = false := by rw [v1] at h; simpa using h
    have V1 := Lib.hid (fun w => rvalid_is v1 w a0 a1 b0 b1)
    have V2 := Lib.hid (fun w => rvalid_is v2 w c0 c1 d0 d1)
    clear v1 v2 h
    go_enter Try.func34, Try.ntmps34
    go_wp2_with fail
    with_reducible refine (V1.out _).mono ?_
    rintro e w1 ⟨rfl, h1⟩
    have q := keep2 h1 (b := w.heap.size) (by first | (simp; done) | (simp; omega) | omega)
    have kc1_0_0 := q.1
    have kc1_0_1 := q.2.1
    have kf1_0_0 := q.2.2.1
    have kf1_0_1 := q.2.2.2.1
    have kl1_0 := q.2.2.2.2.1
    have kn1_0 := q.2.2.2.2.2.1
    have km1_0 := q.2.2.2.2.2.2
    clear q
    have q := keep2 h1 (b := w.heap.size + 1) (by first | (simp; done) | (simp; omega) | omega)
    have kc1_1_0 := q.1
    have kc1_1_1 := q.2.1
    have kf1_1_0 := q.2.2.1
    have kf1_1_1 := q.2.2.2.1
    have kl1_1 := q.2.2.2.2.1
    have kn1_1 := q.2.2.2.2.2.1
    have km1_1 := q.2.2.2.2.2.2
    clear q
    have q := keep2 h1 (b := w.heap.size + 2) (by first | (simp; done) | (simp; omega) | omega)
    have kc1_2_0 := q.1
    have kc1_2_1 := q.2.1
    have kf1_2_0 := q.2.2.1
    have kf1_2_1 := q.2.2.2.1
    have kl1_2 := q.2.2.2.2.1
    have kn1_2 := q.2.2.2.2.2.1
    have km1_2 := q.2.2.2.2.2.2
    clear q
    have kz1 := h1.size
    (try simp only [World.size_alloc, World.size_setCell, World.size_drew] at kz1)
    have H1 := Lib.hid h1
    clear h1
    go_wp2_with fail
    with_reducible refine (V2.out _).mono ?_
    rintro e w2 ⟨rfl, h2⟩
    have q := keep2 h2 (b := w.heap.size) (by first | (simp; done) | (simp; omega) | omega)
    have kc2_0_0 := q.1
    have kc2_0_1 := q.2.1
    have kf2_0_0 := q.2.2.1
    have kf2_0_1 := q.2.2.2.1
    have kl2_0 := q.2.2.2.2.1
    have kn2_0 := q.2.2.2.2.2.1
    have km2_0 := q.2.2.2.2.2.2
    clear q
    have q := keep2 h2 (b := w.heap.size + 1) (by first | (simp; done) | (simp; omega) | omega)
    have kc2_1_0 := q.1
    have kc2_1_1 := q.2.1
    have kf2_1_0 := q.2.2.1
    have kf2_1_1 := q.2.2.2.1
    have kl2_1 := q.2.2.2.2.1
    have kn2_1 := q.2.2.2.2.2.1
    have km2_1 := q.2.2.2.2.2.2
    clear q
    have q := keep2 h2 (b := w.heap.size + 2) (by first | (simp; done) | (simp; omega) | omega)
    have kc2_2_0 := q.1
    have kc2_2_1 := q.2.1
    have kf2_2_0 := q.2.2.1
    have kf2_2_1 := q.2.2.2.1
    have kl2_2 := q.2.2.2.2.1
    have kn2_2 := q.2.2.2.2.2.1
    have km2_2 := q.2.2.2.2.2.2
    clear q
    have kz2 := h2.size
    (try simp only [World.size_alloc, World.size_setCell, World.size_drew] at kz2)
    have H2 := Lib.hid h2
    clear h2
    go_wp2
    refine bodyPost_ret ?_ rfl ⟨rfl, ?_⟩
    · simp [results, Try.results34, go_sem, kc2_2_0, kc2_2_1, kl2_2, kc1_2_0, kc1_2_1, kl1_2]
    · (show Rel _ _; repeat (first | with_reducible exact Rel.refl _ | with_reducible refine Rel.alloc ?_ _ | with_reducible refine Rel.setCell ?_ (by first | (simp; done) | (simp; omega)) _ | with_reducible refine Rel.drew ?_ | with_reducible refine Rel.trans ?_ H2.out | with_reducible refine Rel.trans ?_ H1.out | with_reducible refine Rel.trans ?_ H0.out))

def AddWay (a c : Int) (x y X : Nat) (s : Bool) : Prop :=
  (decide (a < 0) = false ∧ decide (c < 0) = false ∧ s = false ∧ X = x + y) ∨ (decide (a < 0) = true ∧ decide (c < 0) = true ∧ s = true ∧ X = x + y) ∨
  (decide (a < 0) = true ∧ decide (c < 0) = false ∧ s = false ∧ x < y ∧ X = y - x) ∨ (decide (a < 0) = false ∧ decide (c < 0) = true ∧ s = true ∧ x < y ∧ X = y - x) ∨
  (decide (a < 0) = true ∧ decide (c < 0) = false ∧ s = true ∧ ¬ x < y ∧ X = x - y) ∨ (decide (a < 0) = false ∧ decide (c < 0) = true ∧ s = false ∧ ¬ x < y ∧ X = x - y)

theorem add_way (a c u v : Int) (x y : Nat) (hu : (a < 0 ∧ u = -(x : Int)) ∨ (0 ≤ a ∧ u = x)) (hv : (c < 0 ∧ v = -(y : Int)) ∨ (0 ≤ c ∧ v = y)) :
    ∃ (s : Bool) (X : Nat), AddWay a c x y X s ∧ (if s = true then -(X : Int) else X) = u + v ∧ X ≤ x + y := by
  unfold AddWay
  rcases hu with ⟨h1, h2⟩ | ⟨h1, h2⟩ <;> rcases hv with ⟨k1, k2⟩ | ⟨k1, k2⟩
  · exact ⟨true, x + y, .inr (.inl ⟨by simp; omega, by simp; omega, rfl, rfl⟩), by simp only [if_true]; omega, by omega⟩
  · by_cases h : x < y
    · exact ⟨false, y - x, .inr (.inr (.inl ⟨by simp; omega, by simp; omega, rfl, h, rfl⟩)), by simp only [Bool.false_eq_true, if_false]; omega, by omega⟩
    · exact ⟨true, x - y, .inr (.inr (.inr (.inr (.inl ⟨by simp; omega, by simp; omega, rfl, h, rfl⟩)))), by simp only [if_true]; omega, by omega⟩
  · by_cases h : x < y
    · exact ⟨true, y - x, .inr (.inr (.inr (.inl ⟨by simp; omega, by simp; omega, rfl, h, rfl⟩))), by simp only [if_true]; omega, by omega⟩
    · exact ⟨false, x - y, .inr (.inr (.inr (.inr (.inr ⟨by simp; omega, by simp; omega, rfl, h, rfl⟩)))), by simp only [Bool.false_eq_true, if_false]; omega, by omega⟩
  · exact ⟨false, x + y, .inl ⟨by simp; omega, by simp; omega, rfl, rfl⟩, by simp only [Bool.false_eq_true, if_false]; omega, by omega⟩

theorem mul_abs (a d : Int) (hd : 0 < d) : (a < 0 ∧ a * d = -((a.natAbs * d.natAbs : Nat) : Int)) ∨ (0 ≤ a ∧ a * d = ((a.natAbs * d.natAbs : Nat) : Int)) := by
  have hd' : (d.natAbs : Int) = d := by omega
  rw [Int.natCast_mul, hd']
  by_cases h : a < 0
  · refine .inl ⟨h, ?_⟩
    rw [show ((a.natAbs : Nat) : Int) = -a by omega, Int.neg_mul]; omega
  · refine .inr ⟨by omega, ?_⟩
    rw [show ((a.natAbs : Nat) : Int) = a by omega]

/-- What is needed of a sum of valid fractions. -/
theorem add_data {a b c d : Int} (v1 : validB a b = true) (v2 : validB c d = true) :
    ∃ (s : Bool) (X : Nat), AddWay a c (a.natAbs * d.natAbs) (c.natAbs * b.natAbs) X s ∧ X < 340282366920938463463374607431768211456 ∧ 0 < b.natAbs * d.natAbs ∧ b.natAbs * d.natAbs < 18446744073709551616 ∧
      a.natAbs * d.natAbs + c.natAbs * b.natAbs < 340282366920938463463374607431768211456 ∧
      (wN s (X / Nat.gcd X (b.natAbs * d.natAbs)) (b.natAbs * d.natAbs / Nat.gcd X (b.natAbs * d.natAbs)) = addN a b c d ∧ wD (X / Nat.gcd X (b.natAbs * d.natAbs)) (b.natAbs * d.natAbs / Nat.gcd X (b.natAbs * d.natAbs)) = addD a b c d ∧ wE (X / Nat.gcd X (b.natAbs * d.natAbs)) (b.natAbs * d.natAbs / Nat.gcd X (b.natAbs * d.natAbs)) = addE a b c d) ∧
      (X = 0 → addN a b c d = 0 ∧ addD a b c d = 1 ∧ addE a b c d = 0) := by
  obtain ⟨x1, x2, x3, x4, x5, x6, x7⟩ := valid_nat v1
  obtain ⟨y1, y2, y3, y4, y5, y6, y7⟩ := valid_nat v2
  obtain ⟨s, X, hw, hv, hX⟩ := add_way a c (a * d) (c * b) _ _ (mul_abs a d (by omega)) (mul_abs c b (by omega))
  have m1 : a.natAbs * d.natAbs ≤ 1000000000000000 * 1000000000 := Nat.mul_le_mul (by omega) (by omega)
  have m2 : c.natAbs * b.natAbs ≤ 1000000000000000 * 1000000000 := Nat.mul_le_mul (by omega) (by omega)
  have m3 : b.natAbs * d.natAbs ≤ 1000000000 * 1000000000 := Nat.mul_le_mul (by omega) (by omega)
  have m4 : 0 < b.natAbs * d.natAbs := Nat.mul_pos x6 y6
  obtain ⟨p1, p2, p3⟩ := add_of v1 v2
  have hbd : b * d = ((b.natAbs * d.natAbs : Nat) : Int) := by rw [Int.natCast_mul, ← x5, ← y5]
  have hw2 := w_cut (s := a * d + c * b) (d := b * d) (N := X) (D := b.natAbs * d.natAbs) (neg := s) (by omega) m4 (by rw [hv, hbd])
  rw [← p1, ← p2, ← p3] at hw2
  refine ⟨s, X, hw, by omega, m4, by omega, by omega, hw2, fun h0 => ?_⟩
  subst h0
  rw [Nat.gcd_zero_left, Nat.zero_div, Nat.div_self m4] at hw2
  obtain ⟨r1, r2, r3⟩ := hw2
  rw [← r1, ← r2, ← r3]
  cases s <;> decide

theorem add_any (a b c d : Int) (w : World) (a0 : -9223372036854775808 ≤ a) (a1 : a ≤ 9223372036854775807) (b0 : -9223372036854775808 ≤ b) (b1 : b ≤ 9223372036854775807) (c0 : -9223372036854775808 ≤ c) (c1 : c ≤ 9223372036854775807) (d0 : -9223372036854775808 ≤ d) (d1 : d ≤ 9223372036854775807) :
    Calls Try.prog 33 #[.agg #[.int .i64 a, .int .i64 b], .agg #[.int .i64 c, .int .i64 d]] w (FrRes (addN a b c d) (addD a b c d) (addE a b c d) w) := by
  cases hB : addB a b c d
  · have e1 : addN a b c d = 0 := by unfold addN; rw [hB]; rfl
    have e2 : addD a b c d = 0 := by unfold addD; rw [hB]; rfl
    have e3 : addE a b c d = 1 := by unfold addE; rw [hB]; rfl
    rw [e1, e2, e3]
    exact add_bad a b c d w a0 a1 b0 b1 c0 c1 d0 d1 hB
  · obtain ⟨v1, v2⟩ := (addB_iff a b c d).1 hB
    obtain ⟨x1, x2, x3, x4, x5, x6, x7⟩ := valid_nat v1
    obtain ⟨y1, y2, y3, y4, y5, y6, y7⟩ := valid_nat v2
    obtain ⟨s, X, hw, hX, hE0, hE, hS, ⟨r1, r2, r3⟩, h0⟩ := add_data v1 v2
    have hg : 0 < Nat.gcd X (b.natAbs * d.natAbs) := Nat.gcd_pos_of_pos_right _ hE0
    have hge : Nat.gcd (b.natAbs * d.natAbs) (X % (b.natAbs * d.natAbs)) = Nat.gcd X (b.natAbs * d.natAbs) := by rw [Nat.gcd_comm X _, Nat.gcd_rec (b.natAbs * d.natAbs) X, Nat.gcd_comm]
    have hgl : Nat.gcd X (b.natAbs * d.natAbs) ≤ b.natAbs * d.natAbs := Nat.gcd_le_right _ hE0
    have hml := Nat.mod_lt X hE0
    have LT : ∀ r : Bool, ltB (a.natAbs * d.natAbs) (c.natAbs * b.natAbs) = r → Hid (∀ w, Calls Try.prog 47 #[.agg #[.int .u64 (hi64 (a.natAbs * d.natAbs)), .int .u64 (lo64 (a.natAbs * d.natAbs))], .agg #[.int .u64 (hi64 (c.natAbs * b.natAbs)), .int .u64 (lo64 (c.natAbs * b.natAbs))]] w fun e w' => e = .returned (.bool r) ∧ Rel w w') := by
      intro r hr; subst hr; exact Lib.hid fun w => less_any _ _ w
    refine add_core a b c d s a.natAbs b.natAbs c.natAbs d.natAbs (hi64 (a.natAbs * d.natAbs)) (lo64 (a.natAbs * d.natAbs)) (hi64 (c.natAbs * b.natAbs)) (lo64 (c.natAbs * b.natAbs)) (hi64 X) (lo64 X) (b.natAbs * d.natAbs)
      (b.natAbs * d.natAbs / Nat.gcd X (b.natAbs * d.natAbs)) (Nat.gcd X (b.natAbs * d.natAbs)) (X % (b.natAbs * d.natAbs)) (hi64 (X / Nat.gcd X (b.natAbs * d.natAbs))) (lo64 (X / Nat.gcd X (b.natAbs * d.natAbs))) _ _ _ w
      (by rw [← Int.natCast_mul]; exact u64_nat hE) (Lib.hid fun w => valid_is v1 w a0 a1 b0 b1) (Lib.hid fun w => valid_is v2 w c0 c1 d0 d1) (Lib.hid fun w => size_any a w a0 a1) (Lib.hid fun w => size_any b w b0 b1)
      (Lib.hid fun w => size_any c w c0 c1) (Lib.hid fun w => size_any d w d0 d1) (Lib.hid fun w => times_any _ _ w (by omega) (by omega)) (Lib.hid fun w => times_any _ _ w (by omega) (by omega)) ?_ ?_
    · unfold AddWay at hw
      rcases hw with ⟨k1, k2, k3, k4⟩ | ⟨k1, k2, k3, k4⟩ | ⟨k1, k2, k3, k5, k4⟩ | ⟨k1, k2, k3, k5, k4⟩ | ⟨k1, k2, k3, k5, k4⟩ | ⟨k1, k2, k3, k5, k4⟩
      · exact .inl ⟨k1, k2, k3, Lib.hid fun w => by rw [k4]; exact plus_any _ _ w hS⟩
      · exact .inr (.inl ⟨k1, k2, k3, Lib.hid fun w => by rw [k4]; exact plus_any _ _ w hS⟩)
      · exact .inr (.inr (.inl ⟨k1, k2, k3, LT true (by unfold ltB; simp; omega), Lib.hid fun w => by rw [k4]; exact minus_any _ _ w (by omega) (by omega)⟩))
      · exact .inr (.inr (.inr (.inl ⟨k1, k2, k3, LT true (by unfold ltB; simp; omega), Lib.hid fun w => by rw [k4]; exact minus_any _ _ w (by omega) (by omega)⟩)))
      · exact .inr (.inr (.inr (.inr (.inl ⟨k1, k2, k3, LT false (by unfold ltB; simp; omega), Lib.hid fun w => by rw [k4]; exact minus_any _ _ w (by omega) (by omega)⟩))))
      · exact .inr (.inr (.inr (.inr (.inr ⟨k1, k2, k3, LT false (by unfold ltB; simp; omega), Lib.hid fun w => by rw [k4]; exact minus_any _ _ w (by omega) (by omega)⟩))))
    · by_cases hX0 : X = 0
      · obtain ⟨z1, z2, z3⟩ := h0 hX0
        exact .inl ⟨by rw [hX0]; rfl, by rw [hX0]; rfl, z1, z2, z3⟩
      · refine .inr ⟨?_, hg, rfl, hE, Lib.hid fun w => ?_, Lib.hid fun w => ?_, Lib.hid fun w => over_any X _ w hX hg (by omega), Lib.hid fun w => ?_⟩
        · by_cases hh : hi64 X = 0
          · left
            have : lo64 X ≠ 0 := by have := halves X; omega
            exact ⟨by simp [hh], by simp; omega⟩
          · right; simp; omega
        · have := rem64_any (hi64 X) (lo64 X) (b.natAbs * d.natAbs) w (lo64_lt _) hE0 hE
          rw [halves] at this; exact this
        · have := gcd_any (b.natAbs * d.natAbs) (X % (b.natAbs * d.natAbs)) w hE (by omega)
          rw [hge] at this; exact this
        · have := within_den s (X / Nat.gcd X (b.natAbs * d.natAbs)) (b.natAbs * d.natAbs / Nat.gcd X (b.natAbs * d.natAbs)) w (Nat.lt_of_le_of_lt (Nat.div_le_self _ _) hE)
          rw [r1, r2, r3] at this; exact this

theorem radd_any (a b c d : Int) (w : World) (a0 : -9223372036854775808 ≤ a) (a1 : a ≤ 9223372036854775807) (b0 : -9223372036854775808 ≤ b) (b1 : b ≤ 9223372036854775807) (c0 : -9223372036854775808 ≤ c) (c1 : c ≤ 9223372036854775807) (d0 : -9223372036854775808 ≤ d) (d1 : d ≤ 9223372036854775807) :
    Calls Try.prog 34 #[.agg #[.int .i64 a, .int .i64 b], .agg #[.int .i64 c, .int .i64 d]] w (FrRes (addN a b c d) (addD a b c d) (addE a b c d) w) := by
  cases hB : addB a b c d
  · have e1 : addN a b c d = 0 := by unfold addN; rw [hB]; rfl
    have e2 : addD a b c d = 0 := by unfold addD; rw [hB]; rfl
    have e3 : addE a b c d = 1 := by unfold addE; rw [hB]; rfl
    rw [e1, e2, e3]
    exact radd_bad a b c d w a0 a1 b0 b1 c0 c1 d0 d1 hB
  · obtain ⟨v1, v2⟩ := (addB_iff a b c d).1 hB
    obtain ⟨x1, x2, x3, x4, x5, x6, x7⟩ := valid_nat v1
    obtain ⟨y1, y2, y3, y4, y5, y6, y7⟩ := valid_nat v2
    obtain ⟨s, X, hw, hX, hE0, hE, hS, ⟨r1, r2, r3⟩, h0⟩ := add_data v1 v2
    have V1 := fun w => rvalid_is v1 w a0 a1 b0 b1
    have V2 := fun w => rvalid_is v2 w c0 c1 d0 d1
    have LT : ∀ r : Bool, ltB (a.natAbs * d.natAbs) (c.natAbs * b.natAbs) = r → Hid (∀ w, Calls Try.prog 55 #[.agg #[.int .u64 (hi64 (a.natAbs * d.natAbs)), .int .u64 (lo64 (a.natAbs * d.natAbs))], .agg #[.int .u64 (hi64 (c.natAbs * b.natAbs)), .int .u64 (lo64 (c.natAbs * b.natAbs))]] w fun e w' => e = .returned (.bool r) ∧ Rel w w') := by
      intro r hr; subst hr; exact Lib.hid fun w => rless_any _ _ w
    have := radd_core a c s a.natAbs b.natAbs c.natAbs d.natAbs (hi64 (a.natAbs * d.natAbs)) (lo64 (a.natAbs * d.natAbs)) (hi64 (c.natAbs * b.natAbs)) (lo64 (c.natAbs * b.natAbs)) (hi64 X) (lo64 X) (b.natAbs * d.natAbs) (addN a b c d) (addD a b c d) (addE a b c d) w
      (by rw [← Int.natCast_mul]; exact u64_nat hE) (by omega) (by omega) (Lib.hid (by rw [← x5]; exact V1)) (Lib.hid (by rw [← y5]; exact V2)) (Lib.hid fun w => rsize_any a w a0 a1)
      (Lib.hid fun w => rsize_any c w c0 c1) (Lib.hid fun w => rtimes_any _ _ w (by omega) (by omega)) (Lib.hid fun w => rtimes_any _ _ w (by omega) (by omega)) ?_ (Lib.hid fun w => ?_)
    · rw [← x5, ← y5] at this; exact this
    · unfold AddWay at hw
      rcases hw with ⟨k1, k2, k3, k4⟩ | ⟨k1, k2, k3, k4⟩ | ⟨k1, k2, k3, k5, k4⟩ | ⟨k1, k2, k3, k5, k4⟩ | ⟨k1, k2, k3, k5, k4⟩ | ⟨k1, k2, k3, k5, k4⟩
      · exact .inl ⟨k1, k2, k3, Lib.hid fun w => by rw [k4]; exact rplus_any _ _ w hS⟩
      · exact .inr (.inl ⟨k1, k2, k3, Lib.hid fun w => by rw [k4]; exact rplus_any _ _ w hS⟩)
      · exact .inr (.inr (.inl ⟨k1, k2, k3, LT true (by unfold ltB; simp; omega), Lib.hid fun w => by rw [k4]; exact rminus_any _ _ w (by omega) (by omega)⟩))
      · exact .inr (.inr (.inr (.inl ⟨k1, k2, k3, LT true (by unfold ltB; simp; omega), Lib.hid fun w => by rw [k4]; exact rminus_any _ _ w (by omega) (by omega)⟩)))
      · exact .inr (.inr (.inr (.inr (.inl ⟨k1, k2, k3, LT false (by unfold ltB; simp; omega), Lib.hid fun w => by rw [k4]; exact rminus_any _ _ w (by omega) (by omega)⟩))))
      · exact .inr (.inr (.inr (.inr (.inr ⟨k1, k2, k3, LT false (by unfold ltB; simp; omega), Lib.hid fun w => by rw [k4]; exact rminus_any _ _ w (by omega) (by omega)⟩))))
    · have := lowest_any s X (b.natAbs * d.natAbs) w hX hE0 hE
      rw [r1, r2, r3] at this; exact this

set_option maxHeartbeats 1600000 in
theorem sub_no (a b c d : Int) (w : World)
    (NG : Hid (∀ w, Calls Try.prog 21 #[.agg #[.int .i64 c, .int .i64 d]] w fun e w' => e = .returned (.tuple #[.agg #[.int .i64 0, .int .i64 0], .int .i64 1]) ∧ Rel w w')) :
    Calls Try.prog 35 #[.agg #[.int .i64 a, .int .i64 b], .agg #[.int .i64 c, .int .i64 d]] w (FrRes 0 0 1 w) := by
  unfold FrRes
  go_enter Try.func35, Try.ntmps35
  go_wp2_with fail
  with_reducible refine (NG.out _).mono ?_
  rintro e w1 ⟨rfl, h1⟩
  have q := keep2 h1 (b := w.heap.size) (by first | (simp; done) | (simp; omega) | omega)
  have kc1_0_0 := q.1
  have kc1_0_1 := q.2.1
  have kf1_0_0 := q.2.2.1
  have kf1_0_1 := q.2.2.2.1
  have kl1_0 := q.2.2.2.2.1
  have kn1_0 := q.2.2.2.2.2.1
  have km1_0 := q.2.2.2.2.2.2
  clear q
  have q := keep2 h1 (b := w.heap.size + 1) (by first | (simp; done) | (simp; omega) | omega)
  have kc1_1_0 := q.1
  have kc1_1_1 := q.2.1
  have kf1_1_0 := q.2.2.1
  have kf1_1_1 := q.2.2.2.1
  have kl1_1 := q.2.2.2.2.1
  have kn1_1 := q.2.2.2.2.2.1
  have km1_1 := q.2.2.2.2.2.2
  clear q
  have q := keep2 h1 (b := w.heap.size + 2) (by first | (simp; done) | (simp; omega) | omega)
  have kc1_2_0 := q.1
  have kc1_2_1 := q.2.1
  have kf1_2_0 := q.2.2.1
  have kf1_2_1 := q.2.2.2.1
  have kl1_2 := q.2.2.2.2.1
  have kn1_2 := q.2.2.2.2.2.1
  have km1_2 := q.2.2.2.2.2.2
  clear q
  have kz1 := h1.size
  (try simp only [World.size_alloc, World.size_setCell, World.size_drew] at kz1)
  have H1 := Lib.hid h1
  clear h1
  go_wp2
  refine bodyPost_ret ?_ rfl ⟨rfl, ?_⟩
  · simp [results, Try.results35, go_sem, kc1_2_0, kc1_2_1, kl1_2]
  · (show Rel _ _; repeat (first | with_reducible exact Rel.refl _ | with_reducible refine Rel.alloc ?_ _ | with_reducible refine Rel.setCell ?_ (by first | (simp; done) | (simp; omega)) _ | with_reducible refine Rel.drew ?_ | with_reducible refine Rel.trans ?_ H1.out | with_reducible refine Rel.trans ?_ H0.out))

set_option maxHeartbeats 1600000 in
theorem sub_yes (a b c d m R1 R2 R3 : Int) (w : World)
    (NG : Hid (∀ w, Calls Try.prog 21 #[.agg #[.int .i64 c, .int .i64 d]] w fun e w' => e = .returned (.tuple #[.agg #[.int .i64 m, .int .i64 d], .int .i64 0]) ∧ Rel w w'))
    (AD : Hid (∀ w, Calls Try.prog 33 #[.agg #[.int .i64 a, .int .i64 b], .agg #[.int .i64 m, .int .i64 d]] w fun e w' => e = .returned (.tuple #[.agg #[.int .i64 R1, .int .i64 R2], .int .i64 R3]) ∧ Rel w w')) :
    Calls Try.prog 35 #[.agg #[.int .i64 a, .int .i64 b], .agg #[.int .i64 c, .int .i64 d]] w (FrRes R1 R2 R3 w) := by
  unfold FrRes
  go_enter Try.func35, Try.ntmps35
  go_wp2_with fail
  with_reducible refine (NG.out _).mono ?_
  rintro e w1 ⟨rfl, h1⟩
  have q := keep2 h1 (b := w.heap.size) (by first | (simp; done) | (simp; omega) | omega)
  have kc1_0_0 := q.1
  have kc1_0_1 := q.2.1
  have kf1_0_0 := q.2.2.1
  have kf1_0_1 := q.2.2.2.1
  have kl1_0 := q.2.2.2.2.1
  have kn1_0 := q.2.2.2.2.2.1
  have km1_0 := q.2.2.2.2.2.2
  clear q
  have q := keep2 h1 (b := w.heap.size + 1) (by first | (simp; done) | (simp; omega) | omega)
  have kc1_1_0 := q.1
  have kc1_1_1 := q.2.1
  have kf1_1_0 := q.2.2.1
  have kf1_1_1 := q.2.2.2.1
  have kl1_1 := q.2.2.2.2.1
  have kn1_1 := q.2.2.2.2.2.1
  have km1_1 := q.2.2.2.2.2.2
  clear q
  have q := keep2 h1 (b := w.heap.size + 2) (by first | (simp; done) | (simp; omega) | omega)
  have kc1_2_0 := q.1
  have kc1_2_1 := q.2.1
  have kf1_2_0 := q.2.2.1
  have kf1_2_1 := q.2.2.2.1
  have kl1_2 := q.2.2.2.2.1
  have kn1_2 := q.2.2.2.2.2.1
  have km1_2 := q.2.2.2.2.2.2
  clear q
  have kz1 := h1.size
  (try simp only [World.size_alloc, World.size_setCell, World.size_drew] at kz1)
  have H1 := Lib.hid h1
  clear h1
  go_wp2_with fail
  with_reducible refine (AD.out _).mono ?_
  rintro e w2 ⟨rfl, h2⟩
  have q := keep2 h2 (b := w.heap.size) (by first | (simp; done) | (simp; omega) | omega)
  have kc2_0_0 := q.1
  have kc2_0_1 := q.2.1
  have kf2_0_0 := q.2.2.1
  have kf2_0_1 := q.2.2.2.1
  have kl2_0 := q.2.2.2.2.1
  have kn2_0 := q.2.2.2.2.2.1
  have km2_0 := q.2.2.2.2.2.2
  clear q
  have q := keep2 h2 (b := w.heap.size + 1) (by first | (simp; done) | (simp; omega) | omega)
  have kc2_1_0 := q.1
  have kc2_1_1 := q.2.1
  have kf2_1_0 := q.2.2.1
  have kf2_1_1 := q.2.2.2.1
  have kl2_1 := q.2.2.2.2.1
  have kn2_1 := q.2.2.2.2.2.1
  have km2_1 := q.2.2.2.2.2.2
  clear q
  have q := keep2 h2 (b := w.heap.size + 2) (by first | (simp; done) | (simp; omega) | omega)
  have kc2_2_0 := q.1
  have kc2_2_1 := q.2.1
  have kf2_2_0 := q.2.2.1
  have kf2_2_1 := q.2.2.2.1
  have kl2_2 := q.2.2.2.2.1
  have kn2_2 := q.2.2.2.2.2.1
  have km2_2 := q.2.2.2.2.2.2
  clear q
  have kz2 := h2.size
  (try simp only [World.size_alloc, World.size_setCell, World.size_drew] at kz2)
  have H2 := Lib.hid h2
  clear h2
  go_wp2
  refine bodyPost_ret ?_ rfl ⟨rfl, ?_⟩
  · simp [results, Try.results35, go_sem, kc2_2_0, kc2_2_1, kl2_2, kc1_2_0, kc1_2_1, kl1_2]
  · (show Rel _ _; repeat (first | with_reducible exact Rel.refl _ | with_reducible refine Rel.alloc ?_ _ | with_reducible refine Rel.setCell ?_ (by first | (simp; done) | (simp; omega)) _ | with_reducible refine Rel.drew ?_ | with_reducible refine Rel.trans ?_ H2.out | with_reducible refine Rel.trans ?_ H1.out | with_reducible refine Rel.trans ?_ H0.out))

theorem sub_any (a b c d : Int) (w : World) (a0 : -9223372036854775808 ≤ a) (a1 : a ≤ 9223372036854775807) (b0 : -9223372036854775808 ≤ b) (b1 : b ≤ 9223372036854775807) (c0 : -9223372036854775808 ≤ c) (c1 : c ≤ 9223372036854775807) (d0 : -9223372036854775808 ≤ d) (d1 : d ≤ 9223372036854775807) :
    Calls Try.prog 35 #[.agg #[.int .i64 a, .int .i64 b], .agg #[.int .i64 c, .int .i64 d]] w (FrRes (subN a b c d) (subD a b c d) (subE a b c d) w) := by
  have NG := fun w => neg_any c d w c0 c1 d0 d1
  unfold negN negD negE FrRes at NG
  unfold subN subD subE
  cases hv : validB c d
  · rw [hv] at NG
    simp only [Bool.false_eq_true, if_false] at NG ⊢
    exact sub_no a b c d w (Lib.hid NG)
  · have := (validB_iff c d).1 hv
    rw [hv] at NG
    simp only [if_true] at NG ⊢
    exact sub_yes a b c d (-c) _ _ _ w (Lib.hid NG) (Lib.hid fun w => add_any a b (-c) d w a0 a1 b0 b1 (by omega) (by omega) d0 d1)

set_option maxHeartbeats 1600000 in
theorem rsub_no (a b c d : Int) (w : World)
    (NG : Hid (∀ w, Calls Try.prog 22 #[.agg #[.int .i64 c, .int .i64 d]] w fun e w' => e = .returned (.tuple #[.agg #[.int .i64 0, .int .i64 0], .int .i64 1]) ∧ Rel w w')) :
    Calls Try.prog 36 #[.agg #[.int .i64 a, .int .i64 b], .agg #[.int .i64 c, .int .i64 d]] w (FrRes 0 0 1 w) := by
  unfold FrRes
  go_enter Try.func36, Try.ntmps36
  go_wp2_with fail
  with_reducible refine (NG.out _).mono ?_
  rintro e w1 ⟨rfl, h1⟩
  have q := keep2 h1 (b := w.heap.size) (by first | (simp; done) | (simp; omega) | omega)
  have kc1_0_0 := q.1
  have kc1_0_1 := q.2.1
  have kf1_0_0 := q.2.2.1
  have kf1_0_1 := q.2.2.2.1
  have kl1_0 := q.2.2.2.2.1
  have kn1_0 := q.2.2.2.2.2.1
  have km1_0 := q.2.2.2.2.2.2
  clear q
  have q := keep2 h1 (b := w.heap.size + 1) (by first | (simp; done) | (simp; omega) | omega)
  have kc1_1_0 := q.1
  have kc1_1_1 := q.2.1
  have kf1_1_0 := q.2.2.1
  have kf1_1_1 := q.2.2.2.1
  have kl1_1 := q.2.2.2.2.1
  have kn1_1 := q.2.2.2.2.2.1
  have km1_1 := q.2.2.2.2.2.2
  clear q
  have q := keep2 h1 (b := w.heap.size + 2) (by first | (simp; done) | (simp; omega) | omega)
  have kc1_2_0 := q.1
  have kc1_2_1 := q.2.1
  have kf1_2_0 := q.2.2.1
  have kf1_2_1 := q.2.2.2.1
  have kl1_2 := q.2.2.2.2.1
  have kn1_2 := q.2.2.2.2.2.1
  have km1_2 := q.2.2.2.2.2.2
  clear q
  have kz1 := h1.size
  (try simp only [World.size_alloc, World.size_setCell, World.size_drew] at kz1)
  have H1 := Lib.hid h1
  clear h1
  go_wp2
  refine bodyPost_ret ?_ rfl ⟨rfl, ?_⟩
  · simp [results, Try.results36, go_sem, kc1_2_0, kc1_2_1, kl1_2]
  · (show Rel _ _; repeat (first | with_reducible exact Rel.refl _ | with_reducible refine Rel.alloc ?_ _ | with_reducible refine Rel.setCell ?_ (by first | (simp; done) | (simp; omega)) _ | with_reducible refine Rel.drew ?_ | with_reducible refine Rel.trans ?_ H1.out | with_reducible refine Rel.trans ?_ H0.out))

set_option maxHeartbeats 1600000 in
theorem rsub_yes (a b c d m R1 R2 R3 : Int) (w : World)
    (NG : Hid (∀ w, Calls Try.prog 22 #[.agg #[.int .i64 c, .int .i64 d]] w fun e w' => e = .returned (.tuple #[.agg #[.int .i64 m, .int .i64 d], .int .i64 0]) ∧ Rel w w'))
    (AD : Hid (∀ w, Calls Try.prog 34 #[.agg #[.int .i64 a, .int .i64 b], .agg #[.int .i64 m, .int .i64 d]] w fun e w' => e = .returned (.tuple #[.agg #[.int .i64 R1, .int .i64 R2], .int .i64 R3]) ∧ Rel w w')) :
    Calls Try.prog 36 #[.agg #[.int .i64 a, .int .i64 b], .agg #[.int .i64 c, .int .i64 d]] w (FrRes R1 R2 R3 w) := by
  unfold FrRes
  go_enter Try.func36, Try.ntmps36
  go_wp2_with fail
  with_reducible refine (NG.out _).mono ?_
  rintro e w1 ⟨rfl, h1⟩
  have q := keep2 h1 (b := w.heap.size) (by first | (simp; done) | (simp; omega) | omega)
  have kc1_0_0 := q.1
  have kc1_0_1 := q.2.1
  have kf1_0_0 := q.2.2.1
  have kf1_0_1 := q.2.2.2.1
  have kl1_0 := q.2.2.2.2.1
  have kn1_0 := q.2.2.2.2.2.1
  have km1_0 := q.2.2.2.2.2.2
  clear q
  have q := keep2 h1 (b := w.heap.size + 1) (by first | (simp; done) | (simp; omega) | omega)
  have kc1_1_0 := q.1
  have kc1_1_1 := q.2.1
  have kf1_1_0 := q.2.2.1
  have kf1_1_1 := q.2.2.2.1
  have kl1_1 := q.2.2.2.2.1
  have kn1_1 := q.2.2.2.2.2.1
  have km1_1 := q.2.2.2.2.2.2
  clear q
  have q := keep2 h1 (b := w.heap.size + 2) (by first | (simp; done) | (simp; omega) | omega)
  have kc1_2_0 := q.1
  have kc1_2_1 := q.2.1
  have kf1_2_0 := q.2.2.1
  have kf1_2_1 := q.2.2.2.1
  have kl1_2 := q.2.2.2.2.1
  have kn1_2 := q.2.2.2.2.2.1
  have km1_2 := q.2.2.2.2.2.2
  clear q
  have kz1 := h1.size
  (try simp only [World.size_alloc, World.size_setCell, World.size_drew] at kz1)
  have H1 := Lib.hid h1
  clear h1
  go_wp2_with fail
  with_reducible refine (AD.out _).mono ?_
  rintro e w2 ⟨rfl, h2⟩
  have q := keep2 h2 (b := w.heap.size) (by first | (simp; done) | (simp; omega) | omega)
  have kc2_0_0 := q.1
  have kc2_0_1 := q.2.1
  have kf2_0_0 := q.2.2.1
  have kf2_0_1 := q.2.2.2.1
  have kl2_0 := q.2.2.2.2.1
  have kn2_0 := q.2.2.2.2.2.1
  have km2_0 := q.2.2.2.2.2.2
  clear q
  have q := keep2 h2 (b := w.heap.size + 1) (by first | (simp; done) | (simp; omega) | omega)
  have kc2_1_0 := q.1
  have kc2_1_1 := q.2.1
  have kf2_1_0 := q.2.2.1
  have kf2_1_1 := q.2.2.2.1
  have kl2_1 := q.2.2.2.2.1
  have kn2_1 := q.2.2.2.2.2.1
  have km2_1 := q.2.2.2.2.2.2
  clear q
  have q := keep2 h2 (b := w.heap.size + 2) (by first | (simp; done) | (simp; omega) | omega)
  have kc2_2_0 := q.1
  have kc2_2_1 := q.2.1
  have kf2_2_0 := q.2.2.1
  have kf2_2_1 := q.2.2.2.1
  have kl2_2 := q.2.2.2.2.1
  have kn2_2 := q.2.2.2.2.2.1
  have km2_2 := q.2.2.2.2.2.2
  clear q
  have kz2 := h2.size
  (try simp only [World.size_alloc, World.size_setCell, World.size_drew] at kz2)
  have H2 := Lib.hid h2
  clear h2
  go_wp2
  refine bodyPost_ret ?_ rfl ⟨rfl, ?_⟩
  · simp [results, Try.results36, go_sem, kc2_2_0, kc2_2_1, kl2_2, kc1_2_0, kc1_2_1, kl1_2]
  · (show Rel _ _; repeat (first | with_reducible exact Rel.refl _ | with_reducible refine Rel.alloc ?_ _ | with_reducible refine Rel.setCell ?_ (by first | (simp; done) | (simp; omega)) _ | with_reducible refine Rel.drew ?_ | with_reducible refine Rel.trans ?_ H2.out | with_reducible refine Rel.trans ?_ H1.out | with_reducible refine Rel.trans ?_ H0.out))

theorem rsub_any (a b c d : Int) (w : World) (a0 : -9223372036854775808 ≤ a) (a1 : a ≤ 9223372036854775807) (b0 : -9223372036854775808 ≤ b) (b1 : b ≤ 9223372036854775807) (c0 : -9223372036854775808 ≤ c) (c1 : c ≤ 9223372036854775807) (d0 : -9223372036854775808 ≤ d) (d1 : d ≤ 9223372036854775807) :
    Calls Try.prog 36 #[.agg #[.int .i64 a, .int .i64 b], .agg #[.int .i64 c, .int .i64 d]] w (FrRes (subN a b c d) (subD a b c d) (subE a b c d) w) := by
  have NG := fun w => rneg_any c d w c0 c1 d0 d1
  unfold negN negD negE FrRes at NG
  unfold subN subD subE
  cases hv : validB c d
  · rw [hv] at NG
    simp only [Bool.false_eq_true, if_false] at NG ⊢
    exact rsub_no a b c d w (Lib.hid NG)
  · have := (validB_iff c d).1 hv
    rw [hv] at NG
    simp only [if_true] at NG ⊢
    exact rsub_yes a b c d (-c) _ _ _ w (Lib.hid NG) (Lib.hid fun w => radd_any a b (-c) d w a0 a1 b0 b1 (by omega) (by omega) d0 d1)

end Go.Proofs.Ytdhfecaoadnogaa


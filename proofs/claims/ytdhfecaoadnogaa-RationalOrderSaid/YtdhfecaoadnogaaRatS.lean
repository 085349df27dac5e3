/- Contracts of Compare on both sides, joined. No conditions but those printed. -/
import Derived.Test.YtdhfecaoadnogaaRatR
import Derived.Test.YtdhfecaoadnogaaRatQ
namespace Go.Proofs.Ytdhfecaoadnogaa
open Go.RowKit Frac

attribute [local go_sem] calmUpon
set_option linter.unusedSimpArgs false
set_option linter.unusedVariables false

set_option maxHeartbeats 1600000 in
theorem cmp_bad (a b c d : Int) (w : World) (a0 : -9223372036854775808 ≤ a) (a1 : a ≤ 9223372036854775807) (b0 : -9223372036854775808 ≤ b) (b1 : b ≤ 9223372036854775807) (c0 : -9223372036854775808 ≤ c) (c1 : c ≤ 9223372036854775807) (d0 : -9223372036854775808 ≤ d) (d1 : d ≤ 9223372036854775807) (h : addB a b c d = false) :
    Calls Try.prog 31 #[.agg #[.int .i64 a, .int .i64 b], .agg #[.int .i64 c, .int .i64 d]] w (ZRes 0 1 w) := by
  unfold addB at h
  unfold ZRes
  cases v1 : validB a b
  · have V1 := Lib.hid (fun w => valid_is v1 w a0 a1 b0 b1)
    clear v1 h
    go_enter Try.func31, Try.ntmps31
    go_wp2_with fail
    with_reducible refine (V1.out _).mono ?_
    rintro e w1 ⟨rfl, h1⟩
    have q := keep2 h1 (b := w.heap.size) (by first | (simp; done) | (simp; omega) | omega)
    have kc1_0_0 := q.1
    have kc1_0_1 := q.2.1
    have kf1_0_0 := q.2.2.1
    have kf1_0_1 := q.2.2.2.1
    have kl1_0 := q.2.2.2.2.1
    have kn1_0 := q.2.2.2.2.2.1
    have km1_0 := q.2.2.2.2.2.2
    clear q
    have q := keep2 h1 (b := w.heap.size + 1) (by first | (simp; done) | (simp; omega) | omega)
    have kc1_1_0 := q.1
    have kc1_1_1 := q.2.1
    have kf1_1_0 := q.2.2.1
    have kf1_1_1 := q.2.2.2.1
    have kl1_1 := q.2.2.2.2.1
    have kn1_1 := q.2.2.2.2.2.1
    have km1_1 := q.2.2.2.2.2.2
    clear q
    have kz1 := h1.size
    (try simp only [World.size_alloc, World.size_setCell, World.size_drew] at kz1)
    have H1 := Lib.hid h1
    clear h1
    go_wp2
    go_ret2
    exact ⟨rfl, by (show Rel _ _; repeat (first | with_reducible exact Rel.refl _ | with_reducible refine Rel.alloc ?_ _ | with_reducible refine Rel.setCell ?_ (by first | (simp; done) | (simp; omega)) _ | with_reducible refine Rel.drew ?_ | with_reducible refine Rel.trans ?_ H1.out | with_reducible refine Rel.trans ?_ H0.out))⟩
  · have v2 : validB c d = false := by rw [v1] at h; simpa using h
    have V1 := Lib.hid (fun w => valid_is v1 w a0 a1 b0 b1)
    have V2 := Lib.hid (fun w => valid_is v2 w c0 c1 d0 d1)
    clear v1 v2 h
    go_enter Try.func31, Try.ntmps31
    go_wp2_with fail
    with_reducible refine (V1.out _).mono ?_
    rintro e w1 ⟨rfl, h1⟩
    have q := keep2 h1 (b := w.heap.size) (by first | (simp; done) | (simp; omega) | omega)
    have kc1_0_0 := q.1
    have kc1_0_1 := q.2.1
    have kf1_0_0 := q.2.2.1
    have kf1_0_1 := q.2.2.2.1
    have kl1_0 := q.2.2.2.2.1
    have kn1_0 := q.2.2.2.2.2.1
    have km1_0 := q.2.2.2.2.2.2
    clear q
    have q := keep2 h1 (b := w.heap.size + 1) (by first | (simp; done) | (simp; omega) | omega)
    have kc1_1_0 := q.1
    have kc1_1_1 := q.2.1
    have kf1_1_0 := q.2.2.1
    have kf1_1_1 := q.2.2.2.1
    have kl1_1 := q.2.2.2.2.1
    have kn1_1 := q.2.2.2.2.2.1
    have km1_1 := q.2.2.2.2.2.2
    clear q
    have kz1 := h1.size
    (try simp only [World.size_alloc, World.size_setCell, World.size_drew] at kz1)
    have H1 := Lib.hid h1
    clear h1
    go_wp2_with fail
    with_reducible refine (V2.out _).mono ?_
    rintro e w2 ⟨rfl, h2⟩
    have q := keep2 h2 (b := w.heap.size) (by first | (simp; done) | (simp; omega) | omega)
    have kc2_0_0 := q.1
    have kc2_0_1 := q.2.1
    have kf2_0_0 := q.2.2.1
    have kf2_0_1 := q.2.2.2.1
    have kl2_0 := q.2.2.2.2.1
    have kn2_0 := q.2.2.2.2.2.1
    have km2_0 := q.2.2.2.2.2.2
    clear q
    have q := keep2 h2 (b := w.heap.size + 1) (by first | (simp; done) | (simp; omega) | omega)
    have kc2_1_0 := q.1
    have kc2_1_1 := q.2.1
    have kf2_1_0 := q.2.2.1
    have kf2_1_1 := q.2.2.2.1
    have kl2_1 := q.2.2.2.2.1
    have kn2_1 := q.2.2.2.2.2.1
    have km2_1 := q.2.2.2.2.2.2
    clear q
    have kz2 := h2.size
    (try simp only [World.size_alloc, World.size_setCell, World.size_drew] at kz2)
    have H2 := Lib.hid h2
    clear h2
    go_wp2
    go_ret2
    exact ⟨rfl, by (show Rel _ _; repeat (first | with_reducible exact Rel.refl _ | with_reducible refine Rel.alloc ?_ _ | with_reducible refine Rel.setCell ?_ (by first | (simp; done) | (simp; omega)) _ | with_reducible refine Rel.drew ?_ | with_reducible refine Rel.trans ?_ H2.out | with_reducible refine Rel.trans ?_ H1.out | with_reducible refine Rel.trans ?_ H0.out))⟩

set_option maxHeartbeats 1600000 in
theorem rcmp_bad (a b c d : Int) (w : World) (a0 : -9223372036854775808 ≤ a) (a1 : a ≤ 9223372036854775807) (b0 : -9223372036854775808 ≤ b) (b1 : b ≤ 9223372036854775807) (c0 : -9223372036854775808 ≤ c) (c1 : c ≤ 9223372036854775807) (d0 : -9223372036854775808 ≤ d) (d1 : d ≤ 9223372036854775807) (h : addB a b c d = false) :
    Calls Try.prog 32 #[.agg #[.int .i64 a, .int .i64 b], .agg #[.int .i64 c, .int .i64 d]] w (ZRes 0 1 w) := by
  unfold addB at h
  unfold ZRes
  cases v1 : validB a b
  · have V1 := Lib.hid (fun w => rvalid_is v1 w a0 a1 b0 b1)
    clear v1 h
    go_enter Try.func32, Try.ntmps32
    go_wp2_with fail
    with_reducible refine (V1.out _).mono ?_
    rintro e w1 ⟨rfl, h1⟩
    have q := keep2 h1 (b := w.heap.size) (by first | (simp; done) | (simp; omega) | omega)
    have kc1_0_0 := q.1
    have kc1_0_1 := q.2.1
    have kf1_0_0 := q.2.2.1
    have kf1_0_1 := q.2.2.2.1
    have kl1_0 := q.2.2.2.2.1
    have kn1_0 := q.2.2.2.2.2.1
    have km1_0 := q.2.2.2.2.2.2
    clear q
    have q := keep2 h1 (b := w.heap.size + 1) (by first | (simp; done) | (simp; omega) | omega)
    have kc1_1_0 := q.1
    have kc1_1_1 := q.2.1
    have kf1_1_0 := q.2.2.1
    have kf1_1_1 := q.2.2.2.1
    have kl1_1 := q.2.2.2.2.1
    have kn1_1 := q.2.2.2.2.2.1
    have km1_1 := q.2.2.2.2.2.2
    clear q
    have kz1 := h1.size
    (try simp only [World.size_alloc, World.size_setCell, World.size_drew] at kz1)
    have H1 := Lib.hid h1
    clear h1
    go_wp2
    go_ret2
    exact ⟨rfl, by (show Rel _ _; repeat (first | with_reducible exact Rel.refl _ | with_reducible refine Rel.alloc ?_ _ | with_reducible refine Rel.setCell ?_ (by first | (simp; done) | (simp; omega)) _ | with_reducible refine Rel.drew ?_ | with_reducible refine Rel.trans ?_ H1.out | with_reducible refine Rel.trans ?_ H0.out))⟩
  · have v2 : validB c d = false := by rw [v1] at h; simpa using h
    have V1 := Lib.hid (fun w => rvalid_is v1 w a0 a1 b0 b1)
    have V2 := Lib.hid (fun w => rvalid_is v2 w c0 c1 d0 d1)
    clear v1 v2 h
    go_enter Try.func32, Try.ntmps32
    go_wp2_with fail
    with_reducible refine (V1.out _).mono ?_
    rintro e w1 ⟨rfl, h1⟩
    have q := keep2 h1 (b := w.heap.size) (by first | (simp; done) | (simp; omega) | omega)
    have kc1_0_0 := q.1
    have kc1_0_1 := q.2.1
    have kf1_0_0 := q.2.2.1
    have kf1_0_1 := q.2.2.2.1
    have kl1_0 := q.2.2.2.2.1
    have kn1_0 := q.2.2.2.2.2.1
    have km1_0 := q.2.2.2.2.2.2
    clear q
    have q := keep2 h1 (b := w.heap.size + 1) (by first | (simp; done) | (simp; omega) | omega)
    have kc1_1_0 := q.1
    have kc1_1_1 := q.2.1
    have kf1_1_0 := q.2.2.1
    have kf1_1_1 := q.2.2.2.1
    have kl1_1 := q.2.2.2.2.1
    have kn1_1 := q.2.2.2.2.2.1
    have km1_1 := q.2.2.2.2.2.2
    clear q
    have kz1 := h1.size
    (try simp only [World.size_alloc, World.size_setCell, World.size_drew] at kz1)
    have H1 := Lib.hid h1
    clear h1
    go_wp2_with fail
    with_reducible refine (V2.out _).mono ?_
    rintro e w2 ⟨rfl, h2⟩
    have q := keep2 h2 (b := w.heap.size) (by first | (simp; done) | (simp; omega) | omega)
    have kc2_0_0 := q.1
    have kc2_0_1 := q.2.1
    have kf2_0_0 := q.2.2.1
    have kf2_0_1 := q.2.2.2.1
    have kl2_0 := q.2.2.2.2.1
    have kn2_0 := q.2.2.2.2.2.1
    have km2_0 := q.2.2.2.2.2.2
    clear q
    have q := keep2 h2 (b := w.heap.size + 1) (by first | (simp; done) | (simp; omega) | omega)
    have kc2_1_0 := q.1
    have kc2_1_1 := q.2.1
    have kf2_1_0 := q.2.2.1
    have kf2_1_1 := q.2.2.2.1
    have kl2_1 := q.2.2.2.2.1
    have kn2_1 := q.2.2.2.2.2.1
    have km2_1 := q.2.2.2.2.2.2
    clear q
    have kz2 := h2.size
    (try simp only [World.size_alloc, World.size_setCell, World.size_drew] at kz2)
    have H2 := Lib.hid h2
    clear h2
    go_wp2
    go_ret2
    exact ⟨rfl, by (show Rel _ _; repeat (first | with_reducible exact Rel.refl _ | with_reducible refine Rel.alloc ?_ _ | with_reducible refine Rel.setCell ?_ (by first | (simp; done) | (simp; omega)) _ | with_reducible refine Rel.drew ?_ | with_reducible refine Rel.trans ?_ H2.out | with_reducible refine Rel.trans ?_ H1.out | with_reducible refine Rel.trans ?_ H0.out))⟩

set_option maxHeartbeats 1600000 in
theorem rcmp_yes (a b c d R : Int) (w : World)
    (V1 : Hid (∀ w, Calls Try.prog 19 #[.agg #[.int .i64 a, .int .i64 b]] w fun e w' => e = .returned (.bool true) ∧ Rel w w'))
    (V2 : Hid (∀ w, Calls Try.prog 19 #[.agg #[.int .i64 c, .int .i64 d]] w fun e w' => e = .returned (.bool true) ∧ Rel w w'))
    (OR : Hid (∀ w, Calls Try.prog 48 #[.agg #[.int .i64 a, .int .i64 b], .agg #[.int .i64 c, .int .i64 d]] w fun e w' => e = .returned (.int .i64 R) ∧ Rel w w')) :
    Calls Try.prog 32 #[.agg #[.int .i64 a, .int .i64 b], .agg #[.int .i64 c, .int .i64 d]] w (ZRes R 0 w) := by
  unfold ZRes
  go_enter Try.func32, Try.ntmps32
  go_wp2_with fail
  with_reducible refine (V1.out _).mono ?_
  rintro e w1 ⟨rfl, h1⟩
  have q := keep2 h1 (b := w.heap.size) (by first | (simp; done) | (simp; omega) | omega)
  have kc1_0_0 := q.1
  have kc1_0_1 := q.2.1
  have kf1_0_0 := q.2.2.1
  have kf1_0_1 := q.2.2.2.1
  have kl1_0 := q.2.2.2.2.1
  have kn1_0 := q.2.2.2.2.2.1
  have km1_0 := q.2.2.2.2.2.2
  clear q
  have q := keep2 h1 (b := w.heap.size + 1) (by first | (simp; done) | (simp; omega) | omega)
  have kc1_1_0 := q.1
  have kc1_1_1 := q.2.1
  have kf1_1_0 := q.2.2.1
  have kf1_1_1 := q.2.2.2.1
  have kl1_1 := q.2.2.2.2.1
  have kn1_1 := q.2.2.2.2.2.1
  have km1_1 := q.2.2.2.2.2.2
  clear q
  have kz1 := h1.size
  (try simp only [World.size_alloc, World.size_setCell, World.size_drew] at kz1)
  have H1 := Lib.hid h1
  clear h1
  go_wp2_with fail
  with_reducible refine (V2.out _).mono ?_
  rintro e w2 ⟨rfl, h2⟩
  have q := keep2 h2 (b := w.heap.size) (by first | (simp; done) | (simp; omega) | omega)
  have kc2_0_0 := q.1
  have kc2_0_1 := q.2.1
  have kf2_0_0 := q.2.2.1
  have kf2_0_1 := q.2.2.2.1
  have kl2_0 := q.2.2.2.2.1
  have kn2_0 := q.2.2.2.2.2.1
  have km2_0 := q.2.2.2.2.2.2
  clear q
  have q := keep2 h2 (b := w.heap.size + 1) (by first | (simp; done) | (simp; omega) | omega)
  have kc2_1_0 := q.1
  have kc2_1_1 := q.2.1
  have kf2_1_0 := q.2.2.1
  have kf2_1_1 := q.2.2.2.1
  have kl2_1 := q.2.2.2.2.1
  have kn2_1 := q.2.2.2.2.2.1
  have km2_1 := q.2.2.2.2.2.2
  clear q
  have kz2 := h2.size
  (try simp only [World.size_alloc, World.size_setCell, World.size_drew] at kz2)
  have H2 := Lib.hid h2
  clear h2
  go_wp2_with fail
  with_reducible refine (OR.out _).mono ?_
  rintro e w3 ⟨rfl, h3⟩
  have kz3 := h3.size
  (try simp only [World.size_alloc, World.size_setCell, World.size_drew] at kz3)
  have H3 := Lib.hid h3
  clear h3
  go_wp2
  go_ret2
  exact ⟨rfl, by (show Rel _ _; repeat (first | with_reducible exact Rel.refl _ | with_reducible refine Rel.alloc ?_ _ | with_reducible refine Rel.setCell ?_ (by first | (simp; done) | (simp; omega)) _ | with_reducible refine Rel.drew ?_ | with_reducible refine Rel.trans ?_ H3.out | with_reducible refine Rel.trans ?_ H2.out | with_reducible refine Rel.trans ?_ H1.out | with_reducible refine Rel.trans ?_ H0.out))⟩

set_option maxHeartbeats 800000 in
theorem order_same (a b : Int) (w : World) :
    Calls Try.prog 48 #[.agg #[.int .i64 a, .int .i64 b], .agg #[.int .i64 a, .int .i64 b]] w fun e w' => e = .returned (.int .i64 0) ∧ Rel w w' := by
  go_enter Try.func48, Try.ntmps48
  go_wp2
  go_ret
  exact ⟨rfl, by (show Rel _ _; repeat (first | with_reducible exact Rel.refl _ | with_reducible refine Rel.alloc ?_ _ | with_reducible refine Rel.setCell ?_ (by first | (simp; done) | (simp; omega)) _ | with_reducible refine Rel.drew ?_ | with_reducible refine Rel.trans ?_ H0.out))⟩

set_option maxHeartbeats 800000 in
theorem order_signs (a b c d R : Int) (w : World) (h : (decide (a < 0) = true ∧ decide (c < 0) = false ∧ R = -1 ∧ ¬ a = c ∧ (a == c) = false) ∨ (decide (a < 0) = false ∧ decide (c < 0) = true ∧ R = 1 ∧ ¬ a = c ∧ (a == c) = false)) :
    Calls Try.prog 48 #[.agg #[.int .i64 a, .int .i64 b], .agg #[.int .i64 c, .int .i64 d]] w fun e w' => e = .returned (.int .i64 R) ∧ Rel w w' := by
  rcases h with ⟨z1, z2, rfl, n1, n2⟩ | ⟨z1, z2, rfl, n1, n2⟩
  all_goals
    go_enter Try.func48, Try.ntmps48
    go_wp2
    go_ret
    exact ⟨rfl, by (show Rel _ _; repeat (first | with_reducible exact Rel.refl _ | with_reducible refine Rel.alloc ?_ _ | with_reducible refine Rel.setCell ?_ (by first | (simp; done) | (simp; omega)) _ | with_reducible refine Rel.drew ?_ | with_reducible refine Rel.trans ?_ H0.out))⟩

theorem cmp_any (a b c d : Int) (w : World) (a0 : -9223372036854775808 ≤ a) (a1 : a ≤ 9223372036854775807) (b0 : -9223372036854775808 ≤ b) (b1 : b ≤ 9223372036854775807) (c0 : -9223372036854775808 ≤ c) (c1 : c ≤ 9223372036854775807) (d0 : -9223372036854775808 ≤ d) (d1 : d ≤ 9223372036854775807) :
    Calls Try.prog 31 #[.agg #[.int .i64 a, .int .i64 b], .agg #[.int .i64 c, .int .i64 d]] w (ZRes (cmpV a b c d) (cmpE a b c d) w) := by
  cases hB : addB a b c d
  · rw [(cmp_no hB).1, (cmp_no hB).2]
    exact cmp_bad a b c d w a0 a1 b0 b1 c0 c1 d0 d1 hB
  · obtain ⟨v1, v2⟩ := (addB_iff a b c d).1 hB
    obtain ⟨x1, x2, x3, x4, x5, x6, x7⟩ := valid_nat v1
    obtain ⟨y1, y2, y3, y4, y5, y6, y7⟩ := valid_nat v2
    rw [(cmp_of v1 v2).1, (cmp_of v1 v2).2]
    have ha := mul_abs a d (by omega)
    have hc := mul_abs c b (by omega)
    have m1 : a.natAbs * d.natAbs ≤ 1000000000000000 * 1000000000 := Nat.mul_le_mul (by omega) (by omega)
    have m2 : c.natAbs * b.natAbs ≤ 1000000000000000 * 1000000000 := Nat.mul_le_mul (by omega) (by omega)
    have V1 := Lib.hid fun w => valid_is v1 w a0 a1 b0 b1
    have V2 := Lib.hid fun w => valid_is v2 w c0 c1 d0 d1
    have S1 := Lib.hid fun w => size_any a w a0 a1
    have S2 := Lib.hid fun w => size_any b w b0 b1
    have S3 := Lib.hid fun w => size_any c w c0 c1
    have S4 := Lib.hid fun w => size_any d w d0 d1
    have pa : a < 0 → 0 < a.natAbs * d.natAbs := fun h => Nat.mul_pos (by omega) y6
    have pc : c < 0 → 0 < c.natAbs * b.natAbs := fun h => Nat.mul_pos (by omega) x6
    have T1 := Lib.hid fun w => times_any a.natAbs d.natAbs w (by omega) (by omega)
    have T2 := Lib.hid fun w => times_any c.natAbs b.natAbs w (by omega) (by omega)
    generalize a.natAbs * d.natAbs = x at *
    generalize c.natAbs * b.natAbs = y at *
    have L := fun x y (r : Bool) (h : ltB x y = r) => Lib.hid (p := ∀ w, Calls Try.prog 47 #[.agg #[.int .u64 (hi64 x), .int .u64 (lo64 x)], .agg #[.int .u64 (hi64 y), .int .u64 (lo64 y)]] w fun e w' => e = .returned (.bool r) ∧ Rel w w') (by subst h; exact fun w => less_any x y w)
    generalize a * d = u at *
    generalize c * b = v at *
    rcases ha with ⟨h1, h2⟩ | ⟨h1, h2⟩ <;> rcases hc with ⟨k1, k2⟩ | ⟨k1, k2⟩
    · refine cmp_core a b c d _ (ltB y x) (ltB x y) _ _ _ _ _ _ _ _ w V1 V2 S1 S2 S3 S4 T1 T2 (.inl ⟨by simp; omega, by simp; omega, L y x _ rfl, L x y _ rfl⟩) ?_
      unfold ltB
      by_cases e1 : y < x
      · exact .inl ⟨by simp [e1], by rw [if_pos (by omega)]⟩
      · by_cases e2 : x < y
        · exact .inr (.inl ⟨by simp; omega, by simp [e2], by rw [if_neg (by omega), if_neg (by omega)]⟩)
        · exact .inr (.inr ⟨by simp; omega, by simp; omega, by rw [if_neg (by omega), if_pos (by omega)]⟩)
    · have := pa h1
      exact cmp_signs a b c d _ w (.inl ⟨by simp; omega, by simp; omega, by rw [if_pos (by omega)]⟩) V1 V2
    · have := pc k1
      exact cmp_signs a b c d _ w (.inr ⟨by simp; omega, by simp; omega, by rw [if_neg (by omega), if_neg (by omega)]⟩) V1 V2
    · refine cmp_core a b c d _ (ltB x y) (ltB y x) _ _ _ _ _ _ _ _ w V1 V2 S1 S2 S3 S4 T1 T2 (.inr ⟨by simp; omega, by simp; omega, L x y _ rfl, L y x _ rfl⟩) ?_
      unfold ltB
      by_cases e1 : x < y
      · exact .inl ⟨by simp [e1], by rw [if_pos (by omega)]⟩
      · by_cases e2 : y < x
        · exact .inr (.inl ⟨by simp; omega, by simp [e2], by rw [if_neg (by omega), if_neg (by omega)]⟩)
        · exact .inr (.inr ⟨by simp; omega, by simp; omega, by rw [if_neg (by omega), if_pos (by omega)]⟩)

theorem rcmp_any (a b c d : Int) (w : World) (a0 : -9223372036854775808 ≤ a) (a1 : a ≤ 9223372036854775807) (b0 : -9223372036854775808 ≤ b) (b1 : b ≤ 9223372036854775807) (c0 : -9223372036854775808 ≤ c) (c1 : c ≤ 9223372036854775807) (d0 : -9223372036854775808 ≤ d) (d1 : d ≤ 9223372036854775807) :
    Calls Try.prog 32 #[.agg #[.int .i64 a, .int .i64 b], .agg #[.int .i64 c, .int .i64 d]] w (ZRes (cmpV a b c d) (cmpE a b c d) w) := by
  cases hB : addB a b c d
  · rw [(cmp_no hB).1, (cmp_no hB).2]
    exact rcmp_bad a b c d w a0 a1 b0 b1 c0 c1 d0 d1 hB
  · obtain ⟨v1, v2⟩ := (addB_iff a b c d).1 hB
    obtain ⟨x1, x2, x3, x4, x5, x6, x7⟩ := valid_nat v1
    obtain ⟨y1, y2, y3, y4, y5, y6, y7⟩ := valid_nat v2
    rw [(cmp_of v1 v2).2]
    refine rcmp_yes a b c d _ w (Lib.hid fun w => rvalid_is v1 w a0 a1 b0 b1) (Lib.hid fun w => rvalid_is v2 w c0 c1 d0 d1) (Lib.hid fun w => ?_)
    have hz := cmp_zero v1 v2
    rw [(cmp_of v1 v2).1] at hz ⊢
    by_cases he : a = c ∧ b = d
    · obtain ⟨rfl, rfl⟩ := he
      rw [hz.2 ⟨rfl, rfl⟩]
      exact order_same a b w
    · have hn : ¬ a * d = c * b := fun e => he (hz.1 (by rw [if_neg (by omega), if_pos e]))
      rw [if_neg hn]
      have ha := mul_abs a d (by omega)
      have hc := mul_abs c b (by omega)
      have m1 : a.natAbs * d.natAbs ≤ 1000000000000000 * 1000000000 := Nat.mul_le_mul (by omega) (by omega)
      have m2 : c.natAbs * b.natAbs ≤ 1000000000000000 * 1000000000 := Nat.mul_le_mul (by omega) (by omega)
      have pa : a < 0 → 0 < a.natAbs * d.natAbs := fun h => Nat.mul_pos (by omega) y6
      have pc : c < 0 → 0 < c.natAbs * b.natAbs := fun h => Nat.mul_pos (by omega) x6
      have S1 := Lib.hid fun w => rsize_any a w a0 a1
      have S3 := Lib.hid fun w => rsize_any c w c0 c1
      have T1 := Lib.hid fun w => rtimes_any a.natAbs d.natAbs w (by omega) (by omega)
      have T2 := Lib.hid fun w => rtimes_any c.natAbs b.natAbs w (by omega) (by omega)
      have hne : (¬ a = c ∧ (a == c) = false) ∨ (a = c ∧ ¬ (b.natAbs : Int) = d.natAbs ∧ ((b.natAbs : Int) == d.natAbs) = false) := by
        by_cases e : a = c
        · exact .inr ⟨e, by omega, by simp; omega⟩
        · exact .inl ⟨e, by simp [e]⟩
      have core := fun R h => order_core a c R (ltB (a.natAbs * d.natAbs) (c.natAbs * b.natAbs)) a.natAbs b.natAbs c.natAbs d.natAbs _ _ _ _ w (by omega) (by omega) hne S1 S3 T1 T2 (Lib.hid fun w => rless_any _ _ w) h
      rw [← x5, ← y5] at core
      clear hne S1 S3 T1 T2 hz
      generalize a.natAbs * d.natAbs = x at *
      generalize c.natAbs * b.natAbs = y at *
      generalize a * d = u at *
      generalize c * b = v at *
      rcases ha with ⟨h1, h2⟩ | ⟨h1, h2⟩ <;> rcases hc with ⟨k1, k2⟩ | ⟨k1, k2⟩
      · refine core _ (.inl ⟨by simp; omega, by simp; omega, ?_⟩)
        unfold ltB
        by_cases e1 : x < y
        · rw [if_neg (by omega)]; simp [e1]
        · rw [if_pos (by omega)]; simp [e1]
      · have := pa h1
        exact order_signs a b c d _ w (.inl ⟨by simp; omega, by simp; omega, by rw [if_pos (by omega)], by omega, by simp; omega⟩)
      · have := pc k1
        exact order_signs a b c d _ w (.inr ⟨by simp; omega, by simp; omega, by rw [if_neg (by omega)], by omega, by simp; omega⟩)
      · refine core _ (.inr ⟨by simp; omega, by simp; omega, ?_⟩)
        unfold ltB
        by_cases e1 : x < y
        · rw [if_pos (by omega)]; simp [e1]
        · rw [if_neg (by omega)]; simp [e1]

end Go.Proofs.Ytdhfecaoadnogaa


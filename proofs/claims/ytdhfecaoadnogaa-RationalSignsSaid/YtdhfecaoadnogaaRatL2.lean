/- Walks of the laws RationalSigns and RationalFloors. No conditions but those printed. -/
import Derived.Test.YtdhfecaoadnogaaRatN
namespace Go.Proofs.Ytdhfecaoadnogaa
open Go.RowKit Frac

attribute [local go_sem] calmUpon
set_option linter.unusedSimpArgs false
set_option linter.unusedVariables false

theorem eq_ways (E : Int) : ((E == 0) = true ∧ (E != 0) = false) ∨ ((E == 0) = false ∧ (E != 0) = true) := by by_cases h : E = 0; left; simp [h]; right; simp [h]

theorem neg_bd (n d : Int) (n0 : -9223372036854775808 ≤ n) (n1 : n ≤ 9223372036854775807) (d0 : -9223372036854775808 ≤ d) (d1 : d ≤ 9223372036854775807) : (-1000000000000000 ≤ negN n d ∧ negN n d ≤ 1000000000000000) ∧ (0 ≤ negD n d ∧ negD n d ≤ 1000000000) := by
  unfold negN negD
  cases hv : validB n d
  · simp
  · have := (validB_iff n d).1 hv; simp only [if_true]; omega

theorem neg_neg (n d : Int) (h : negE n d = 0) : negN (negN n d) (negD n d) = n ∧ negD (negN n d) (negD n d) = d ∧ negE (negN n d) (negD n d) = 0 := by
  unfold negE at h
  cases hv : validB n d
  · rw [hv] at h; simp at h
  · have hv2 := valid_neg hv
    have e1 : negN n d = -n := by unfold negN; rw [hv]; rfl
    have e2 : negD n d = d := by unfold negD; rw [hv]; rfl
    rw [e1, e2]
    unfold negN negD negE
    rw [hv2]
    simp




structure SignsF (n d A B E C D F : Int) : Prop where
  N1 : ∀ w, Calls Try.prog 21 #[.agg #[.int .i64 n, .int .i64 d]] w fun e w' => e = .returned (.tuple #[.agg #[.int .i64 A, .int .i64 B], .int .i64 E]) ∧ Rel w w'
  N2 : ∀ w, Calls Try.prog 22 #[.agg #[.int .i64 n, .int .i64 d]] w fun e w' => e = .returned (.tuple #[.agg #[.int .i64 A, .int .i64 B], .int .i64 E]) ∧ Rel w w'
  N3 : ∀ w, Calls Try.prog 21 #[.agg #[.int .i64 A, .int .i64 B]] w fun e w' => e = .returned (.tuple #[.agg #[.int .i64 C, .int .i64 D], .int .i64 F]) ∧ Rel w w'
  HE : ((E == 0) = true ∧ (E != 0) = false ∧ C = n ∧ D = d ∧ F = 0) ∨ ((E == 0) = false ∧ (E != 0) = true)

theorem signs_facts (n d : Int) (h : (-9223372036854775808 ≤ n ∧ n ≤ 9223372036854775807) ∧ (-9223372036854775808 ≤ d ∧ d ≤ 9223372036854775807)) : ∃ A B E C D F, SignsF n d A B E C D F := by
  obtain ⟨⟨h1, h2⟩, h3, h4⟩ := h
  have := neg_bd n d h1 h2 h3 h4
  refine ⟨negN n d, negD n d, negE n d, _, _, _, fun w => neg_any n d w h1 h2 h3 h4, fun w => rneg_any n d w h1 h2 h3 h4, fun w => neg_any _ _ w (by omega) (by omega) (by omega) (by omega), ?_⟩
  rcases eq_ways (negE n d) with ⟨z0, z1⟩ | h
  · have h0 : negE n d = 0 := by simpa using z0
    exact .inl ⟨z0, z1, neg_neg n d h0⟩
  · exact .inr h

set_option maxHeartbeats 3200000 in
theorem walk_RationalSigns (a0a a0b : Int) (a1 : Int) (b0a : -9223372036854775808 ≤ a0a) (c0a : a0a ≤ 9223372036854775807) (b0b : -9223372036854775808 ≤ a0b) (c0b : a0b ≤ 9223372036854775807) (b1 : -9223372036854775808 ≤ a1) (c1 : a1 ≤ 9223372036854775807) (w : World) :
    Calls Try.prog 4 #[.agg #[.int .i64 a0a, .int .i64 a0b], .int .i64 a1] w fun e w' => e = .returned (.bool true) ∧ Below w.heap.size w w' := by
  have OF := Lib.hid (fun w => of_any a0a a0b a1 w b0a c0a b0b c0b b1 c1)
  clear b0a c0a b0b c0b b1 c1
  go_enter Try.func4, Try.ntmps4
  go_wp2_with fail
  with_reducible refine (OF.out _).mono ?_
  intro e w1 hof
  obtain ⟨n, d, hb, rfl, h1⟩ := hof
  obtain ⟨A, B, E, C, D, F, hs⟩ := signs_facts n d hb
  have HS := Lib.hid hs
  clear hs hb
  have q := keep2 h1 (b := w.heap.size) (by first | (simp; done) | (simp; omega) | omega)
  have kc1_0_0 := q.1
  have kc1_0_1 := q.2.1
  have kf1_0_0 := q.2.2.1
  have kf1_0_1 := q.2.2.2.1
  have kl1_0 := q.2.2.2.2.1
  have kn1_0 := q.2.2.2.2.2.1
  have km1_0 := q.2.2.2.2.2.2
  clear q
  have kz1 := h1.size
  (try simp only [World.size_alloc, World.size_setCell, World.size_drew] at kz1)
  have H1 := Lib.hid h1
  clear h1
  go_wp2_with fail
  with_reducible refine (HS.out.N1 _).mono ?_
  rintro e w2 ⟨rfl, h2⟩
  have q := keep2 h2 (b := w.heap.size) (by first | (simp; done) | (simp; omega) | omega)
  have kc2_0_0 := q.1
  have kc2_0_1 := q.2.1
  have kf2_0_0 := q.2.2.1
  have kf2_0_1 := q.2.2.2.1
  have kl2_0 := q.2.2.2.2.1
  have kn2_0 := q.2.2.2.2.2.1
  have km2_0 := q.2.2.2.2.2.2
  clear q
  have kz2 := h2.size
  (try simp only [World.size_alloc, World.size_setCell, World.size_drew] at kz2)
  have H2 := Lib.hid h2
  clear h2
  go_wp2_with fail
  with_reducible refine (HS.out.N2 _).mono ?_
  rintro e w3 ⟨rfl, h3⟩
  have q := keep2 h3 (b := w.heap.size) (by first | (simp; done) | (simp; omega) | omega)
  have kc3_0_0 := q.1
  have kc3_0_1 := q.2.1
  have kf3_0_0 := q.2.2.1
  have kf3_0_1 := q.2.2.2.1
  have kl3_0 := q.2.2.2.2.1
  have kn3_0 := q.2.2.2.2.2.1
  have km3_0 := q.2.2.2.2.2.2
  clear q
  have q := keep2 h3 (b := w2.heap.size) (by first | (simp; done) | (simp; omega) | omega)
  have kc3_1_0 := q.1
  have kc3_1_1 := q.2.1
  have kf3_1_0 := q.2.2.1
  have kf3_1_1 := q.2.2.2.1
  have kl3_1 := q.2.2.2.2.1
  have kn3_1 := q.2.2.2.2.2.1
  have km3_1 := q.2.2.2.2.2.2
  clear q
  have kz3 := h3.size
  (try simp only [World.size_alloc, World.size_setCell, World.size_drew] at kz3)
  have H3 := Lib.hid h3
  clear h3
  go_wp2_with fail
  with_reducible refine (HS.out.N3 _).mono ?_
  rintro e w4 ⟨rfl, h4⟩
  have q := keep2 h4 (b := w.heap.size) (by first | (simp; done) | (simp; omega) | omega)
  have kc4_0_0 := q.1
  have kc4_0_1 := q.2.1
  have kf4_0_0 := q.2.2.1
  have kf4_0_1 := q.2.2.2.1
  have kl4_0 := q.2.2.2.2.1
  have kn4_0 := q.2.2.2.2.2.1
  have km4_0 := q.2.2.2.2.2.2
  clear q
  have q := keep2 h4 (b := w2.heap.size) (by first | (simp; done) | (simp; omega) | omega)
  have kc4_1_0 := q.1
  have kc4_1_1 := q.2.1
  have kf4_1_0 := q.2.2.1
  have kf4_1_1 := q.2.2.2.1
  have kl4_1 := q.2.2.2.2.1
  have kn4_1 := q.2.2.2.2.2.1
  have km4_1 := q.2.2.2.2.2.2
  clear q
  have q := keep2 h4 (b := w3.heap.size) (by first | (simp; done) | (simp; omega) | omega)
  have kc4_2_0 := q.1
  have kc4_2_1 := q.2.1
  have kf4_2_0 := q.2.2.1
  have kf4_2_1 := q.2.2.2.1
  have kl4_2 := q.2.2.2.2.1
  have kn4_2 := q.2.2.2.2.2.1
  have km4_2 := q.2.2.2.2.2.2
  clear q
  have kz4 := h4.size
  (try simp only [World.size_alloc, World.size_setCell, World.size_drew] at kz4)
  have H4 := Lib.hid h4
  clear h4
  go_wp2_with fail
  with_reducible refine (awake_any _).mono ?_
  rintro e w5 ⟨rfl, h5⟩
  have q := keep2 h5 (b := w.heap.size) (by first | (simp; done) | (simp; omega) | omega)
  have kc5_0_0 := q.1
  have kc5_0_1 := q.2.1
  have kf5_0_0 := q.2.2.1
  have kf5_0_1 := q.2.2.2.1
  have kl5_0 := q.2.2.2.2.1
  have kn5_0 := q.2.2.2.2.2.1
  have km5_0 := q.2.2.2.2.2.2
  clear q
  have q := keep2 h5 (b := w2.heap.size) (by first | (simp; done) | (simp; omega) | omega)
  have kc5_1_0 := q.1
  have kc5_1_1 := q.2.1
  have kf5_1_0 := q.2.2.1
  have kf5_1_1 := q.2.2.2.1
  have kl5_1 := q.2.2.2.2.1
  have kn5_1 := q.2.2.2.2.2.1
  have km5_1 := q.2.2.2.2.2.2
  clear q
  have q := keep2 h5 (b := w3.heap.size) (by first | (simp; done) | (simp; omega) | omega)
  have kc5_2_0 := q.1
  have kc5_2_1 := q.2.1
  have kf5_2_0 := q.2.2.1
  have kf5_2_1 := q.2.2.2.1
  have kl5_2 := q.2.2.2.2.1
  have kn5_2 := q.2.2.2.2.2.1
  have km5_2 := q.2.2.2.2.2.2
  clear q
  have q := keep2 h5 (b := w4.heap.size) (by first | (simp; done) | (simp; omega) | omega)
  have kc5_3_0 := q.1
  have kc5_3_1 := q.2.1
  have kf5_3_0 := q.2.2.1
  have kf5_3_1 := q.2.2.2.1
  have kl5_3 := q.2.2.2.2.1
  have kn5_3 := q.2.2.2.2.2.1
  have km5_3 := q.2.2.2.2.2.2
  clear q
  have kz5 := h5.size
  (try simp only [World.size_alloc, World.size_setCell, World.size_drew] at kz5)
  have H5 := Lib.hid h5
  clear h5
  rcases HS.out.HE with ⟨z0, z1, rfl, rfl, rfl⟩ | ⟨z0, z1⟩
  all_goals
    go_wp2
    go_ret
    exact ⟨rfl, by (show Rel _ _; repeat (first | with_reducible exact Rel.refl _ | with_reducible refine Rel.alloc ?_ _ | with_reducible refine Rel.setCell ?_ (by first | (simp; done) | (simp; omega)) _ | with_reducible refine Rel.drew ?_ | with_reducible refine Rel.trans ?_ H5.out | with_reducible refine Rel.trans ?_ H4.out | with_reducible refine Rel.trans ?_ H3.out | with_reducible refine Rel.trans ?_ H2.out | with_reducible refine Rel.trans ?_ H1.out | with_reducible refine Rel.trans ?_ H0.out))⟩

structure FloorsF (n d A B C : Int) : Prop where
  N1 : ∀ w, Calls Try.prog 23 #[.agg #[.int .i64 n, .int .i64 d]] w fun e w' => e = .returned (.tuple #[.int .i64 A, .int .i64 C]) ∧ Rel w w'
  N2 : ∀ w, Calls Try.prog 24 #[.agg #[.int .i64 n, .int .i64 d]] w fun e w' => e = .returned (.tuple #[.int .i64 A, .int .i64 C]) ∧ Rel w w'
  N3 : ∀ w, Calls Try.prog 25 #[.agg #[.int .i64 n, .int .i64 d]] w fun e w' => e = .returned (.tuple #[.int .i64 B, .int .i64 C]) ∧ Rel w w'
  N4 : ∀ w, Calls Try.prog 26 #[.agg #[.int .i64 n, .int .i64 d]] w fun e w' => e = .returned (.tuple #[.int .i64 B, .int .i64 C]) ∧ Rel w w'

theorem floors_facts (n d : Int) (h : (-9223372036854775808 ≤ n ∧ n ≤ 9223372036854775807) ∧ (-9223372036854775808 ≤ d ∧ d ≤ 9223372036854775807)) : ∃ A B C, FloorsF n d A B C := by
  obtain ⟨⟨h1, h2⟩, h3, h4⟩ := h
  exact ⟨_, _, _, fun w => floor_any n d w h1 h2 h3 h4, fun w => rfloor_any n d w h1 h2 h3 h4, fun w => ceil_any n d w h1 h2 h3 h4, fun w => rceil_any n d w h1 h2 h3 h4⟩

set_option maxHeartbeats 3200000 in
theorem walk_RationalFloors (a0a a0b : Int) (a1 : Int) (b0a : -9223372036854775808 ≤ a0a) (c0a : a0a ≤ 9223372036854775807) (b0b : -9223372036854775808 ≤ a0b) (c0b : a0b ≤ 9223372036854775807) (b1 : -9223372036854775808 ≤ a1) (c1 : a1 ≤ 9223372036854775807) (w : World) :
    Calls Try.prog 5 #[.agg #[.int .i64 a0a, .int .i64 a0b], .int .i64 a1] w fun e w' => e = .returned (.bool true) ∧ Below w.heap.size w w' := by
  have OF := Lib.hid (fun w => of_any a0a a0b a1 w b0a c0a b0b c0b b1 c1)
  clear b0a c0a b0b c0b b1 c1
  go_enter Try.func5, Try.ntmps5
  go_wp2_with fail
  with_reducible refine (OF.out _).mono ?_
  intro e w1 hof
  obtain ⟨n, d, hb, rfl, h1⟩ := hof
  obtain ⟨A, B, C, hs⟩ := floors_facts n d hb
  have HS := Lib.hid hs
  clear hs hb
  have q := keep2 h1 (b := w.heap.size) (by first | (simp; done) | (simp; omega) | omega)
  have kc1_0_0 := q.1
  have kc1_0_1 := q.2.1
  have kf1_0_0 := q.2.2.1
  have kf1_0_1 := q.2.2.2.1
  have kl1_0 := q.2.2.2.2.1
  have kn1_0 := q.2.2.2.2.2.1
  have km1_0 := q.2.2.2.2.2.2
  clear q
  have kz1 := h1.size
  (try simp only [World.size_alloc, World.size_setCell, World.size_drew] at kz1)
  have H1 := Lib.hid h1
  clear h1
  go_wp2_with fail
  with_reducible refine (HS.out.N1 _).mono ?_
  rintro e w2 ⟨rfl, h2⟩
  have q := keep2 h2 (b := w.heap.size) (by first | (simp; done) | (simp; omega) | omega)
  have kc2_0_0 := q.1
  have kc2_0_1 := q.2.1
  have kf2_0_0 := q.2.2.1
  have kf2_0_1 := q.2.2.2.1
  have kl2_0 := q.2.2.2.2.1
  have kn2_0 := q.2.2.2.2.2.1
  have km2_0 := q.2.2.2.2.2.2
  clear q
  have kz2 := h2.size
  (try simp only [World.size_alloc, World.size_setCell, World.size_drew] at kz2)
  have H2 := Lib.hid h2
  clear h2
  go_wp2_with fail
  with_reducible refine (HS.out.N2 _).mono ?_
  rintro e w3 ⟨rfl, h3⟩
  have q := keep2 h3 (b := w.heap.size) (by first | (simp; done) | (simp; omega) | omega)
  have kc3_0_0 := q.1
  have kc3_0_1 := q.2.1
  have kf3_0_0 := q.2.2.1
  have kf3_0_1 := q.2.2.2.1
  have kl3_0 := q.2.2.2.2.1
  have kn3_0 := q.2.2.2.2.2.1
  have km3_0 := q.2.2.2.2.2.2
  clear q
  have kz3 := h3.size
  (try simp only [World.size_alloc, World.size_setCell, World.size_drew] at kz3)
  have H3 := Lib.hid h3
  clear h3
  go_wp2_with fail
  with_reducible refine (HS.out.N3 _).mono ?_
  rintro e w4 ⟨rfl, h4⟩
  have q := keep2 h4 (b := w.heap.size) (by first | (simp; done) | (simp; omega) | omega)
  have kc4_0_0 := q.1
  have kc4_0_1 := q.2.1
  have kf4_0_0 := q.2.2.1
  have kf4_0_1 := q.2.2.2.1
  have kl4_0 := q.2.2.2.2.1
  have kn4_0 := q.2.2.2.2.2.1
  have km4_0 := q.2.2.2.2.2.2
  clear q
  have kz4 := h4.size
  (try simp only [World.size_alloc, World.size_setCell, World.size_drew] at kz4)
  have H4 := Lib.hid h4
  clear h4
  go_wp2_with fail
  with_reducible refine (HS.out.N4 _).mono ?_
  rintro e w5 ⟨rfl, h5⟩
  have q := keep2 h5 (b := w.heap.size) (by first | (simp; done) | (simp; omega) | omega)
  have kc5_0_0 := q.1
  have kc5_0_1 := q.2.1
  have kf5_0_0 := q.2.2.1
  have kf5_0_1 := q.2.2.2.1
  have kl5_0 := q.2.2.2.2.1
  have kn5_0 := q.2.2.2.2.2.1
  have km5_0 := q.2.2.2.2.2.2
  clear q
  have kz5 := h5.size
  (try simp only [World.size_alloc, World.size_setCell, World.size_drew] at kz5)
  have H5 := Lib.hid h5
  clear h5
  go_wp2_with fail
  with_reducible refine (awake_any _).mono ?_
  rintro e w6 ⟨rfl, h6⟩
  have q := keep2 h6 (b := w.heap.size) (by first | (simp; done) | (simp; omega) | omega)
  have kc6_0_0 := q.1
  have kc6_0_1 := q.2.1
  have kf6_0_0 := q.2.2.1
  have kf6_0_1 := q.2.2.2.1
  have kl6_0 := q.2.2.2.2.1
  have kn6_0 := q.2.2.2.2.2.1
  have km6_0 := q.2.2.2.2.2.2
  clear q
  have kz6 := h6.size
  (try simp only [World.size_alloc, World.size_setCell, World.size_drew] at kz6)
  have H6 := Lib.hid h6
  clear h6
  go_wp2
  go_ret
  exact ⟨rfl, by (show Rel _ _; repeat (first | with_reducible exact Rel.refl _ | with_reducible refine Rel.alloc ?_ _ | with_reducible refine Rel.setCell ?_ (by first | (simp; done) | (simp; omega)) _ | with_reducible refine Rel.drew ?_ | with_reducible refine Rel.trans ?_ H6.out | with_reducible refine Rel.trans ?_ H5.out | with_reducible refine Rel.trans ?_ H4.out | with_reducible refine Rel.trans ?_ H3.out | with_reducible refine Rel.trans ?_ H2.out | with_reducible refine Rel.trans ?_ H1.out | with_reducible refine Rel.trans ?_ H0.out))⟩

end Go.Proofs.Ytdhfecaoadnogaa

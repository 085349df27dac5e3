/- Walk of the law RationalBetween. No conditions but those printed. -/
import Derived.Test.YtdhfecaoadnogaaRatO
import Derived.Test.YtdhfecaoadnogaaRatS
namespace Go.Proofs.Ytdhfecaoadnogaa
open Go.RowKit Frac

attribute [local go_sem] calmUpon
set_option linter.unusedSimpArgs false
set_option linter.unusedVariables false

structure BetwF (n d X Z E : Int) : Prop where
  N1 : ∀ w, Calls Try.prog 23 #[.agg #[.int .i64 n, .int .i64 d]] w fun e w' => e = .returned (.tuple #[.int .i64 X, .int .i64 E]) ∧ Rel w w'
  N2 : ∀ w, Calls Try.prog 25 #[.agg #[.int .i64 n, .int .i64 d]] w fun e w' => e = .returned (.tuple #[.int .i64 Z, .int .i64 E]) ∧ Rel w w'
  hw : ((E != 0) = true ∧ X = 0 ∧ Z = 0) ∨ ((E != 0) = false ∧ ∃ c1 c2 e1 e2 : Int,
    (∀ w, Calls Try.prog 15 #[.int .i64 X, .int .i64 1] w fun e w' => e = .returned (.tuple #[.agg #[.int .i64 X, .int .i64 1], .int .i64 0]) ∧ Rel w w') ∧
    (∀ w, Calls Try.prog 15 #[.int .i64 Z, .int .i64 1] w fun e w' => e = .returned (.tuple #[.agg #[.int .i64 Z, .int .i64 1], .int .i64 0]) ∧ Rel w w') ∧
    (∀ w, Calls Try.prog 31 #[.agg #[.int .i64 X, .int .i64 1], .agg #[.int .i64 n, .int .i64 d]] w fun e w' => e = .returned (.tuple #[.int .i64 c1, .int .i64 e1]) ∧ Rel w w') ∧
    (∀ w, Calls Try.prog 31 #[.agg #[.int .i64 n, .int .i64 d], .agg #[.int .i64 Z, .int .i64 1]] w fun e w' => e = .returned (.tuple #[.int .i64 c2, .int .i64 e2]) ∧ Rel w w') ∧
    c1 ≤ 0 ∧ c2 ≤ 0 ∧ -1000000000000000 ≤ X ∧ X ≤ 1000000000000000 ∧ -1000000000000000 ≤ Z ∧ Z ≤ 1000000000000000 ∧ ((Z - X = 1 ∧ 1 < d ∧ (Z - X == 1) = true ∧ decide (1 < d) = true) ∨ (Z = X ∧ d = 1)))

theorem betw_facts (n d : Int) (h : (-9223372036854775808 ≤ n ∧ n ≤ 9223372036854775807) ∧ (-9223372036854775808 ≤ d ∧ d ≤ 9223372036854775807)) : ∃ X Z E, BetwF n d X Z E := by
  obtain ⟨⟨h1, h2⟩, h3, h4⟩ := h
  refine ⟨flN n d, clN n d, flE n d, fun w => floor_any n d w h1 h2 h3 h4, fun w => ceil_any n d w h1 h2 h3 h4, ?_⟩
  cases hv : validB n d
  · left
    unfold flE flN clN
    rw [hv]
    exact ⟨rfl, rfl, rfl⟩
  · right
    obtain ⟨f1, f2, f3, f4, f5, f6, f7⟩ := floor_facts hv
    obtain ⟨p1, p2, p3, p4⟩ := mk_one f3 f4
    obtain ⟨q1, q2, q3, q4⟩ := mk_one f5 f6
    have hE : flE n d = 0 := by unfold flE; rw [hv]; rfl
    rw [hE]
    generalize flN n d = X at *
    generalize clN n d = Z at *
    refine ⟨rfl, cmpV X 1 n d, cmpV n d Z 1, _, _, fun w => ?_, fun w => ?_, fun w => cmp_any X 1 n d w (by omega) (by omega) (by omega) (by omega) h1 h2 h3 h4, fun w => cmp_any n d Z 1 w h1 h2 h3 h4 (by omega) (by omega) (by omega) (by omega), ?_, ?_, f3, f4, f5, f6, ?_⟩
    · have := make_any X 1 w (by omega) (by omega) (by omega) (by omega)
      rw [p1, p2, p3] at this; exact this
    · have := make_any Z 1 w (by omega) (by omega) (by omega) (by omega)
      rw [q1, q2, q3] at this; exact this
    · exact (cmp_le p4 hv).1.2 (by omega)
    · exact (cmp_le hv q4).1.2 (by omega)
    · rcases f7 with ⟨g1, g2⟩ | ⟨g1, g2⟩
      · exact .inl ⟨g1, g2, by simp [g1], by simp [g2]⟩
      · exact .inr ⟨g1, g2⟩

set_option maxHeartbeats 6400000 in
theorem walk_RationalBetween (a0a a0b : Int) (a1 : Int) (b0a : -9223372036854775808 ≤ a0a) (c0a : a0a ≤ 9223372036854775807) (b0b : -9223372036854775808 ≤ a0b) (c0b : a0b ≤ 9223372036854775807) (b1 : -9223372036854775808 ≤ a1) (c1 : a1 ≤ 9223372036854775807) (w : World) :
    Calls Try.prog 8 #[.agg #[.int .i64 a0a, .int .i64 a0b], .int .i64 a1] w fun e w' => e = .returned (.bool true) ∧ Below w.heap.size w w' := by
  obtain ⟨n, d, hb, O1⟩ := of_is a0a a0b a1 b0a c0a b0b c0b b1 c1
  obtain ⟨X, Z, E, hs⟩ := betw_facts n d hb
  have HS := Lib.hid hs
  have OF := Lib.hid O1
  clear hs hb O1 b0a c0a b0b c0b b1 c1
  go_enter Try.func8, Try.ntmps8
  go_wp2_with fail
  with_reducible refine (OF.out _).mono ?_
  rintro e w1 ⟨rfl, h1⟩
  have q := keep2 h1 (b := w.heap.size) (by first | (simp; done) | (simp; omega) | omega)
  have kc1_0_0 := q.1
  have kc1_0_1 := q.2.1
  have kf1_0_0 := q.2.2.1
  have kf1_0_1 := q.2.2.2.1
  have kl1_0 := q.2.2.2.2.1
  have kn1_0 := q.2.2.2.2.2.1
  have km1_0 := q.2.2.2.2.2.2
  clear q
  have kz1 := h1.size
  (try simp only [World.size_alloc, World.size_setCell, World.size_drew] at kz1)
  have H1 := Lib.hid h1
  clear h1
  go_wp2_with fail
  with_reducible refine (HS.out.N1 _).mono ?_
  rintro e w2 ⟨rfl, h2⟩
  have q := keep2 h2 (b := w.heap.size) (by first | (simp; done) | (simp; omega) | omega)
  have kc2_0_0 := q.1
  have kc2_0_1 := q.2.1
  have kf2_0_0 := q.2.2.1
  have kf2_0_1 := q.2.2.2.1
  have kl2_0 := q.2.2.2.2.1
  have kn2_0 := q.2.2.2.2.2.1
  have km2_0 := q.2.2.2.2.2.2
  clear q
  have kz2 := h2.size
  (try simp only [World.size_alloc, World.size_setCell, World.size_drew] at kz2)
  have H2 := Lib.hid h2
  clear h2
  go_wp2_with fail
  with_reducible refine (HS.out.N2 _).mono ?_
  rintro e w3 ⟨rfl, h3⟩
  have q := keep2 h3 (b := w.heap.size) (by first | (simp; done) | (simp; omega) | omega)
  have kc3_0_0 := q.1
  have kc3_0_1 := q.2.1
  have kf3_0_0 := q.2.2.1
  have kf3_0_1 := q.2.2.2.1
  have kl3_0 := q.2.2.2.2.1
  have kn3_0 := q.2.2.2.2.2.1
  have km3_0 := q.2.2.2.2.2.2
  clear q
  have kz3 := h3.size
  (try simp only [World.size_alloc, World.size_setCell, World.size_drew] at kz3)
  have H3 := Lib.hid h3
  clear h3
  rcases HS.out.hw with ⟨y0, y1, y2⟩ | ⟨y0, u1, u2, v1, v2, M1, M2, C1, C2, y1, y2, y3, y4, y5, y6, y7⟩
  · subst y1
    subst y2
    go_wp2_with fail
    with_reducible refine (awake_any _).mono ?_
    rintro e w4 ⟨rfl, h4⟩
    have q := keep2 h4 (b := w.heap.size) (by first | (simp; done) | (simp; omega) | omega)
    have kc4_0_0 := q.1
    have kc4_0_1 := q.2.1
    have kf4_0_0 := q.2.2.1
    have kf4_0_1 := q.2.2.2.1
    have kl4_0 := q.2.2.2.2.1
    have kn4_0 := q.2.2.2.2.2.1
    have km4_0 := q.2.2.2.2.2.2
    clear q
    have kz4 := h4.size
    (try simp only [World.size_alloc, World.size_setCell, World.size_drew] at kz4)
    have H4 := Lib.hid h4
    clear h4
    go_wp2
    go_ret
    exact ⟨rfl, by (show Rel _ _; repeat (first | with_reducible exact Rel.refl _ | with_reducible refine Rel.alloc ?_ _ | with_reducible refine Rel.setCell ?_ (by first | (simp; done) | (simp; omega)) _ | with_reducible refine Rel.drew ?_ | with_reducible refine Rel.trans ?_ H4.out | with_reducible refine Rel.trans ?_ H3.out | with_reducible refine Rel.trans ?_ H2.out | with_reducible refine Rel.trans ?_ H1.out | with_reducible refine Rel.trans ?_ H0.out))⟩
  · have HM1 := Lib.hid M1
    have HM2 := Lib.hid M2
    have HC1 := Lib.hid C1
    have HC2 := Lib.hid C2
    have HY := Lib.hid y7
    clear M1 M2 C1 C2 y7
    go_wp2_with fail
    with_reducible refine (HM1.out _).mono ?_
    rintro e w4 ⟨rfl, h4⟩
    have q := keep2 h4 (b := w.heap.size) (by first | (simp; done) | (simp; omega) | omega)
    have kc4_0_0 := q.1
    have kc4_0_1 := q.2.1
    have kf4_0_0 := q.2.2.1
    have kf4_0_1 := q.2.2.2.1
    have kl4_0 := q.2.2.2.2.1
    have kn4_0 := q.2.2.2.2.2.1
    have km4_0 := q.2.2.2.2.2.2
    clear q
    have kz4 := h4.size
    (try simp only [World.size_alloc, World.size_setCell, World.size_drew] at kz4)
    have H4 := Lib.hid h4
    clear h4
    go_wp2_with fail
    with_reducible refine (HM2.out _).mono ?_
    rintro e w5 ⟨rfl, h5⟩
    have q := keep2 h5 (b := w.heap.size) (by first | (simp; done) | (simp; omega) | omega)
    have kc5_0_0 := q.1
    have kc5_0_1 := q.2.1
    have kf5_0_0 := q.2.2.1
    have kf5_0_1 := q.2.2.2.1
    have kl5_0 := q.2.2.2.2.1
    have kn5_0 := q.2.2.2.2.2.1
    have km5_0 := q.2.2.2.2.2.2
    clear q
    have q := keep2 h5 (b := w4.heap.size) (by first | (simp; done) | (simp; omega) | omega)
    have kc5_1_0 := q.1
    have kc5_1_1 := q.2.1
    have kf5_1_0 := q.2.2.1
    have kf5_1_1 := q.2.2.2.1
    have kl5_1 := q.2.2.2.2.1
    have kn5_1 := q.2.2.2.2.2.1
    have km5_1 := q.2.2.2.2.2.2
    clear q
    have kz5 := h5.size
    (try simp only [World.size_alloc, World.size_setCell, World.size_drew] at kz5)
    have H5 := Lib.hid h5
    clear h5
    go_wp2_with fail
    with_reducible refine (HC1.out _).mono ?_
    rintro e w6 ⟨rfl, h6⟩
    have q := keep2 h6 (b := w.heap.size) (by first | (simp; done) | (simp; omega) | omega)
    have kc6_0_0 := q.1
    have kc6_0_1 := q.2.1
    have kf6_0_0 := q.2.2.1
    have kf6_0_1 := q.2.2.2.1
    have kl6_0 := q.2.2.2.2.1
    have kn6_0 := q.2.2.2.2.2.1
    have km6_0 := q.2.2.2.2.2.2
    clear q
    have q := keep2 h6 (b := w4.heap.size) (by first | (simp; done) | (simp; omega) | omega)
    have kc6_1_0 := q.1
    have kc6_1_1 := q.2.1
    have kf6_1_0 := q.2.2.1
    have kf6_1_1 := q.2.2.2.1
    have kl6_1 := q.2.2.2.2.1
    have kn6_1 := q.2.2.2.2.2.1
    have km6_1 := q.2.2.2.2.2.2
    clear q
    have q := keep2 h6 (b := w5.heap.size) (by first | (simp; done) | (simp; omega) | omega)
    have kc6_2_0 := q.1
    have kc6_2_1 := q.2.1
    have kf6_2_0 := q.2.2.1
    have kf6_2_1 := q.2.2.2.1
    have kl6_2 := q.2.2.2.2.1
    have kn6_2 := q.2.2.2.2.2.1
    have km6_2 := q.2.2.2.2.2.2
    clear q
    have kz6 := h6.size
    (try simp only [World.size_alloc, World.size_setCell, World.size_drew] at kz6)
    have H6 := Lib.hid h6
    clear h6
    go_wp2_with fail
    with_reducible refine (HC2.out _).mono ?_
    rintro e w7 ⟨rfl, h7⟩
    have q := keep2 h7 (b := w.heap.size) (by first | (simp; done) | (simp; omega) | omega)
    have kc7_0_0 := q.1
    have kc7_0_1 := q.2.1
    have kf7_0_0 := q.2.2.1
    have kf7_0_1 := q.2.2.2.1
    have kl7_0 := q.2.2.2.2.1
    have kn7_0 := q.2.2.2.2.2.1
    have km7_0 := q.2.2.2.2.2.2
    clear q
    have kz7 := h7.size
    (try simp only [World.size_alloc, World.size_setCell, World.size_drew] at kz7)
    have H7 := Lib.hid h7
    clear h7
    go_wp2_with fail
    with_reducible refine (awake_any _).mono ?_
    rintro e w8 ⟨rfl, h8⟩
    have q := keep2 h8 (b := w.heap.size) (by first | (simp; done) | (simp; omega) | omega)
    have kc8_0_0 := q.1
    have kc8_0_1 := q.2.1
    have kf8_0_0 := q.2.2.1
    have kf8_0_1 := q.2.2.2.1
    have kl8_0 := q.2.2.2.2.1
    have kn8_0 := q.2.2.2.2.2.1
    have km8_0 := q.2.2.2.2.2.2
    clear q
    have kz8 := h8.size
    (try simp only [World.size_alloc, World.size_setCell, World.size_drew] at kz8)
    have H8 := Lib.hid h8
    clear h8
    rcases HY.out with ⟨g1, g2, g3, g4⟩ | ⟨g1, g2⟩
    · clear g1
      go_wp2
      go_ret
      exact ⟨rfl, by (show Rel _ _; repeat (first | with_reducible exact Rel.refl _ | with_reducible refine Rel.alloc ?_ _ | with_reducible refine Rel.setCell ?_ (by first | (simp; done) | (simp; omega)) _ | with_reducible refine Rel.drew ?_ | with_reducible refine Rel.trans ?_ H8.out | with_reducible refine Rel.trans ?_ H7.out | with_reducible refine Rel.trans ?_ H6.out | with_reducible refine Rel.trans ?_ H5.out | with_reducible refine Rel.trans ?_ H4.out | with_reducible refine Rel.trans ?_ H3.out | with_reducible refine Rel.trans ?_ H2.out | with_reducible refine Rel.trans ?_ H1.out | with_reducible refine Rel.trans ?_ H0.out))⟩
    · subst g1
      subst g2
      go_wp2
      go_ret
      exact ⟨rfl, by (show Rel _ _; repeat (first | with_reducible exact Rel.refl _ | with_reducible refine Rel.alloc ?_ _ | with_reducible refine Rel.setCell ?_ (by first | (simp; done) | (simp; omega)) _ | with_reducible refine Rel.drew ?_ | with_reducible refine Rel.trans ?_ H8.out | with_reducible refine Rel.trans ?_ H7.out | with_reducible refine Rel.trans ?_ H6.out | with_reducible refine Rel.trans ?_ H5.out | with_reducible refine Rel.trans ?_ H4.out | with_reducible refine Rel.trans ?_ H3.out | with_reducible refine Rel.trans ?_ H2.out | with_reducible refine Rel.trans ?_ H1.out | with_reducible refine Rel.trans ?_ H0.out))⟩

end Go.Proofs.Ytdhfecaoadnogaa

/- Walk of the law RationalProducts. No conditions but those printed. -/
import Derived.Test.YtdhfecaoadnogaaRatO
import Derived.Test.YtdhfecaoadnogaaRatL
namespace Go.Proofs.Ytdhfecaoadnogaa
open Go.RowKit Frac

attribute [local go_sem] calmUpon
set_option linter.unusedSimpArgs false
set_option linter.unusedVariables false

def Bd (n d : Int) : Prop := (-9223372036854775808 ≤ n ∧ n ≤ 9223372036854775807) ∧ (-9223372036854775808 ≤ d ∧ d ≤ 9223372036854775807)

structure FourF (f1 f2 f3 f4 : Nat) (a b c d A B E C D F : Int) : Prop where
  N1 : ∀ w, Calls Try.prog f1 #[.agg #[.int .i64 a, .int .i64 b], .agg #[.int .i64 c, .int .i64 d]] w fun e w' => e = .returned (.tuple #[.agg #[.int .i64 A, .int .i64 B], .int .i64 E]) ∧ Rel w w'
  N2 : ∀ w, Calls Try.prog f2 #[.agg #[.int .i64 a, .int .i64 b], .agg #[.int .i64 c, .int .i64 d]] w fun e w' => e = .returned (.tuple #[.agg #[.int .i64 A, .int .i64 B], .int .i64 E]) ∧ Rel w w'
  N3 : ∀ w, Calls Try.prog f3 #[.agg #[.int .i64 a, .int .i64 b], .agg #[.int .i64 c, .int .i64 d]] w fun e w' => e = .returned (.tuple #[.agg #[.int .i64 C, .int .i64 D], .int .i64 F]) ∧ Rel w w'
  N4 : ∀ w, Calls Try.prog f4 #[.agg #[.int .i64 a, .int .i64 b], .agg #[.int .i64 c, .int .i64 d]] w fun e w' => e = .returned (.tuple #[.agg #[.int .i64 C, .int .i64 D], .int .i64 F]) ∧ Rel w w'

theorem products_facts (a b c d : Int) (h : Bd a b) (k : Bd c d) : ∃ A B E C D F, FourF 27 28 29 30 a b c d A B E C D F := by
  obtain ⟨⟨h1, h2⟩, h3, h4⟩ := h
  obtain ⟨⟨k1, k2⟩, k3, k4⟩ := k
  exact ⟨_, _, _, _, _, _, fun w => mul_any a b c d w h1 h2 h3 h4 k1 k2 k3 k4, fun w => rmul_any a b c d w h1 h2 h3 h4 k1 k2 k3 k4, fun w => div_any a b c d w h1 h2 h3 h4 k1 k2 k3 k4, fun w => rdiv_any a b c d w h1 h2 h3 h4 k1 k2 k3 k4⟩

set_option maxHeartbeats 6400000 in
theorem walk_RationalProducts (a0a a0b : Int) (a1a a1b : Int) (a2 : Int) (a3 : Int) (b0a : -9223372036854775808 ≤ a0a) (c0a : a0a ≤ 9223372036854775807) (b0b : -9223372036854775808 ≤ a0b) (c0b : a0b ≤ 9223372036854775807) (b1a : -9223372036854775808 ≤ a1a) (c1a : a1a ≤ 9223372036854775807) (b1b : -9223372036854775808 ≤ a1b) (c1b : a1b ≤ 9223372036854775807) (b2 : -9223372036854775808 ≤ a2) (c2 : a2 ≤ 9223372036854775807) (b3 : -9223372036854775808 ≤ a3) (c3 : a3 ≤ 9223372036854775807) (w : World) :
    Calls Try.prog 6 #[.agg #[.int .i64 a0a, .int .i64 a0b], .agg #[.int .i64 a1a, .int .i64 a1b], .int .i64 a2, .int .i64 a3] w fun e w' => e = .returned (.bool true) ∧ Below w.heap.size w w' := by
  obtain ⟨a, b, hb1, O1⟩ := of_is a0a a0b a2 b0a c0a b0b c0b b2 c2
  obtain ⟨c, d, hb2, O2⟩ := of_is a1a a1b a3 b1a c1a b1b c1b b3 c3
  obtain ⟨A, B, E, C, D, F, hs⟩ := products_facts a b c d hb1 hb2
  have HS := Lib.hid hs
  have OF1 := Lib.hid O1
  have OF2 := Lib.hid O2
  clear hs hb1 hb2 O1 O2 b0a c0a b0b c0b b1a c1a b1b c1b b2 c2 b3 c3
  go_enter Try.func6, Try.ntmps6
  go_wp2_with fail
  refine wp_region_calm (fun M w' => M.getD 6 false = false → w'.cell? { block := w.heap.size, off := 0 } = some (.int .i64 a0a) ∧ w'.cell? { block := w.heap.size, off := 1 } = some (.int .i64 a0b) ∧ w'.cell? { block := w.heap.size + 1, off := 0 } = some (.int .i64 a1a) ∧ w'.cell? { block := w.heap.size + 1, off := 1 } = some (.int .i64 a1b)) (fun i => i == 6) [0, 1, 2, 3, 4, 5] 2 (by kernel_rfl) (by kernel_rfl) ?hst ?hS0 (fun w0 h0 => ?_)
  case hst => exact fun _ _ _ h r hm => ⟨r.cell (h hm).1, r.cell (h hm).2.1, r.cell (h hm).2.2.1, r.cell (h hm).2.2.2⟩
  case hS0 => exact fun _ => ⟨by go_simp, by go_simp, by go_simp, by go_simp⟩
  iterate 2
    refine wpCalm_go rfl (by kernel_rfl) (fun K hK => ?_)
    apply Exists.intro
    refine ⟨fun M w hM hS => ?_, hK _ ?_⟩
    · have hS := hS (hM 6 (by kernel_rfl))
      have c1 := hS.1
      have c2 := hS.2.1
      have c3 := hS.2.2.1
      have c4 := hS.2.2.2
      unfold calmAt
      go_simp
      exact ⟨rfl, Rel.refl _⟩
    clear hK K
  refine wpCalm_go rfl (by kernel_rfl) (fun K hK => ?_)
  apply Exists.intro
  refine ⟨fun M w hM hS => ?_, hK _ ?_⟩
  · unfold calmAt
    go_simp
    with_reducible refine (OF1.out _).mono ?_
    rintro e w1 ⟨rfl, hb⟩
    exact ⟨rfl, hb⟩
  clear hK K
  iterate 2
    refine wpCalm_go rfl (by kernel_rfl) (fun K hK => ?_)
    apply Exists.intro
    refine ⟨fun M w hM hS => ?_, hK _ ?_⟩
    · have hS := hS (hM 6 (by kernel_rfl))
      have c1 := hS.1
      have c2 := hS.2.1
      have c3 := hS.2.2.1
      have c4 := hS.2.2.2
      unfold calmAt
      go_simp
      exact ⟨rfl, Rel.refl _⟩
    clear hK K
  refine wpCalm_go rfl (by kernel_rfl) (fun K hK => ?_)
  apply Exists.intro
  refine ⟨fun M w hM hS => ?_, hK _ ?_⟩
  · unfold calmAt
    go_simp
    with_reducible refine (OF2.out _).mono ?_
    rintro e w1 ⟨rfl, hb⟩
    exact ⟨rfl, hb⟩
  clear hK K
  refine wpCalm_nil ?_
  have q := keep2 h0 (b := w.heap.size) (by first | (simp; done) | (simp; omega) | omega)
  have kc0_0_0 := q.1
  have kc0_0_1 := q.2.1
  have kf0_0_0 := q.2.2.1
  have kf0_0_1 := q.2.2.2.1
  have kl0_0 := q.2.2.2.2.1
  have kn0_0 := q.2.2.2.2.2.1
  have km0_0 := q.2.2.2.2.2.2
  clear q
  have q := keep2 h0 (b := w.heap.size + 1) (by first | (simp; done) | (simp; omega) | omega)
  have kc0_1_0 := q.1
  have kc0_1_1 := q.2.1
  have kf0_1_0 := q.2.2.1
  have kf0_1_1 := q.2.2.2.1
  have kl0_1 := q.2.2.2.2.1
  have kn0_1 := q.2.2.2.2.2.1
  have km0_1 := q.2.2.2.2.2.2
  clear q
  have kz0 := h0.size
  (try simp only [World.size_alloc, World.size_setCell, World.size_drew] at kz0)
  have H0 := Lib.hid h0
  clear h0
  refine wpAnyR_ready (rs := [6]) (by kernel_rfl) (by simp) (AllR.cons rfl (fun w1 h1 K' hK' => ?_) AllR.nil)
  have q := keep2 h1 (b := w.heap.size) (by first | (simp; done) | (simp; omega) | omega)
  have kc1_0_0 := q.1
  have kc1_0_1 := q.2.1
  have kf1_0_0 := q.2.2.1
  have kf1_0_1 := q.2.2.2.1
  have kl1_0 := q.2.2.2.2.1
  have kn1_0 := q.2.2.2.2.2.1
  have km1_0 := q.2.2.2.2.2.2
  clear q
  have q := keep2 h1 (b := w.heap.size + 1) (by first | (simp; done) | (simp; omega) | omega)
  have kc1_1_0 := q.1
  have kc1_1_1 := q.2.1
  have kf1_1_0 := q.2.2.1
  have kf1_1_1 := q.2.2.2.1
  have kl1_1 := q.2.2.2.2.1
  have kn1_1 := q.2.2.2.2.2.1
  have km1_1 := q.2.2.2.2.2.2
  clear q
  have kz1 := h1.size
  (try simp only [World.size_alloc, World.size_setCell, World.size_drew] at kz1)
  have H1 := Lib.hid h1
  clear h1
  go_simp
  refine hK'.out _ _ (fun h => absurd (h.symm.trans (by kernel_rfl : _ = true)) (by simp)) ?_
  clear hK' K'
  refine wpAnyR_ready (rs := [7]) (by kernel_rfl) (by simp) (AllR.cons rfl (fun w2 h2 K' hK' => ?_) AllR.nil)
  have q := keep2 h2 (b := w.heap.size) (by first | (simp; done) | (simp; omega) | omega)
  have kc2_0_0 := q.1
  have kc2_0_1 := q.2.1
  have kf2_0_0 := q.2.2.1
  have kf2_0_1 := q.2.2.2.1
  have kl2_0 := q.2.2.2.2.1
  have kn2_0 := q.2.2.2.2.2.1
  have km2_0 := q.2.2.2.2.2.2
  clear q
  have q := keep2 h2 (b := w.heap.size + 1) (by first | (simp; done) | (simp; omega) | omega)
  have kc2_1_0 := q.1
  have kc2_1_1 := q.2.1
  have kf2_1_0 := q.2.2.1
  have kf2_1_1 := q.2.2.2.1
  have kl2_1 := q.2.2.2.2.1
  have kn2_1 := q.2.2.2.2.2.1
  have km2_1 := q.2.2.2.2.2.2
  clear q
  have kz2 := h2.size
  (try simp only [World.size_alloc, World.size_setCell, World.size_drew] at kz2)
  have H2 := Lib.hid h2
  clear h2
  go_simp
  refine hK'.out _ _ (fun h => absurd (h.symm.trans (by kernel_rfl : _ = true)) (by simp)) ?_
  clear hK' K'
  refine wpAnyR_end (by kernel_rfl) (fun w3 h3 => ?_)
  (try simp only [Act.put, List.setIfInBounds_toArray, List.set_cons_zero, List.set_cons_succ])
  have q := keep2 h3 (b := w.heap.size) (by first | (simp; done) | (simp; omega) | omega)
  have kc3_0_0 := q.1
  have kc3_0_1 := q.2.1
  have kf3_0_0 := q.2.2.1
  have kf3_0_1 := q.2.2.2.1
  have kl3_0 := q.2.2.2.2.1
  have kn3_0 := q.2.2.2.2.2.1
  have km3_0 := q.2.2.2.2.2.2
  clear q
  have q := keep2 h3 (b := w.heap.size + 1) (by first | (simp; done) | (simp; omega) | omega)
  have kc3_1_0 := q.1
  have kc3_1_1 := q.2.1
  have kf3_1_0 := q.2.2.1
  have kf3_1_1 := q.2.2.2.1
  have kl3_1 := q.2.2.2.2.1
  have kn3_1 := q.2.2.2.2.2.1
  have km3_1 := q.2.2.2.2.2.2
  clear q
  have kz3 := h3.size
  (try simp only [World.size_alloc, World.size_setCell, World.size_drew] at kz3)
  have H3 := Lib.hid h3
  clear h3
  go_wp2_with fail
  with_reducible refine (HS.out.N1 _).mono ?_
  rintro e w4 ⟨rfl, h4⟩
  have q := keep2 h4 (b := w.heap.size) (by first | (simp; done) | (simp; omega) | omega)
  have kc4_0_0 := q.1
  have kc4_0_1 := q.2.1
  have kf4_0_0 := q.2.2.1
  have kf4_0_1 := q.2.2.2.1
  have kl4_0 := q.2.2.2.2.1
  have kn4_0 := q.2.2.2.2.2.1
  have km4_0 := q.2.2.2.2.2.2
  clear q
  have q := keep2 h4 (b := w.heap.size + 1) (by first | (simp; done) | (simp; omega) | omega)
  have kc4_1_0 := q.1
  have kc4_1_1 := q.2.1
  have kf4_1_0 := q.2.2.1
  have kf4_1_1 := q.2.2.2.1
  have kl4_1 := q.2.2.2.2.1
  have kn4_1 := q.2.2.2.2.2.1
  have km4_1 := q.2.2.2.2.2.2
  clear q
  have kz4 := h4.size
  (try simp only [World.size_alloc, World.size_setCell, World.size_drew] at kz4)
  have H4 := Lib.hid h4
  clear h4
  go_wp2_with fail
  with_reducible refine (HS.out.N2 _).mono ?_
  rintro e w5 ⟨rfl, h5⟩
  have q := keep2 h5 (b := w.heap.size) (by first | (simp; done) | (simp; omega) | omega)
  have kc5_0_0 := q.1
  have kc5_0_1 := q.2.1
  have kf5_0_0 := q.2.2.1
  have kf5_0_1 := q.2.2.2.1
  have kl5_0 := q.2.2.2.2.1
  have kn5_0 := q.2.2.2.2.2.1
  have km5_0 := q.2.2.2.2.2.2
  clear q
  have q := keep2 h5 (b := w.heap.size + 1) (by first | (simp; done) | (simp; omega) | omega)
  have kc5_1_0 := q.1
  have kc5_1_1 := q.2.1
  have kf5_1_0 := q.2.2.1
  have kf5_1_1 := q.2.2.2.1
  have kl5_1 := q.2.2.2.2.1
  have kn5_1 := q.2.2.2.2.2.1
  have km5_1 := q.2.2.2.2.2.2
  clear q
  have q := keep2 h5 (b := w4.heap.size) (by first | (simp; done) | (simp; omega) | omega)
  have kc5_2_0 := q.1
  have kc5_2_1 := q.2.1
  have kf5_2_0 := q.2.2.1
  have kf5_2_1 := q.2.2.2.1
  have kl5_2 := q.2.2.2.2.1
  have kn5_2 := q.2.2.2.2.2.1
  have km5_2 := q.2.2.2.2.2.2
  clear q
  have kz5 := h5.size
  (try simp only [World.size_alloc, World.size_setCell, World.size_drew] at kz5)
  have H5 := Lib.hid h5
  clear h5
  go_wp2_with fail
  with_reducible refine (HS.out.N3 _).mono ?_
  rintro e w6 ⟨rfl, h6⟩
  have q := keep2 h6 (b := w.heap.size) (by first | (simp; done) | (simp; omega) | omega)
  have kc6_0_0 := q.1
  have kc6_0_1 := q.2.1
  have kf6_0_0 := q.2.2.1
  have kf6_0_1 := q.2.2.2.1
  have kl6_0 := q.2.2.2.2.1
  have kn6_0 := q.2.2.2.2.2.1
  have km6_0 := q.2.2.2.2.2.2
  clear q
  have q := keep2 h6 (b := w.heap.size + 1) (by first | (simp; done) | (simp; omega) | omega)
  have kc6_1_0 := q.1
  have kc6_1_1 := q.2.1
  have kf6_1_0 := q.2.2.1
  have kf6_1_1 := q.2.2.2.1
  have kl6_1 := q.2.2.2.2.1
  have kn6_1 := q.2.2.2.2.2.1
  have km6_1 := q.2.2.2.2.2.2
  clear q
  have q := keep2 h6 (b := w4.heap.size) (by first | (simp; done) | (simp; omega) | omega)
  have kc6_2_0 := q.1
  have kc6_2_1 := q.2.1
  have kf6_2_0 := q.2.2.1
  have kf6_2_1 := q.2.2.2.1
  have kl6_2 := q.2.2.2.2.1
  have kn6_2 := q.2.2.2.2.2.1
  have km6_2 := q.2.2.2.2.2.2
  clear q
  have q := keep2 h6 (b := w5.heap.size) (by first | (simp; done) | (simp; omega) | omega)
  have kc6_3_0 := q.1
  have kc6_3_1 := q.2.1
  have kf6_3_0 := q.2.2.1
  have kf6_3_1 := q.2.2.2.1
  have kl6_3 := q.2.2.2.2.1
  have kn6_3 := q.2.2.2.2.2.1
  have km6_3 := q.2.2.2.2.2.2
  clear q
  have kz6 := h6.size
  (try simp only [World.size_alloc, World.size_setCell, World.size_drew] at kz6)
  have H6 := Lib.hid h6
  clear h6
  go_wp2_with fail
  with_reducible refine (HS.out.N4 _).mono ?_
  rintro e w7 ⟨rfl, h7⟩
  have q := keep2 h7 (b := w4.heap.size) (by first | (simp; done) | (simp; omega) | omega)
  have kc7_0_0 := q.1
  have kc7_0_1 := q.2.1
  have kf7_0_0 := q.2.2.1
  have kf7_0_1 := q.2.2.2.1
  have kl7_0 := q.2.2.2.2.1
  have kn7_0 := q.2.2.2.2.2.1
  have km7_0 := q.2.2.2.2.2.2
  clear q
  have q := keep2 h7 (b := w5.heap.size) (by first | (simp; done) | (simp; omega) | omega)
  have kc7_1_0 := q.1
  have kc7_1_1 := q.2.1
  have kf7_1_0 := q.2.2.1
  have kf7_1_1 := q.2.2.2.1
  have kl7_1 := q.2.2.2.2.1
  have kn7_1 := q.2.2.2.2.2.1
  have km7_1 := q.2.2.2.2.2.2
  clear q
  have q := keep2 h7 (b := w6.heap.size) (by first | (simp; done) | (simp; omega) | omega)
  have kc7_2_0 := q.1
  have kc7_2_1 := q.2.1
  have kf7_2_0 := q.2.2.1
  have kf7_2_1 := q.2.2.2.1
  have kl7_2 := q.2.2.2.2.1
  have kn7_2 := q.2.2.2.2.2.1
  have km7_2 := q.2.2.2.2.2.2
  clear q
  have kz7 := h7.size
  (try simp only [World.size_alloc, World.size_setCell, World.size_drew] at kz7)
  have H7 := Lib.hid h7
  clear h7
  go_wp2_with fail
  with_reducible refine (awake_any _).mono ?_
  rintro e w8 ⟨rfl, h8⟩
  have q := keep2 h8 (b := w4.heap.size) (by first | (simp; done) | (simp; omega) | omega)
  have kc8_0_0 := q.1
  have kc8_0_1 := q.2.1
  have kf8_0_0 := q.2.2.1
  have kf8_0_1 := q.2.2.2.1
  have kl8_0 := q.2.2.2.2.1
  have kn8_0 := q.2.2.2.2.2.1
  have km8_0 := q.2.2.2.2.2.2
  clear q
  have q := keep2 h8 (b := w5.heap.size) (by first | (simp; done) | (simp; omega) | omega)
  have kc8_1_0 := q.1
  have kc8_1_1 := q.2.1
  have kf8_1_0 := q.2.2.1
  have kf8_1_1 := q.2.2.2.1
  have kl8_1 := q.2.2.2.2.1
  have kn8_1 := q.2.2.2.2.2.1
  have km8_1 := q.2.2.2.2.2.2
  clear q
  have q := keep2 h8 (b := w6.heap.size) (by first | (simp; done) | (simp; omega) | omega)
  have kc8_2_0 := q.1
  have kc8_2_1 := q.2.1
  have kf8_2_0 := q.2.2.1
  have kf8_2_1 := q.2.2.2.1
  have kl8_2 := q.2.2.2.2.1
  have kn8_2 := q.2.2.2.2.2.1
  have km8_2 := q.2.2.2.2.2.2
  clear q
  have q := keep2 h8 (b := w7.heap.size) (by first | (simp; done) | (simp; omega) | omega)
  have kc8_3_0 := q.1
  have kc8_3_1 := q.2.1
  have kf8_3_0 := q.2.2.1
  have kf8_3_1 := q.2.2.2.1
  have kl8_3 := q.2.2.2.2.1
  have kn8_3 := q.2.2.2.2.2.1
  have km8_3 := q.2.2.2.2.2.2
  clear q
  have kz8 := h8.size
  (try simp only [World.size_alloc, World.size_setCell, World.size_drew] at kz8)
  have H8 := Lib.hid h8
  clear h8
  go_wp2
  go_ret
  have HA : Hid (Rel w w2) := by
    show Rel w w2
    exact ((((Rel.refl _).alloc _).alloc _).trans ((H0.out).trans H1.out)).setCell (by simp) _ |>.setCell (by simp) _ |>.trans H2.out
  exact ⟨rfl, by (show Rel _ _; repeat (first | with_reducible exact Rel.refl _ | with_reducible refine Rel.alloc ?_ _ | with_reducible refine Rel.setCell ?_ (by first | (simp; done) | (simp; omega)) _ | with_reducible refine Rel.drew ?_ | with_reducible refine Rel.trans ?_ H8.out | with_reducible refine Rel.trans ?_ H7.out | with_reducible refine Rel.trans ?_ H6.out | with_reducible refine Rel.trans ?_ H5.out | with_reducible refine Rel.trans ?_ H4.out | with_reducible refine Rel.trans ?_ H3.out | with_reducible refine Rel.trans ?_ H2.out | with_reducible refine Rel.trans ?_ H1.out | with_reducible refine Rel.trans ?_ H0.out))⟩

end Go.Proofs.Ytdhfecaoadnogaa

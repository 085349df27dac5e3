/- Walk of the law TokenDecimals. No conditions but those printed. -/
import Derived.Test.YtfdajdlbkdfhoaaTokK
namespace Go.Proofs.Ytfdajdlbkdfhoaa
open Go.RowKit Cal Str Tok Frac
attribute [local go_sem] calmUpon
set_option linter.unusedVariables false
set_option linter.unusedSimpArgs false

set_option maxHeartbeats 4000000 in
theorem walk_TokenDecimals (w : World) (a0 : ByteArray) (a1 : Int) (b0 : a0.size ≤ 140737488355328) (b1 : -9223372036854775808 ≤ a1) (c1 : a1 ≤ 9223372036854775807) :
    Calls Try.prog 8 #[.string a0, .int .i64 a1] w (BRes true w) := by
  have hstep : ∀ s : ByteArray, s.size ≤ 140737488355328 → ∃ (N D X : Int) (B : Bool), Hid (∀ w, Calls Try.prog 19 #[.string s] w fun e w' => e = .returned (.tuple #[.agg #[.int .i64 N, .int .i64 D], .int .i64 X, .bool B]) ∧ Rel w w') ∧ Hid (∀ w, Calls Try.prog 20 #[.string s] w fun e w' => e = .returned (.tuple #[.agg #[.int .i64 N, .int .i64 D], .int .i64 X, .bool B]) ∧ Rel w w') := fun s hs =>
    ⟨_, _, _, _, Lib.hid fun w => Decimal_any s w (by unfold maxLen; omega), Lib.hid fun w => rDecimal_any s w (by unfold maxLen; omega)⟩
  have HS := Lib.hid hstep
  clear hstep
  unfold BRes
  cases h3 : (a1.tmod 3 != 0)
  · obtain ⟨N, D, X, B, D1, D2⟩ := HS.out a0 b0
    go_enter Try.func8, Try.ntmps8
    go_wp2_with fail
    with_reducible refine (D1.out _).mono ?_
    rintro e w1 ⟨rfl, h1⟩
    have kz1 := h1.size
    (try simp only [World.size_alloc, World.size_setCell, World.size_drew] at kz1)
    have H1 := Lib.hid h1
    clear h1
    go_wp2_with fail
    with_reducible refine (D2.out _).mono ?_
    rintro e w2 ⟨rfl, h2⟩
    have q := keep2 h2 (b := w1.heap.size) (by first | (simp; done) | (simp; omega) | omega)
    have kc2_0_0 := q.1
    have kc2_0_1 := q.2.1
    have kf2_0_0 := q.2.2.1
    have kf2_0_1 := q.2.2.2.1
    have kl2_0 := q.2.2.2.2.1
    have kn2_0 := q.2.2.2.2.2.1
    have km2_0 := q.2.2.2.2.2.2
    clear q
    have kz2 := h2.size
    (try simp only [World.size_alloc, World.size_setCell, World.size_drew] at kz2)
    have H2 := Lib.hid h2
    clear h2
    go_wp2_with fail
    refine (tawake_any _).mono ?_
    unfold BRes
    rintro e w3 ⟨rfl, h3⟩
    have q := keep2 h3 (b := w1.heap.size) (by first | (simp; done) | (simp; omega) | omega)
    have kc3_0_0 := q.1
    have kc3_0_1 := q.2.1
    have kf3_0_0 := q.2.2.1
    have kf3_0_1 := q.2.2.2.1
    have kl3_0 := q.2.2.2.2.1
    have kn3_0 := q.2.2.2.2.2.1
    have km3_0 := q.2.2.2.2.2.2
    clear q
    have q := keep2 h3 (b := w2.heap.size) (by first | (simp; done) | (simp; omega) | omega)
    have kc3_1_0 := q.1
    have kc3_1_1 := q.2.1
    have kf3_1_0 := q.2.2.1
    have kf3_1_1 := q.2.2.2.1
    have kl3_1 := q.2.2.2.2.1
    have kn3_1 := q.2.2.2.2.2.1
    have km3_1 := q.2.2.2.2.2.2
    clear q
    have kz3 := h3.size
    (try simp only [World.size_alloc, World.size_setCell, World.size_drew] at kz3)
    have H3 := Lib.hid h3
    clear h3
    go_wp2
    go_ret
    exact ⟨ret_b (by simp), by (show Rel _ _; repeat (first | with_reducible exact Rel.refl _ | with_reducible refine Rel.alloc ?_ _ | with_reducible refine Rel.setCell ?_ (by first | (simp; done) | (simp; omega)) _ | with_reducible refine Rel.drew ?_ | with_reducible refine Rel.trans ?_ H3.out | with_reducible refine Rel.trans ?_ H2.out | with_reducible refine Rel.trans ?_ H1.out | with_reducible refine Rel.trans ?_ H0.out))⟩
  · go_enter Try.func8, Try.ntmps8
    go_wp2_with fail
    refine (pieces_any _ _ b1 c1).mono ?_
    rintro e w0 ⟨t, rfl, ht, h0⟩
    have kz0 := h0.size
    (try simp only [World.size_alloc, World.size_setCell, World.size_drew] at kz0)
    have H0 := Lib.hid h0
    clear h0
    obtain ⟨N, D, X, B, D1, D2⟩ := HS.out t (by omega)
    go_wp2_with fail
    with_reducible refine (D1.out _).mono ?_
    rintro e w1 ⟨rfl, h1⟩
    have kz1 := h1.size
    (try simp only [World.size_alloc, World.size_setCell, World.size_drew] at kz1)
    have H1 := Lib.hid h1
    clear h1
    go_wp2_with fail
    with_reducible refine (D2.out _).mono ?_
    rintro e w2 ⟨rfl, h2⟩
    have q := keep2 h2 (b := w1.heap.size) (by first | (simp; done) | (simp; omega) | omega)
    have kc2_0_0 := q.1
    have kc2_0_1 := q.2.1
    have kf2_0_0 := q.2.2.1
    have kf2_0_1 := q.2.2.2.1
    have kl2_0 := q.2.2.2.2.1
    have kn2_0 := q.2.2.2.2.2.1
    have km2_0 := q.2.2.2.2.2.2
    clear q
    have kz2 := h2.size
    (try simp only [World.size_alloc, World.size_setCell, World.size_drew] at kz2)
    have H2 := Lib.hid h2
    clear h2
    go_wp2_with fail
    refine (tawake_any _).mono ?_
    unfold BRes
    rintro e w3 ⟨rfl, h3⟩
    have q := keep2 h3 (b := w1.heap.size) (by first | (simp; done) | (simp; omega) | omega)
    have kc3_0_0 := q.1
    have kc3_0_1 := q.2.1
    have kf3_0_0 := q.2.2.1
    have kf3_0_1 := q.2.2.2.1
    have kl3_0 := q.2.2.2.2.1
    have kn3_0 := q.2.2.2.2.2.1
    have km3_0 := q.2.2.2.2.2.2
    clear q
    have q := keep2 h3 (b := w2.heap.size) (by first | (simp; done) | (simp; omega) | omega)
    have kc3_1_0 := q.1
    have kc3_1_1 := q.2.1
    have kf3_1_0 := q.2.2.1
    have kf3_1_1 := q.2.2.2.1
    have kl3_1 := q.2.2.2.2.1
    have kn3_1 := q.2.2.2.2.2.1
    have km3_1 := q.2.2.2.2.2.2
    clear q
    have kz3 := h3.size
    (try simp only [World.size_alloc, World.size_setCell, World.size_drew] at kz3)
    have H3 := Lib.hid h3
    clear h3
    go_wp2
    go_ret
    exact ⟨ret_b (by simp), by (show Rel _ _; repeat (first | with_reducible exact Rel.refl _ | with_reducible refine Rel.alloc ?_ _ | with_reducible refine Rel.setCell ?_ (by first | (simp; done) | (simp; omega)) _ | with_reducible refine Rel.drew ?_ | with_reducible refine Rel.trans ?_ H3.out | with_reducible refine Rel.trans ?_ H2.out | with_reducible refine Rel.trans ?_ H1.out | with_reducible refine Rel.trans ?_ H0.out))⟩

end Go.Proofs.Ytfdajdlbkdfhoaa

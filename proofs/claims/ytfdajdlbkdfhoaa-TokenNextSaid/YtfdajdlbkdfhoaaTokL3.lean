/- Walk of the law TokenNext. No conditions but those printed. -/
import Derived.Test.YtfdajdlbkdfhoaaTokK
namespace Go.Proofs.Ytfdajdlbkdfhoaa
open Go.RowKit Cal Str Tok Frac
attribute [local go_sem] calmUpon
set_option linter.unusedVariables false
set_option linter.unusedSimpArgs false

set_option maxHeartbeats 8000000 in
theorem walk_TokenNext (w : World) (a0 : ByteArray) (a1 : Value) (n1 : Nat) (a2 : Int) (a3 : Int) (b0 : a0.size ≤ 140737488355328) (b1 : IntsIn w a1 n1) (b2 : -9223372036854775808 ≤ a2) (c2 : a2 ≤ 9223372036854775807) (b3 : -9223372036854775808 ≤ a3) (c3 : a3 ≤ 9223372036854775807) :
    Calls Try.prog 3 #[.string a0, a1, .int .i64 a2, .int .i64 a3] w (BRes true w) := by
  have hstep : ∀ (s : ByteArray) (a : Int), s.size ≤ 140737488355328 → -9223372036854775808 ≤ a → a ≤ 9223372036854775807 → ∃ (K A N E : Int) (T : ByteArray), Hid (∀ w, Calls Try.prog 11 #[.string s, .int .i64 a] w fun e w' => e = .returned (.tuple #[.agg #[.int .i64 K, .string T, .int .i64 A], .int .i64 N, .int .i64 E]) ∧ Rel w w') ∧ Hid (∀ w, Calls Try.prog 12 #[.string s, .int .i64 a] w fun e w' => e = .returned (.tuple #[.agg #[.int .i64 K, .string T, .int .i64 A], .int .i64 N, .int .i64 E]) ∧ Rel w w') := fun s a hs h0 h1 =>
    ⟨_, _, _, _, _, Lib.hid fun w => Next_any s a w hs h0 h1, Lib.hid fun w => rNext_any s a w hs h0 h1⟩
  have HS := Lib.hid hstep
  clear hstep
  unfold BRes
  cases h4 : (a2.tmod 4 != 0)
  · by_cases hz : a0.size = 0
    · have q0 : ((a0.size : Int) == 0) = true := by rw [beq_iff_eq]; omega
      go_enter Try.func3, Try.ntmps3
      go_wp2_with fail
      refine (text_any _ _ _ _ b1 b2 c2).mono ?_
      rintro e w0 ⟨t, rfl, ht, h0⟩
      have kz0 := h0.size
      (try simp only [World.size_alloc, World.size_setCell, World.size_drew] at kz0)
      have H0 := Lib.hid h0
      clear h0
      obtain ⟨K, A, N, E, T, D1, D2⟩ := HS.out t a3 (by omega) (by omega) (by omega)
      go_wp2_with fail
      with_reducible refine (D1.out _).mono ?_
      rintro e w1 ⟨rfl, h1⟩
      have kz1 := h1.size
      (try simp only [World.size_alloc, World.size_setCell, World.size_drew] at kz1)
      have H1 := Lib.hid h1
      clear h1
      go_wp2_with fail
      with_reducible refine (D2.out _).mono ?_
      rintro e w2 ⟨rfl, h2⟩
      have q := keep3 h2 (b := w1.heap.size) (by first | (simp; done) | (simp; omega) | omega)
      have kc2_0_0 := q.1
      have kc2_0_1 := q.2.1
      have kc2_0_2 := q.2.2.1
      have kf2_0_0 := q.2.2.2.1
      have kf2_0_1 := q.2.2.2.2.1
      have kf2_0_2 := q.2.2.2.2.2.1
      have kl2_0 := q.2.2.2.2.2.2.1
      have kn2_0 := q.2.2.2.2.2.2.2.1
      have km2_0 := q.2.2.2.2.2.2.2.2
      clear q
      have kz2 := h2.size
      (try simp only [World.size_alloc, World.size_setCell, World.size_drew] at kz2)
      have H2 := Lib.hid h2
      clear h2
      go_wp2_with fail
      refine (tawake_any _).mono ?_
      unfold BRes
      rintro e w3 ⟨rfl, h3⟩
      have q := keep3 h3 (b := w1.heap.size) (by first | (simp; done) | (simp; omega) | omega)
      have kc3_0_0 := q.1
      have kc3_0_1 := q.2.1
      have kc3_0_2 := q.2.2.1
      have kf3_0_0 := q.2.2.2.1
      have kf3_0_1 := q.2.2.2.2.1
      have kf3_0_2 := q.2.2.2.2.2.1
      have kl3_0 := q.2.2.2.2.2.2.1
      have kn3_0 := q.2.2.2.2.2.2.2.1
      have km3_0 := q.2.2.2.2.2.2.2.2
      clear q
      have q := keep3 h3 (b := w2.heap.size) (by first | (simp; done) | (simp; omega) | omega)
      have kc3_1_0 := q.1
      have kc3_1_1 := q.2.1
      have kc3_1_2 := q.2.2.1
      have kf3_1_0 := q.2.2.2.1
      have kf3_1_1 := q.2.2.2.2.1
      have kf3_1_2 := q.2.2.2.2.2.1
      have kl3_1 := q.2.2.2.2.2.2.1
      have kn3_1 := q.2.2.2.2.2.2.2.1
      have km3_1 := q.2.2.2.2.2.2.2.2
      clear q
      have kz3 := h3.size
      (try simp only [World.size_alloc, World.size_setCell, World.size_drew] at kz3)
      have H3 := Lib.hid h3
      clear h3
      go_wp2
      go_ret
      exact ⟨ret_b (by simp), by (show Rel _ _; repeat (first | with_reducible exact Rel.refl _ | with_reducible refine Rel.alloc ?_ _ | with_reducible refine Rel.setCell ?_ (by first | (simp; done) | (simp; omega)) _ | with_reducible refine Rel.drew ?_ | with_reducible refine Rel.trans ?_ H3.out | with_reducible refine Rel.trans ?_ H2.out | with_reducible refine Rel.trans ?_ H1.out | with_reducible refine Rel.trans ?_ H0.out))⟩
    · cases h5 : (a2.tmod 5 != 0)
      · have q0 : ((a0.size : Int) == 0) = false := by rw [beq_eq_false_iff_ne]; omega
        go_enter Try.func3, Try.ntmps3
        obtain ⟨K, A, N, E, T, D1, D2⟩ := HS.out a0 a3 (by omega) (by omega) (by omega)
        go_wp2_with fail
        with_reducible refine (D1.out _).mono ?_
        rintro e w1 ⟨rfl, h1⟩
        have kz1 := h1.size
        (try simp only [World.size_alloc, World.size_setCell, World.size_drew] at kz1)
        have H1 := Lib.hid h1
        clear h1
        go_wp2_with fail
        with_reducible refine (D2.out _).mono ?_
        rintro e w2 ⟨rfl, h2⟩
        have q := keep3 h2 (b := w1.heap.size) (by first | (simp; done) | (simp; omega) | omega)
        have kc2_0_0 := q.1
        have kc2_0_1 := q.2.1
        have kc2_0_2 := q.2.2.1
        have kf2_0_0 := q.2.2.2.1
        have kf2_0_1 := q.2.2.2.2.1
        have kf2_0_2 := q.2.2.2.2.2.1
        have kl2_0 := q.2.2.2.2.2.2.1
        have kn2_0 := q.2.2.2.2.2.2.2.1
        have km2_0 := q.2.2.2.2.2.2.2.2
        clear q
        have kz2 := h2.size
        (try simp only [World.size_alloc, World.size_setCell, World.size_drew] at kz2)
        have H2 := Lib.hid h2
        clear h2
        go_wp2_with fail
        refine (tawake_any _).mono ?_
        unfold BRes
        rintro e w3 ⟨rfl, h3⟩
        have q := keep3 h3 (b := w1.heap.size) (by first | (simp; done) | (simp; omega) | omega)
        have kc3_0_0 := q.1
        have kc3_0_1 := q.2.1
        have kc3_0_2 := q.2.2.1
        have kf3_0_0 := q.2.2.2.1
        have kf3_0_1 := q.2.2.2.2.1
        have kf3_0_2 := q.2.2.2.2.2.1
        have kl3_0 := q.2.2.2.2.2.2.1
        have kn3_0 := q.2.2.2.2.2.2.2.1
        have km3_0 := q.2.2.2.2.2.2.2.2
        clear q
        have q := keep3 h3 (b := w2.heap.size) (by first | (simp; done) | (simp; omega) | omega)
        have kc3_1_0 := q.1
        have kc3_1_1 := q.2.1
        have kc3_1_2 := q.2.2.1
        have kf3_1_0 := q.2.2.2.1
        have kf3_1_1 := q.2.2.2.2.1
        have kf3_1_2 := q.2.2.2.2.2.1
        have kl3_1 := q.2.2.2.2.2.2.1
        have kn3_1 := q.2.2.2.2.2.2.2.1
        have km3_1 := q.2.2.2.2.2.2.2.2
        clear q
        have kz3 := h3.size
        (try simp only [World.size_alloc, World.size_setCell, World.size_drew] at kz3)
        have H3 := Lib.hid h3
        clear h3
        go_wp2
        go_ret
        exact ⟨ret_b (by simp), by (show Rel _ _; repeat (first | with_reducible exact Rel.refl _ | with_reducible refine Rel.alloc ?_ _ | with_reducible refine Rel.setCell ?_ (by first | (simp; done) | (simp; omega)) _ | with_reducible refine Rel.drew ?_ | with_reducible refine Rel.trans ?_ H3.out | with_reducible refine Rel.trans ?_ H2.out | with_reducible refine Rel.trans ?_ H1.out | with_reducible refine Rel.trans ?_ H0.out))⟩
      · have q0 : ((a0.size : Int) == 0) = false := by rw [beq_eq_false_iff_ne]; omega
        go_enter Try.func3, Try.ntmps3
        go_wp2_with fail
        refine (text_any _ _ _ _ b1 b2 c2).mono ?_
        rintro e w0 ⟨t, rfl, ht, h0⟩
        have kz0 := h0.size
        (try simp only [World.size_alloc, World.size_setCell, World.size_drew] at kz0)
        have H0 := Lib.hid h0
        clear h0
        obtain ⟨K, A, N, E, T, D1, D2⟩ := HS.out t a3 (by omega) (by omega) (by omega)
        go_wp2_with fail
        with_reducible refine (D1.out _).mono ?_
        rintro e w1 ⟨rfl, h1⟩
        have kz1 := h1.size
        (try simp only [World.size_alloc, World.size_setCell, World.size_drew] at kz1)
        have H1 := Lib.hid h1
        clear h1
        go_wp2_with fail
        with_reducible refine (D2.out _).mono ?_
        rintro e w2 ⟨rfl, h2⟩
        have q := keep3 h2 (b := w1.heap.size) (by first | (simp; done) | (simp; omega) | omega)
        have kc2_0_0 := q.1
        have kc2_0_1 := q.2.1
        have kc2_0_2 := q.2.2.1
        have kf2_0_0 := q.2.2.2.1
        have kf2_0_1 := q.2.2.2.2.1
        have kf2_0_2 := q.2.2.2.2.2.1
        have kl2_0 := q.2.2.2.2.2.2.1
        have kn2_0 := q.2.2.2.2.2.2.2.1
        have km2_0 := q.2.2.2.2.2.2.2.2
        clear q
        have kz2 := h2.size
        (try simp only [World.size_alloc, World.size_setCell, World.size_drew] at kz2)
        have H2 := Lib.hid h2
        clear h2
        go_wp2_with fail
        refine (tawake_any _).mono ?_
        unfold BRes
        rintro e w3 ⟨rfl, h3⟩
        have q := keep3 h3 (b := w1.heap.size) (by first | (simp; done) | (simp; omega) | omega)
        have kc3_0_0 := q.1
        have kc3_0_1 := q.2.1
        have kc3_0_2 := q.2.2.1
        have kf3_0_0 := q.2.2.2.1
        have kf3_0_1 := q.2.2.2.2.1
        have kf3_0_2 := q.2.2.2.2.2.1
        have kl3_0 := q.2.2.2.2.2.2.1
        have kn3_0 := q.2.2.2.2.2.2.2.1
        have km3_0 := q.2.2.2.2.2.2.2.2
        clear q
        have q := keep3 h3 (b := w2.heap.size) (by first | (simp; done) | (simp; omega) | omega)
        have kc3_1_0 := q.1
        have kc3_1_1 := q.2.1
        have kc3_1_2 := q.2.2.1
        have kf3_1_0 := q.2.2.2.1
        have kf3_1_1 := q.2.2.2.2.1
        have kf3_1_2 := q.2.2.2.2.2.1
        have kl3_1 := q.2.2.2.2.2.2.1
        have kn3_1 := q.2.2.2.2.2.2.2.1
        have km3_1 := q.2.2.2.2.2.2.2.2
        clear q
        have kz3 := h3.size
        (try simp only [World.size_alloc, World.size_setCell, World.size_drew] at kz3)
        have H3 := Lib.hid h3
        clear h3
        go_wp2
        go_ret
        exact ⟨ret_b (by simp), by (show Rel _ _; repeat (first | with_reducible exact Rel.refl _ | with_reducible refine Rel.alloc ?_ _ | with_reducible refine Rel.setCell ?_ (by first | (simp; done) | (simp; omega)) _ | with_reducible refine Rel.drew ?_ | with_reducible refine Rel.trans ?_ H3.out | with_reducible refine Rel.trans ?_ H2.out | with_reducible refine Rel.trans ?_ H1.out | with_reducible refine Rel.trans ?_ H0.out))⟩
  · by_cases hz : a0.size = 0
    · have q0 : ((a0.size : Int) == 0) = true := by rw [beq_iff_eq]; omega
      go_enter Try.func3, Try.ntmps3
      go_wp2_with fail
      refine (text_any _ _ _ _ b1 b2 c2).mono ?_
      rintro e w0 ⟨t, rfl, ht, h0⟩
      have kz0 := h0.size
      (try simp only [World.size_alloc, World.size_setCell, World.size_drew] at kz0)
      have H0 := Lib.hid h0
      clear h0
      have e2 : IntKind.i64.wrap ((t.size : Int) + 2) = (t.size : Int) + 2 := IntWalk.i64_in _ ⟨by omega, by omega⟩
      have m0 := Int.emod_nonneg a3 (show (t.size : Int) + 2 ≠ 0 by omega)
      have m1 := Int.emod_lt_of_pos a3 (show 0 < (t.size : Int) + 2 by omega)
      obtain ⟨q, hq⟩ : ∃ q, a3 % ((t.size : Int) + 2) = q := ⟨_, rfl⟩
      have PK : Hid (∀ w, Calls Try.prog 10 #[.int .i64 a3, .int .i64 ((t.size : Int) + 2)] w fun e w' => e = .returned (.int .i64 q) ∧ w = w') := fun w => by
        have := pick_any a3 ((t.size : Int) + 2) w b3 c3 (by omega) (by omega); rwa [hq] at this
      rw [hq] at m0 m1
      clear hq
      go_wp2_with fail
      refine (PK.out _).mono ?_
      rintro e w9 ⟨rfl, rfl⟩
      obtain ⟨K, A, N, E, T, D1, D2⟩ := HS.out t q (by omega) (by omega) (by omega)
      go_wp2_with fail
      with_reducible refine (D1.out _).mono ?_
      rintro e w1 ⟨rfl, h1⟩
      have kz1 := h1.size
      (try simp only [World.size_alloc, World.size_setCell, World.size_drew] at kz1)
      have H1 := Lib.hid h1
      clear h1
      go_wp2_with fail
      with_reducible refine (D2.out _).mono ?_
      rintro e w2 ⟨rfl, h2⟩
      have q := keep3 h2 (b := w1.heap.size) (by first | (simp; done) | (simp; omega) | omega)
      have kc2_0_0 := q.1
      have kc2_0_1 := q.2.1
      have kc2_0_2 := q.2.2.1
      have kf2_0_0 := q.2.2.2.1
      have kf2_0_1 := q.2.2.2.2.1
      have kf2_0_2 := q.2.2.2.2.2.1
      have kl2_0 := q.2.2.2.2.2.2.1
      have kn2_0 := q.2.2.2.2.2.2.2.1
      have km2_0 := q.2.2.2.2.2.2.2.2
      clear q
      have kz2 := h2.size
      (try simp only [World.size_alloc, World.size_setCell, World.size_drew] at kz2)
      have H2 := Lib.hid h2
      clear h2
      go_wp2_with fail
      refine (tawake_any _).mono ?_
      unfold BRes
      rintro e w3 ⟨rfl, h3⟩
      have q := keep3 h3 (b := w1.heap.size) (by first | (simp; done) | (simp; omega) | omega)
      have kc3_0_0 := q.1
      have kc3_0_1 := q.2.1
      have kc3_0_2 := q.2.2.1
      have kf3_0_0 := q.2.2.2.1
      have kf3_0_1 := q.2.2.2.2.1
      have kf3_0_2 := q.2.2.2.2.2.1
      have kl3_0 := q.2.2.2.2.2.2.1
      have kn3_0 := q.2.2.2.2.2.2.2.1
      have km3_0 := q.2.2.2.2.2.2.2.2
      clear q
      have q := keep3 h3 (b := w2.heap.size) (by first | (simp; done) | (simp; omega) | omega)
      have kc3_1_0 := q.1
      have kc3_1_1 := q.2.1
      have kc3_1_2 := q.2.2.1
      have kf3_1_0 := q.2.2.2.1
      have kf3_1_1 := q.2.2.2.2.1
      have kf3_1_2 := q.2.2.2.2.2.1
      have kl3_1 := q.2.2.2.2.2.2.1
      have kn3_1 := q.2.2.2.2.2.2.2.1
      have km3_1 := q.2.2.2.2.2.2.2.2
      clear q
      have kz3 := h3.size
      (try simp only [World.size_alloc, World.size_setCell, World.size_drew] at kz3)
      have H3 := Lib.hid h3
      clear h3
      go_wp2
      go_ret
      exact ⟨ret_b (by simp), by (show Rel _ _; repeat (first | with_reducible exact Rel.refl _ | with_reducible refine Rel.alloc ?_ _ | with_reducible refine Rel.setCell ?_ (by first | (simp; done) | (simp; omega)) _ | with_reducible refine Rel.drew ?_ | with_reducible refine Rel.trans ?_ H3.out | with_reducible refine Rel.trans ?_ H2.out | with_reducible refine Rel.trans ?_ H1.out | with_reducible refine Rel.trans ?_ H0.out))⟩
    · cases h5 : (a2.tmod 5 != 0)
      · have q0 : ((a0.size : Int) == 0) = false := by rw [beq_eq_false_iff_ne]; omega
        go_enter Try.func3, Try.ntmps3
        have e2 : IntKind.i64.wrap ((a0.size : Int) + 2) = (a0.size : Int) + 2 := IntWalk.i64_in _ ⟨by omega, by omega⟩
        have m0 := Int.emod_nonneg a3 (show (a0.size : Int) + 2 ≠ 0 by omega)
        have m1 := Int.emod_lt_of_pos a3 (show 0 < (a0.size : Int) + 2 by omega)
        obtain ⟨q, hq⟩ : ∃ q, a3 % ((a0.size : Int) + 2) = q := ⟨_, rfl⟩
        have PK : Hid (∀ w, Calls Try.prog 10 #[.int .i64 a3, .int .i64 ((a0.size : Int) + 2)] w fun e w' => e = .returned (.int .i64 q) ∧ w = w') := fun w => by
          have := pick_any a3 ((a0.size : Int) + 2) w b3 c3 (by omega) (by omega); rwa [hq] at this
        rw [hq] at m0 m1
        clear hq
        go_wp2_with fail
        refine (PK.out _).mono ?_
        rintro e w9 ⟨rfl, rfl⟩
        obtain ⟨K, A, N, E, T, D1, D2⟩ := HS.out a0 q (by omega) (by omega) (by omega)
        go_wp2_with fail
        with_reducible refine (D1.out _).mono ?_
        rintro e w1 ⟨rfl, h1⟩
        have kz1 := h1.size
        (try simp only [World.size_alloc, World.size_setCell, World.size_drew] at kz1)
        have H1 := Lib.hid h1
        clear h1
        go_wp2_with fail
        with_reducible refine (D2.out _).mono ?_
        rintro e w2 ⟨rfl, h2⟩
        have q := keep3 h2 (b := w1.heap.size) (by first | (simp; done) | (simp; omega) | omega)
        have kc2_0_0 := q.1
        have kc2_0_1 := q.2.1
        have kc2_0_2 := q.2.2.1
        have kf2_0_0 := q.2.2.2.1
        have kf2_0_1 := q.2.2.2.2.1
        have kf2_0_2 := q.2.2.2.2.2.1
        have kl2_0 := q.2.2.2.2.2.2.1
        have kn2_0 := q.2.2.2.2.2.2.2.1
        have km2_0 := q.2.2.2.2.2.2.2.2
        clear q
        have kz2 := h2.size
        (try simp only [World.size_alloc, World.size_setCell, World.size_drew] at kz2)
        have H2 := Lib.hid h2
        clear h2
        go_wp2_with fail
        refine (tawake_any _).mono ?_
        unfold BRes
        rintro e w3 ⟨rfl, h3⟩
        have q := keep3 h3 (b := w1.heap.size) (by first | (simp; done) | (simp; omega) | omega)
        have kc3_0_0 := q.1
        have kc3_0_1 := q.2.1
        have kc3_0_2 := q.2.2.1
        have kf3_0_0 := q.2.2.2.1
        have kf3_0_1 := q.2.2.2.2.1
        have kf3_0_2 := q.2.2.2.2.2.1
        have kl3_0 := q.2.2.2.2.2.2.1
        have kn3_0 := q.2.2.2.2.2.2.2.1
        have km3_0 := q.2.2.2.2.2.2.2.2
        clear q
        have q := keep3 h3 (b := w2.heap.size) (by first | (simp; done) | (simp; omega) | omega)
        have kc3_1_0 := q.1
        have kc3_1_1 := q.2.1
        have kc3_1_2 := q.2.2.1
        have kf3_1_0 := q.2.2.2.1
        have kf3_1_1 := q.2.2.2.2.1
        have kf3_1_2 := q.2.2.2.2.2.1
        have kl3_1 := q.2.2.2.2.2.2.1
        have kn3_1 := q.2.2.2.2.2.2.2.1
        have km3_1 := q.2.2.2.2.2.2.2.2
        clear q
        have kz3 := h3.size
        (try simp only [World.size_alloc, World.size_setCell, World.size_drew] at kz3)
        have H3 := Lib.hid h3
        clear h3
        go_wp2
        go_ret
        exact ⟨ret_b (by simp), by (show Rel _ _; repeat (first | with_reducible exact Rel.refl _ | with_reducible refine Rel.alloc ?_ _ | with_reducible refine Rel.setCell ?_ (by first | (simp; done) | (simp; omega)) _ | with_reducible refine Rel.drew ?_ | with_reducible refine Rel.trans ?_ H3.out | with_reducible refine Rel.trans ?_ H2.out | with_reducible refine Rel.trans ?_ H1.out | with_reducible refine Rel.trans ?_ H0.out))⟩
      · have q0 : ((a0.size : Int) == 0) = false := by rw [beq_eq_false_iff_ne]; omega
        go_enter Try.func3, Try.ntmps3
        go_wp2_with fail
        refine (text_any _ _ _ _ b1 b2 c2).mono ?_
        rintro e w0 ⟨t, rfl, ht, h0⟩
        have kz0 := h0.size
        (try simp only [World.size_alloc, World.size_setCell, World.size_drew] at kz0)
        have H0 := Lib.hid h0
        clear h0
        have e2 : IntKind.i64.wrap ((t.size : Int) + 2) = (t.size : Int) + 2 := IntWalk.i64_in _ ⟨by omega, by omega⟩
        have m0 := Int.emod_nonneg a3 (show (t.size : Int) + 2 ≠ 0 by omega)
        have m1 := Int.emod_lt_of_pos a3 (show 0 < (t.size : Int) + 2 by omega)
        obtain ⟨q, hq⟩ : ∃ q, a3 % ((t.size : Int) + 2) = q := ⟨_, rfl⟩
        have PK : Hid (∀ w, Calls Try.prog 10 #[.int .i64 a3, .int .i64 ((t.size : Int) + 2)] w fun e w' => e = .returned (.int .i64 q) ∧ w = w') := fun w => by
          have := pick_any a3 ((t.size : Int) + 2) w b3 c3 (by omega) (by omega); rwa [hq] at this
        rw [hq] at m0 m1
        clear hq
        go_wp2_with fail
        refine (PK.out _).mono ?_
        rintro e w9 ⟨rfl, rfl⟩
        obtain ⟨K, A, N, E, T, D1, D2⟩ := HS.out t q (by omega) (by omega) (by omega)
        go_wp2_with fail
        with_reducible refine (D1.out _).mono ?_
        rintro e w1 ⟨rfl, h1⟩
        have kz1 := h1.size
        (try simp only [World.size_alloc, World.size_setCell, World.size_drew] at kz1)
        have H1 := Lib.hid h1
        clear h1
        go_wp2_with fail
        with_reducible refine (D2.out _).mono ?_
        rintro e w2 ⟨rfl, h2⟩
        have q := keep3 h2 (b := w1.heap.size) (by first | (simp; done) | (simp; omega) | omega)
        have kc2_0_0 := q.1
        have kc2_0_1 := q.2.1
        have kc2_0_2 := q.2.2.1
        have kf2_0_0 := q.2.2.2.1
        have kf2_0_1 := q.2.2.2.2.1
        have kf2_0_2 := q.2.2.2.2.2.1
        have kl2_0 := q.2.2.2.2.2.2.1
        have kn2_0 := q.2.2.2.2.2.2.2.1
        have km2_0 := q.2.2.2.2.2.2.2.2
        clear q
        have kz2 := h2.size
        (try simp only [World.size_alloc, World.size_setCell, World.size_drew] at kz2)
        have H2 := Lib.hid h2
        clear h2
        go_wp2_with fail
        refine (tawake_any _).mono ?_
        unfold BRes
        rintro e w3 ⟨rfl, h3⟩
        have q := keep3 h3 (b := w1.heap.size) (by first | (simp; done) | (simp; omega) | omega)
        have kc3_0_0 := q.1
        have kc3_0_1 := q.2.1
        have kc3_0_2 := q.2.2.1
        have kf3_0_0 := q.2.2.2.1
        have kf3_0_1 := q.2.2.2.2.1
        have kf3_0_2 := q.2.2.2.2.2.1
        have kl3_0 := q.2.2.2.2.2.2.1
        have kn3_0 := q.2.2.2.2.2.2.2.1
        have km3_0 := q.2.2.2.2.2.2.2.2
        clear q
        have q := keep3 h3 (b := w2.heap.size) (by first | (simp; done) | (simp; omega) | omega)
        have kc3_1_0 := q.1
        have kc3_1_1 := q.2.1
        have kc3_1_2 := q.2.2.1
        have kf3_1_0 := q.2.2.2.1
        have kf3_1_1 := q.2.2.2.2.1
        have kf3_1_2 := q.2.2.2.2.2.1
        have kl3_1 := q.2.2.2.2.2.2.1
        have kn3_1 := q.2.2.2.2.2.2.2.1
        have km3_1 := q.2.2.2.2.2.2.2.2
        clear q
        have kz3 := h3.size
        (try simp only [World.size_alloc, World.size_setCell, World.size_drew] at kz3)
        have H3 := Lib.hid h3
        clear h3
        go_wp2
        go_ret
        exact ⟨ret_b (by simp), by (show Rel _ _; repeat (first | with_reducible exact Rel.refl _ | with_reducible refine Rel.alloc ?_ _ | with_reducible refine Rel.setCell ?_ (by first | (simp; done) | (simp; omega)) _ | with_reducible refine Rel.drew ?_ | with_reducible refine Rel.trans ?_ H3.out | with_reducible refine Rel.trans ?_ H2.out | with_reducible refine Rel.trans ?_ H1.out | with_reducible refine Rel.trans ?_ H0.out))⟩

end Go.Proofs.Ytfdajdlbkdfhoaa

/- Contracts of lowest, product and quotient. No conditions but those printed. -/
import Derived.Test.YtnhmebhmlbofgaaDoorRatE
namespace Go.Proofs.YtnhmebhmlbofgaaDoor
open Go.RowKit Frac

attribute [local go_sem] calmUpon
set_option linter.unusedSimpArgs false
set_option linter.unusedVariables false

set_option maxHeartbeats 3200000 in
theorem lowest_core (s : Bool) (h l d r g H L r2 D Q1 Q2 : Nat) (A B C : Int) (w : World) (hg : 0 < g) (hd2 : d < 18446744073709551616) (hD : d / g = D)
    (O1 : Hid (∀ w, Calls Tryd.prog 60 #[.agg #[.int .u64 h, .int .u64 l], .int .u64 d] w fun e w' => e = .returned (.tuple #[.agg #[.int .u64 Q1, .int .u64 Q2], .int .u64 r]) ∧ Rel w w'))
    (G : Hid (∀ w, Calls Tryd.prog 61 #[.int .u64 d, .int .u64 r] w fun e w' => e = .returned (.int .u64 g) ∧ Rel w w'))
    (O2 : Hid (∀ w, Calls Tryd.prog 60 #[.agg #[.int .u64 h, .int .u64 l], .int .u64 g] w fun e w' => e = .returned (.tuple #[.agg #[.int .u64 H, .int .u64 L], .int .u64 r2]) ∧ Rel w w'))
    (hw : (((H : Int) != 0) = true ∧ A = 0 ∧ B = 0 ∧ C = 2) ∨
    (((H : Int) != 0) = false ∧ decide ((1000000000000000 : Int) < L) = true ∧ A = 0 ∧ B = 0 ∧ C = 2) ∨
    (((H : Int) != 0) = false ∧ decide ((1000000000000000 : Int) < L) = false ∧ decide ((1000000000 : Int) < D) = true ∧ A = 0 ∧ B = 0 ∧ C = 2) ∨
    (((H : Int) != 0) = false ∧ decide ((1000000000000000 : Int) < L) = false ∧ decide ((1000000000 : Int) < D) = false ∧ L ≤ 1000000000000000 ∧ D ≤ 1000000000 ∧ A = (if s = true then -(L : Int) else L) ∧ B = D ∧ C = 0)) :
    Calls Tryd.prog 50 #[.bool s, .agg #[.int .u64 h, .int .u64 l], .int .u64 d] w (FrRes A B C w) := by
  have hdv : (d : Int) / g = D := by rw [← hD]; rfl
  have hdt : Int.tdiv (d : Int) g = D := by rw [tdiv_nat, hD]
  have hy1 : ((g : Int) == 0) = false := by simp; omega
  have hDd : D < 18446744073709551616 := by rw [← hD]; exact Nat.lt_of_le_of_lt (Nat.div_le_self _ _) hd2
  have hDw := u64_nat hDd
  clear hD
  unfold FrRes
  rcases hw with ⟨k1, rfl, rfl, rfl⟩ | ⟨k1, k2, rfl, rfl, rfl⟩ | ⟨k1, k2, k3, rfl, rfl, rfl⟩ | ⟨k1, k2, k3, k4, k5, hA, rfl, rfl⟩
  rotate_left
  rotate_left
  rotate_left
  · subst hA
    cases s
    all_goals
      go_enter Tryd.func50, Tryd.ntmps50
      go_wp2_with fail
      refine (O1.out _).mono ?_
      rintro e w1 ⟨rfl, h1⟩
      have q := keep2 h1 (b := w.heap.size) (by first | (simp; done) | (simp; omega) | omega)
      have kc1_0_0 := q.1
      have kc1_0_1 := q.2.1
      have kf1_0_0 := q.2.2.1
      have kf1_0_1 := q.2.2.2.1
      have kl1_0 := q.2.2.2.2.1
      have kn1_0 := q.2.2.2.2.2.1
      have km1_0 := q.2.2.2.2.2.2
      clear q
      have q := keep2 h1 (b := w.heap.size + 1) (by first | (simp; done) | (simp; omega) | omega)
      have kc1_1_0 := q.1
      have kc1_1_1 := q.2.1
      have kf1_1_0 := q.2.2.1
      have kf1_1_1 := q.2.2.2.1
      have kl1_1 := q.2.2.2.2.1
      have kn1_1 := q.2.2.2.2.2.1
      have km1_1 := q.2.2.2.2.2.2
      clear q
      have kz1 := h1.size
      (try simp only [World.size_alloc, World.size_setCell, World.size_drew] at kz1)
      have H1 := Lib.hid h1
      clear h1
      go_wp2_with fail
      refine (G.out _).mono ?_
      rintro e w2 ⟨rfl, h2⟩
      have q := keep2 h2 (b := w.heap.size) (by first | (simp; done) | (simp; omega) | omega)
      have kc2_0_0 := q.1
      have kc2_0_1 := q.2.1
      have kf2_0_0 := q.2.2.1
      have kf2_0_1 := q.2.2.2.1
      have kl2_0 := q.2.2.2.2.1
      have kn2_0 := q.2.2.2.2.2.1
      have km2_0 := q.2.2.2.2.2.2
      clear q
      have q := keep2 h2 (b := w.heap.size + 1) (by first | (simp; done) | (simp; omega) | omega)
      have kc2_1_0 := q.1
      have kc2_1_1 := q.2.1
      have kf2_1_0 := q.2.2.1
      have kf2_1_1 := q.2.2.2.1
      have kl2_1 := q.2.2.2.2.1
      have kn2_1 := q.2.2.2.2.2.1
      have km2_1 := q.2.2.2.2.2.2
      clear q
      have kz2 := h2.size
      (try simp only [World.size_alloc, World.size_setCell, World.size_drew] at kz2)
      have H2 := Lib.hid h2
      clear h2
      go_wp2_with fail
      refine (O2.out _).mono ?_
      rintro e w3 ⟨rfl, h3⟩
      have q := keep2 h3 (b := w.heap.size) (by first | (simp; done) | (simp; omega) | omega)
      have kc3_0_0 := q.1
      have kc3_0_1 := q.2.1
      have kf3_0_0 := q.2.2.1
      have kf3_0_1 := q.2.2.2.1
      have kl3_0 := q.2.2.2.2.1
      have kn3_0 := q.2.2.2.2.2.1
      have km3_0 := q.2.2.2.2.2.2
      clear q
      have q := keep2 h3 (b := w.heap.size + 1) (by first | (simp; done) | (simp; omega) | omega)
      have kc3_1_0 := q.1
      have kc3_1_1 := q.2.1
      have kf3_1_0 := q.2.2.1
      have kf3_1_1 := q.2.2.2.1
      have kl3_1 := q.2.2.2.2.1
      have kn3_1 := q.2.2.2.2.2.1
      have km3_1 := q.2.2.2.2.2.2
      clear q
      have kz3 := h3.size
      (try simp only [World.size_alloc, World.size_setCell, World.size_drew] at kz3)
      have H3 := Lib.hid h3
      clear h3
      go_wp2_with fail
      refine bodyPost_ret ?_ rfl ⟨rfl, ?_⟩
      · simp [results, Tryd.results50, go_sem, kc3_1_0, kc3_1_1, kc2_1_0, kc2_1_1, kc1_1_0, kc1_1_1, kl3_1, kl2_1, kl1_1]
      · (show Rel _ _; repeat (first | with_reducible exact Rel.refl _ | with_reducible refine Rel.alloc ?_ _ | with_reducible refine Rel.setCell ?_ (by first | (simp; done) | (simp; omega)) _ | with_reducible refine Rel.drew ?_ | with_reducible refine Rel.trans ?_ H3.out | with_reducible refine Rel.trans ?_ H2.out | with_reducible refine Rel.trans ?_ H1.out | with_reducible refine Rel.trans ?_ H0.out))
  all_goals
      go_enter Tryd.func50, Tryd.ntmps50
      go_wp2_with fail
      refine (O1.out _).mono ?_
      rintro e w1 ⟨rfl, h1⟩
      have q := keep2 h1 (b := w.heap.size) (by first | (simp; done) | (simp; omega) | omega)
      have kc1_0_0 := q.1
      have kc1_0_1 := q.2.1
      have kf1_0_0 := q.2.2.1
      have kf1_0_1 := q.2.2.2.1
      have kl1_0 := q.2.2.2.2.1
      have kn1_0 := q.2.2.2.2.2.1
      have km1_0 := q.2.2.2.2.2.2
      clear q
      have q := keep2 h1 (b := w.heap.size + 1) (by first | (simp; done) | (simp; omega) | omega)
      have kc1_1_0 := q.1
      have kc1_1_1 := q.2.1
      have kf1_1_0 := q.2.2.1
      have kf1_1_1 := q.2.2.2.1
      have kl1_1 := q.2.2.2.2.1
      have kn1_1 := q.2.2.2.2.2.1
      have km1_1 := q.2.2.2.2.2.2
      clear q
      have kz1 := h1.size
      (try simp only [World.size_alloc, World.size_setCell, World.size_drew] at kz1)
      have H1 := Lib.hid h1
      clear h1
      go_wp2_with fail
      refine (G.out _).mono ?_
      rintro e w2 ⟨rfl, h2⟩
      have q := keep2 h2 (b := w.heap.size) (by first | (simp; done) | (simp; omega) | omega)
      have kc2_0_0 := q.1
      have kc2_0_1 := q.2.1
      have kf2_0_0 := q.2.2.1
      have kf2_0_1 := q.2.2.2.1
      have kl2_0 := q.2.2.2.2.1
      have kn2_0 := q.2.2.2.2.2.1
      have km2_0 := q.2.2.2.2.2.2
      clear q
      have q := keep2 h2 (b := w.heap.size + 1) (by first | (simp; done) | (simp; omega) | omega)
      have kc2_1_0 := q.1
      have kc2_1_1 := q.2.1
      have kf2_1_0 := q.2.2.1
      have kf2_1_1 := q.2.2.2.1
      have kl2_1 := q.2.2.2.2.1
      have kn2_1 := q.2.2.2.2.2.1
      have km2_1 := q.2.2.2.2.2.2
      clear q
      have kz2 := h2.size
      (try simp only [World.size_alloc, World.size_setCell, World.size_drew] at kz2)
      have H2 := Lib.hid h2
      clear h2
      go_wp2_with fail
      refine (O2.out _).mono ?_
      rintro e w3 ⟨rfl, h3⟩
      have q := keep2 h3 (b := w.heap.size) (by first | (simp; done) | (simp; omega) | omega)
      have kc3_0_0 := q.1
      have kc3_0_1 := q.2.1
      have kf3_0_0 := q.2.2.1
      have kf3_0_1 := q.2.2.2.1
      have kl3_0 := q.2.2.2.2.1
      have kn3_0 := q.2.2.2.2.2.1
      have km3_0 := q.2.2.2.2.2.2
      clear q
      have q := keep2 h3 (b := w.heap.size + 1) (by first | (simp; done) | (simp; omega) | omega)
      have kc3_1_0 := q.1
      have kc3_1_1 := q.2.1
      have kf3_1_0 := q.2.2.1
      have kf3_1_1 := q.2.2.2.1
      have kl3_1 := q.2.2.2.2.1
      have kn3_1 := q.2.2.2.2.2.1
      have km3_1 := q.2.2.2.2.2.2
      clear q
      have kz3 := h3.size
      (try simp only [World.size_alloc, World.size_setCell, World.size_drew] at kz3)
      have H3 := Lib.hid h3
      clear h3
      go_wp2_with fail
      refine bodyPost_ret ?_ rfl ⟨rfl, ?_⟩
      · simp [results, Tryd.results50, go_sem, kc3_1_0, kc3_1_1, kc2_1_0, kc2_1_1, kc1_1_0, kc1_1_1, kl3_1, kl2_1, kl1_1]
      · (show Rel _ _; repeat (first | with_reducible exact Rel.refl _ | with_reducible refine Rel.alloc ?_ _ | with_reducible refine Rel.setCell ?_ (by first | (simp; done) | (simp; omega)) _ | with_reducible refine Rel.drew ?_ | with_reducible refine Rel.trans ?_ H3.out | with_reducible refine Rel.trans ?_ H2.out | with_reducible refine Rel.trans ?_ H1.out | with_reducible refine Rel.trans ?_ H0.out))

end Go.Proofs.YtnhmebhmlbofgaaDoor

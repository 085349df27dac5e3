/- Walk of the law RationalMakes. No conditions but those printed. -/
import Derived.Test.YtdhfecaoadnogaaRatN
namespace Go.Proofs.Ytdhfecaoadnogaa
open Go.RowKit Frac

attribute [local go_sem] calmUpon
set_option linter.unusedSimpArgs false
set_option linter.unusedVariables false

set_option maxHeartbeats 3200000 in
theorem makes_core (n d x y A B E : Int) (v : Bool) (w : World) (hE : ((E == 0) = true ∧ (E != 0) = false) ∨ ((E == 0) = false ∧ (E != 0) = true))
    (M1 : Hid (∀ w, Calls Try.prog 15 #[.int .i64 n, .int .i64 d] w fun e w' => e = .returned (.tuple #[.agg #[.int .i64 A, .int .i64 B], .int .i64 E]) ∧ Rel w w'))
    (M2 : Hid (∀ w, Calls Try.prog 16 #[.int .i64 n, .int .i64 d] w fun e w' => e = .returned (.tuple #[.agg #[.int .i64 A, .int .i64 B], .int .i64 E]) ∧ Rel w w'))
    (AW : Hid (∀ w, Calls Try.prog 17 #[] w fun e w' => e = .returned (.bool true) ∧ Rel w w'))
    (V1 : Hid (∀ w, Calls Try.prog 18 #[.agg #[.int .i64 x, .int .i64 y]] w fun e w' => e = .returned (.bool v) ∧ Rel w w'))
    (V2 : Hid (∀ w, Calls Try.prog 19 #[.agg #[.int .i64 x, .int .i64 y]] w fun e w' => e = .returned (.bool v) ∧ Rel w w'))
    (V3 : Hid ((E == 0) = true → ∀ w, Calls Try.prog 18 #[.agg #[.int .i64 A, .int .i64 B]] w fun e w' => e = .returned (.bool true) ∧ Rel w w')) :
    Calls Try.prog 3 #[.int .i64 n, .int .i64 d, .agg #[.int .i64 x, .int .i64 y]] w (BRes true w) := by
  unfold BRes
  go_enter Try.func3, Try.ntmps3
  go_wp2_with fail
  with_reducible refine (M1.out _).mono ?_
  rintro e w1 ⟨rfl, h1⟩
  have q := keep2 h1 (b := w.heap.size) (by first | (simp; done) | (simp; omega) | omega)
  have kc1_0_0 := q.1
  have kc1_0_1 := q.2.1
  have kf1_0_0 := q.2.2.1
  have kf1_0_1 := q.2.2.2.1
  have kl1_0 := q.2.2.2.2.1
  have kn1_0 := q.2.2.2.2.2.1
  have km1_0 := q.2.2.2.2.2.2
  clear q
  have kz1 := h1.size
  (try simp only [World.size_alloc, World.size_setCell, World.size_drew] at kz1)
  have H1 := Lib.hid h1
  clear h1
  go_wp2_with fail
  with_reducible refine (M2.out _).mono ?_
  rintro e w2 ⟨rfl, h2⟩
  have q := keep2 h2 (b := w.heap.size) (by first | (simp; done) | (simp; omega) | omega)
  have kc2_0_0 := q.1
  have kc2_0_1 := q.2.1
  have kf2_0_0 := q.2.2.1
  have kf2_0_1 := q.2.2.2.1
  have kl2_0 := q.2.2.2.2.1
  have kn2_0 := q.2.2.2.2.2.1
  have km2_0 := q.2.2.2.2.2.2
  clear q
  have q := keep2 h2 (b := w1.heap.size) (by first | (simp; done) | (simp; omega) | omega)
  have kc2_1_0 := q.1
  have kc2_1_1 := q.2.1
  have kf2_1_0 := q.2.2.1
  have kf2_1_1 := q.2.2.2.1
  have kl2_1 := q.2.2.2.2.1
  have kn2_1 := q.2.2.2.2.2.1
  have km2_1 := q.2.2.2.2.2.2
  clear q
  have kz2 := h2.size
  (try simp only [World.size_alloc, World.size_setCell, World.size_drew] at kz2)
  have H2 := Lib.hid h2
  clear h2
  go_wp2_with fail
  refine wp_region_calm (fun _ w' => w'.cell? { block := w.heap.size, off := 0 } = some (.int .i64 x) ∧ w'.cell? { block := w.heap.size, off := 1 } = some (.int .i64 y) ∧ w'.cell? { block := w1.heap.size, off := 0 } = some (.int .i64 A) ∧ w'.cell? { block := w1.heap.size, off := 1 } = some (.int .i64 B) ∧ w'.cell? { block := w2.heap.size, off := 0 } = some (.int .i64 A) ∧ w'.cell? { block := w2.heap.size, off := 1 } = some (.int .i64 B)) (fun _ => false) [0, 1, 2, 3, 4, 5, 6, 7, 8, 9, 10, 11, 12, 13, 14, 15, 16, 17, 18, 19, 20, 21, 22, 23, 24, 25, 26] 0 (by kernel_rfl) (by kernel_rfl) ?hst ?hS0 (fun w0 h0 => ?_)
  case hst => exact fun _ _ _ h r => ⟨r.cell h.1, r.cell h.2.1, r.cell h.2.2.1, r.cell h.2.2.2.1, r.cell h.2.2.2.2.1, r.cell h.2.2.2.2.2⟩
  case hS0 => exact ⟨by go_simp, by go_simp, by go_simp, by go_simp, by go_simp, by go_simp⟩
  refine wpCalm_go rfl (by kernel_rfl) (fun K hK => ?_)
  apply Exists.intro
  refine ⟨fun M w hM hS => ?_, hK _ ?_⟩
  · unfold calmAt
    go_simp
    with_reducible refine (AW.out _).mono ?_
    rintro e w1 ⟨rfl, hb⟩
    exact ⟨rfl, hb⟩
  clear hK K
  iterate 12
    refine wpCalm_go rfl (by kernel_rfl) (fun K hK => ?_)
    apply Exists.intro
    refine ⟨fun M w hM hS => ?_, hK _ ?_⟩
    · have c1 := hS.1
      have c2 := hS.2.1
      have c3 := hS.2.2.1
      have c4 := hS.2.2.2.1
      have c5 := hS.2.2.2.2.1
      have c6 := hS.2.2.2.2.2
      unfold calmAt
      go_simp
      exact ⟨rfl, Rel.refl _⟩
    clear hK K
  refine wpCalm_go rfl (by kernel_rfl) (fun K hK => ?_)
  apply Exists.intro
  refine ⟨fun M w hM hS => ?_, hK _ ?_⟩
  · unfold calmAt
    go_simp
    with_reducible refine (V1.out _).mono ?_
    rintro e w1 ⟨rfl, hb⟩
    exact ⟨rfl, hb⟩
  clear hK K
  iterate 1
    refine wpCalm_go rfl (by kernel_rfl) (fun K hK => ?_)
    apply Exists.intro
    refine ⟨fun M w hM hS => ?_, hK _ ?_⟩
    · have c1 := hS.1
      have c2 := hS.2.1
      have c3 := hS.2.2.1
      have c4 := hS.2.2.2.1
      have c5 := hS.2.2.2.2.1
      have c6 := hS.2.2.2.2.2
      unfold calmAt
      go_simp
      exact ⟨rfl, Rel.refl _⟩
    clear hK K
  refine wpCalm_go rfl (by kernel_rfl) (fun K hK => ?_)
  apply Exists.intro
  refine ⟨fun M w hM hS => ?_, hK _ ?_⟩
  · unfold calmAt
    go_simp
    with_reducible refine (V2.out _).mono ?_
    rintro e w1 ⟨rfl, hb⟩
    exact ⟨rfl, hb⟩
  clear hK K
  rcases hE with ⟨z0, z1⟩ | ⟨z0, z1⟩
  · have V := Lib.hid (V3.out z0)
    iterate 7
      refine wpCalm_go rfl (by kernel_rfl) (fun K hK => ?_)
      apply Exists.intro
      refine ⟨fun M w hM hS => ?_, hK _ ?_⟩
      · have c1 := hS.1
        have c2 := hS.2.1
        have c3 := hS.2.2.1
        have c4 := hS.2.2.2.1
        have c5 := hS.2.2.2.2.1
        have c6 := hS.2.2.2.2.2
        unfold calmAt
        go_simp
        exact ⟨rfl, Rel.refl _⟩
      clear hK K
    refine wpCalm_go rfl (by kernel_rfl) (fun K hK => ?_)
    apply Exists.intro
    refine ⟨fun M w hM hS => ?_, hK _ ?_⟩
    · unfold calmAt
      go_simp
      with_reducible refine (V.out _).mono ?_
      rintro e w1 ⟨rfl, hb⟩
      exact ⟨rfl, hb⟩
    clear hK K
    iterate 3
      refine wpCalm_go rfl (by kernel_rfl) (fun K hK => ?_)
      apply Exists.intro
      refine ⟨fun M w hM hS => ?_, hK _ ?_⟩
      · unfold calmAt
        go_simp
        exact ⟨rfl, Rel.refl _⟩
      clear hK K
    refine wpAnyR_end (by kernel_rfl) (fun w3 h3 => ?_)
    (try simp only [Act.put, List.setIfInBounds_toArray, List.set_cons_zero, List.set_cons_succ])
    have kz3 := h3.size
    (try simp only [World.size_alloc, World.size_setCell, World.size_drew] at kz3)
    have H3 := Lib.hid h3
    clear h3
    have H0 := Lib.hid h0
    go_wp2
    go_ret
    exact ⟨rfl, by (repeat (first | with_reducible exact Rel.refl _ | with_reducible refine Rel.alloc ?_ _ | with_reducible refine Rel.setCell ?_ (by first | (simp; done) | (simp; omega)) _ | with_reducible refine Rel.drew ?_ | with_reducible refine Rel.trans ?_ H3.out | with_reducible refine Rel.trans ?_ H2.out | with_reducible refine Rel.trans ?_ H1.out | with_reducible refine Rel.trans ?_ H0.out))⟩
  · iterate 6
      refine wpCalm_go rfl (by kernel_rfl) (fun K hK => ?_)
      apply Exists.intro
      refine ⟨fun M w hM hS => ?_, hK _ ?_⟩
      · have c1 := hS.1
        have c2 := hS.2.1
        have c3 := hS.2.2.1
        have c4 := hS.2.2.2.1
        have c5 := hS.2.2.2.2.1
        have c6 := hS.2.2.2.2.2
        unfold calmAt
        go_simp
        exact ⟨rfl, Rel.refl _⟩
      clear hK K
    iterate 2 (refine wpCalm_no rfl (by kernel_rfl) (fun K hK => hK _ ?_); clear hK K)
    iterate 3
      refine wpCalm_go rfl (by kernel_rfl) (fun K hK => ?_)
      apply Exists.intro
      refine ⟨fun M w hM hS => ?_, hK _ ?_⟩
      · have c1 := hS.1
        have c2 := hS.2.1
        have c3 := hS.2.2.1
        have c4 := hS.2.2.2.1
        have c5 := hS.2.2.2.2.1
        have c6 := hS.2.2.2.2.2
        unfold calmAt
        go_simp
        exact ⟨rfl, Rel.refl _⟩
      clear hK K
    refine wpAnyR_end (by kernel_rfl) (fun w3 h3 => ?_)
    (try simp only [Act.put, List.setIfInBounds_toArray, List.set_cons_zero, List.set_cons_succ])
    have kz3 := h3.size
    (try simp only [World.size_alloc, World.size_setCell, World.size_drew] at kz3)
    have H3 := Lib.hid h3
    clear h3
    have H0 := Lib.hid h0
    go_wp2
    go_ret
    exact ⟨rfl, by (repeat (first | with_reducible exact Rel.refl _ | with_reducible refine Rel.alloc ?_ _ | with_reducible refine Rel.setCell ?_ (by first | (simp; done) | (simp; omega)) _ | with_reducible refine Rel.drew ?_ | with_reducible refine Rel.trans ?_ H3.out | with_reducible refine Rel.trans ?_ H2.out | with_reducible refine Rel.trans ?_ H1.out | with_reducible refine Rel.trans ?_ H0.out))⟩

theorem walk_RationalMakes (a0 : Int) (a1 : Int) (a2a a2b : Int) (b0 : -9223372036854775808 ≤ a0) (c0 : a0 ≤ 9223372036854775807) (b1 : -9223372036854775808 ≤ a1) (c1 : a1 ≤ 9223372036854775807) (b2a : -9223372036854775808 ≤ a2a) (c2a : a2a ≤ 9223372036854775807) (b2b : -9223372036854775808 ≤ a2b) (c2b : a2b ≤ 9223372036854775807) (w : World) :
    Calls Try.prog 3 #[.int .i64 a0, .int .i64 a1, .agg #[.int .i64 a2a, .int .i64 a2b]] w fun e w' => e = .returned (.bool true) ∧ Below w.heap.size w w' := by
  refine (makes_core a0 a1 a2a a2b (mkN a0 a1) (mkD a0 a1) (mkE a0 a1) (validB a2a a2b) w (by by_cases h : mkE a0 a1 = 0; left; simp [h]; right; simp [h]) (Lib.hid fun w => make_any a0 a1 w b0 c0 b1 c1) (Lib.hid fun w => rmake_any a0 a1 w b0 c0 b1 c1) (Lib.hid awake_any)
    (Lib.hid fun w => valid_is rfl w b2a c2a b2b c2b) (Lib.hid fun w => rvalid_is rfl w b2a c2a b2b c2b) (Lib.hid fun he w => ?_)).mono fun e w' h => h
  have := mk_bd a0 a1
  exact valid_is (mk_valid (by simpa using he)) w (by omega) (by omega) (by omega) (by omega)

end Go.Proofs.Ytdhfecaoadnogaa

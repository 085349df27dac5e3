/- Contract of Add. No conditions but those printed. -/
import Derived.Test.YtdhfecaoadnogaaRatK
namespace Go.Proofs.Ytdhfecaoadnogaa
open Go.RowKit Frac

attribute [local go_sem] calmUpon
set_option linter.unusedSimpArgs false
set_option linter.unusedVariables false

set_option maxHeartbeats 12800000 in
theorem add_core (a b c d : Int) (s : Bool) (A B C D xh xl yh yl Xh Xl E F g Rm Qh Ql : Nat) (R1 R2 R3 : Int) (w : World) (hE : IntKind.u64.wrap ((B : Int) * D) = E)
    (V1 : Hid (∀ w, Calls Try.prog 18 #[.agg #[.int .i64 a, .int .i64 b]] w fun e w' => e = .returned (.bool true) ∧ Rel w w'))
    (V2 : Hid (∀ w, Calls Try.prog 18 #[.agg #[.int .i64 c, .int .i64 d]] w fun e w' => e = .returned (.bool true) ∧ Rel w w'))
    (S1 : Hid (∀ w, Calls Try.prog 37 #[.int .i64 a] w fun e w' => e = .returned (.int .u64 A) ∧ w = w'))
    (S2 : Hid (∀ w, Calls Try.prog 37 #[.int .i64 b] w fun e w' => e = .returned (.int .u64 B) ∧ w = w'))
    (S3 : Hid (∀ w, Calls Try.prog 37 #[.int .i64 c] w fun e w' => e = .returned (.int .u64 C) ∧ w = w'))
    (S4 : Hid (∀ w, Calls Try.prog 37 #[.int .i64 d] w fun e w' => e = .returned (.int .u64 D) ∧ w = w'))
    (T1 : Hid (∀ w, Calls Try.prog 46 #[.int .u64 A, .int .u64 D] w fun e w' => e = .returned (.agg #[.int .u64 xh, .int .u64 xl]) ∧ Rel w w'))
    (T2 : Hid (∀ w, Calls Try.prog 46 #[.int .u64 C, .int .u64 B] w fun e w' => e = .returned (.agg #[.int .u64 yh, .int .u64 yl]) ∧ Rel w w'))
    (hway : (decide (a < 0) = false ∧ decide (c < 0) = false ∧ s = false ∧ Hid (∀ w, Calls Try.prog 49 #[.agg #[.int .u64 xh, .int .u64 xl], .agg #[.int .u64 yh, .int .u64 yl]] w fun e w' => e = .returned (.agg #[.int .u64 Xh, .int .u64 Xl]) ∧ Rel w w')) ∨
      (decide (a < 0) = true ∧ decide (c < 0) = true ∧ s = true ∧ Hid (∀ w, Calls Try.prog 49 #[.agg #[.int .u64 xh, .int .u64 xl], .agg #[.int .u64 yh, .int .u64 yl]] w fun e w' => e = .returned (.agg #[.int .u64 Xh, .int .u64 Xl]) ∧ Rel w w')) ∨
      (decide (a < 0) = true ∧ decide (c < 0) = false ∧ s = false ∧ Hid (∀ w, Calls Try.prog 47 #[.agg #[.int .u64 xh, .int .u64 xl], .agg #[.int .u64 yh, .int .u64 yl]] w fun e w' => e = .returned (.bool true) ∧ Rel w w') ∧ Hid (∀ w, Calls Try.prog 50 #[.agg #[.int .u64 yh, .int .u64 yl], .agg #[.int .u64 xh, .int .u64 xl]] w fun e w' => e = .returned (.agg #[.int .u64 Xh, .int .u64 Xl]) ∧ Rel w w')) ∨
      (decide (a < 0) = false ∧ decide (c < 0) = true ∧ s = true ∧ Hid (∀ w, Calls Try.prog 47 #[.agg #[.int .u64 xh, .int .u64 xl], .agg #[.int .u64 yh, .int .u64 yl]] w fun e w' => e = .returned (.bool true) ∧ Rel w w') ∧ Hid (∀ w, Calls Try.prog 50 #[.agg #[.int .u64 yh, .int .u64 yl], .agg #[.int .u64 xh, .int .u64 xl]] w fun e w' => e = .returned (.agg #[.int .u64 Xh, .int .u64 Xl]) ∧ Rel w w')) ∨
      (decide (a < 0) = true ∧ decide (c < 0) = false ∧ s = true ∧ Hid (∀ w, Calls Try.prog 47 #[.agg #[.int .u64 xh, .int .u64 xl], .agg #[.int .u64 yh, .int .u64 yl]] w fun e w' => e = .returned (.bool false) ∧ Rel w w') ∧ Hid (∀ w, Calls Try.prog 50 #[.agg #[.int .u64 xh, .int .u64 xl], .agg #[.int .u64 yh, .int .u64 yl]] w fun e w' => e = .returned (.agg #[.int .u64 Xh, .int .u64 Xl]) ∧ Rel w w')) ∨
      (decide (a < 0) = false ∧ decide (c < 0) = true ∧ s = false ∧ Hid (∀ w, Calls Try.prog 47 #[.agg #[.int .u64 xh, .int .u64 xl], .agg #[.int .u64 yh, .int .u64 yl]] w fun e w' => e = .returned (.bool false) ∧ Rel w w') ∧ Hid (∀ w, Calls Try.prog 50 #[.agg #[.int .u64 xh, .int .u64 xl], .agg #[.int .u64 yh, .int .u64 yl]] w fun e w' => e = .returned (.agg #[.int .u64 Xh, .int .u64 Xl]) ∧ Rel w w')))
    (hres : (Xh = 0 ∧ Xl = 0 ∧ R1 = 0 ∧ R2 = 1 ∧ R3 = 0) ∨
      ((((Xh : Int) == 0) = true ∧ ((Xl : Int) == 0) = false ∨ ((Xh : Int) == 0) = false) ∧ 0 < g ∧ E / g = F ∧ E < 18446744073709551616 ∧
        Hid (∀ w, Calls Try.prog 51 #[.int .u64 Xh, .int .u64 Xl, .int .u64 E] w fun e w' => e = .returned (.int .u64 Rm) ∧ Rel w w') ∧
        Hid (∀ w, Calls Try.prog 38 #[.int .u64 E, .int .u64 Rm] w fun e w' => e = .returned (.int .u64 g) ∧ Rel w w') ∧
        Hid (∀ w, Calls Try.prog 52 #[.agg #[.int .u64 Xh, .int .u64 Xl], .int .u64 g] w fun e w' => e = .returned (.agg #[.int .u64 Qh, .int .u64 Ql]) ∧ Rel w w') ∧
        Hid (∀ w, Calls Try.prog 39 #[.bool s, .agg #[.int .u64 Qh, .int .u64 Ql], .agg #[.int .u64 0, .int .u64 F]] w fun e w' => e = .returned (.tuple #[.agg #[.int .i64 R1, .int .i64 R2], .int .i64 R3]) ∧ Rel w w'))) :
    Calls Try.prog 33 #[.agg #[.int .i64 a, .int .i64 b], .agg #[.int .i64 c, .int .i64 d]] w (FrRes R1 R2 R3 w) := by
  unfold FrRes
  have HW := Lib.hid hway
  have HR := Lib.hid hres
  clear hway hres
  go_enter Try.func33, Try.ntmps33
  go_wp2_with fail
  with_reducible refine (V1.out _).mono ?_
  rintro e w1 ⟨rfl, h1⟩
  have q := keep2 h1 (b := w.heap.size) (by first | (simp; done) | (simp; omega) | omega)
  have kc1_0_0 := q.1
  have kc1_0_1 := q.2.1
  have kf1_0_0 := q.2.2.1
  have kf1_0_1 := q.2.2.2.1
  have kl1_0 := q.2.2.2.2.1
  have kn1_0 := q.2.2.2.2.2.1
  have km1_0 := q.2.2.2.2.2.2
  clear q
  have q := keep2 h1 (b := w.heap.size + 1) (by first | (simp; done) | (simp; omega) | omega)
  have kc1_1_0 := q.1
  have kc1_1_1 := q.2.1
  have kf1_1_0 := q.2.2.1
  have kf1_1_1 := q.2.2.2.1
  have kl1_1 := q.2.2.2.2.1
  have kn1_1 := q.2.2.2.2.2.1
  have km1_1 := q.2.2.2.2.2.2
  clear q
  have q := keep2 h1 (b := w.heap.size + 2) (by first | (simp; done) | (simp; omega) | omega)
  have kc1_2_0 := q.1
  have kc1_2_1 := q.2.1
  have kf1_2_0 := q.2.2.1
  have kf1_2_1 := q.2.2.2.1
  have kl1_2 := q.2.2.2.2.1
  have kn1_2 := q.2.2.2.2.2.1
  have km1_2 := q.2.2.2.2.2.2
  clear q
  have kz1 := h1.size
  (try simp only [World.size_alloc, World.size_setCell, World.size_drew] at kz1)
  have H1 := Lib.hid h1
  clear h1
  go_wp2_with fail
  with_reducible refine (V2.out _).mono ?_
  rintro e w2 ⟨rfl, h2⟩
  have q := keep2 h2 (b := w.heap.size) (by first | (simp; done) | (simp; omega) | omega)
  have kc2_0_0 := q.1
  have kc2_0_1 := q.2.1
  have kf2_0_0 := q.2.2.1
  have kf2_0_1 := q.2.2.2.1
  have kl2_0 := q.2.2.2.2.1
  have kn2_0 := q.2.2.2.2.2.1
  have km2_0 := q.2.2.2.2.2.2
  clear q
  have q := keep2 h2 (b := w.heap.size + 1) (by first | (simp; done) | (simp; omega) | omega)
  have kc2_1_0 := q.1
  have kc2_1_1 := q.2.1
  have kf2_1_0 := q.2.2.1
  have kf2_1_1 := q.2.2.2.1
  have kl2_1 := q.2.2.2.2.1
  have kn2_1 := q.2.2.2.2.2.1
  have km2_1 := q.2.2.2.2.2.2
  clear q
  have q := keep2 h2 (b := w.heap.size + 2) (by first | (simp; done) | (simp; omega) | omega)
  have kc2_2_0 := q.1
  have kc2_2_1 := q.2.1
  have kf2_2_0 := q.2.2.1
  have kf2_2_1 := q.2.2.2.1
  have kl2_2 := q.2.2.2.2.1
  have kn2_2 := q.2.2.2.2.2.1
  have km2_2 := q.2.2.2.2.2.2
  clear q
  have kz2 := h2.size
  (try simp only [World.size_alloc, World.size_setCell, World.size_drew] at kz2)
  have H2 := Lib.hid h2
  clear h2
  go_wp2_with fail
  refine wp_region_calm (fun _ w' => w'.cell? { block := w.heap.size, off := 0 } = some (.int .i64 a) ∧ w'.cell? { block := w.heap.size, off := 1 } = some (.int .i64 b) ∧ w'.cell? { block := w.heap.size + 1, off := 0 } = some (.int .i64 c) ∧ w'.cell? { block := w.heap.size + 1, off := 1 } = some (.int .i64 d)) (fun _ => false) [0, 1, 2, 3, 4, 5, 6, 7, 8, 9, 10, 11, 12, 13] 4 (by kernel_rfl) (by kernel_rfl) ?hst ?hS0 (fun w0 h0 => ?_)
  case hst => exact fun _ _ _ h r => ⟨r.cell h.1, r.cell h.2.1, r.cell h.2.2.1, r.cell h.2.2.2⟩
  case hS0 => exact ⟨by go_simp, by go_simp, by go_simp, by go_simp⟩
  iterate 2
    refine wpCalm_go rfl (by kernel_rfl) (fun K hK => ?_)
    apply Exists.intro
    refine ⟨fun M w hM hS => ?_, hK _ ?_⟩
    · have c1 := hS.1
      have c2 := hS.2.1
      have c3 := hS.2.2.1
      have c4 := hS.2.2.2
      unfold calmAt
      go_simp
      exact ⟨rfl, Rel.refl _⟩
    clear hK K
  refine wpCalm_go rfl (by kernel_rfl) (fun K hK => ?_)
  apply Exists.intro
  refine ⟨fun M w hM hS => ?_, hK _ ?_⟩
  · have c1 := hS.1
    have c2 := hS.2.1
    have c3 := hS.2.2.1
    have c4 := hS.2.2.2
    unfold calmAt
    go_simp
    with_reducible refine (S1.out _).mono ?_
    rintro e w1 ⟨rfl, rfl⟩
    exact ⟨rfl, Rel.refl _⟩
  clear hK K
  iterate 2
    refine wpCalm_go rfl (by kernel_rfl) (fun K hK => ?_)
    apply Exists.intro
    refine ⟨fun M w hM hS => ?_, hK _ ?_⟩
    · have c1 := hS.1
      have c2 := hS.2.1
      have c3 := hS.2.2.1
      have c4 := hS.2.2.2
      unfold calmAt
      go_simp
      exact ⟨rfl, Rel.refl _⟩
    clear hK K
  refine wpCalm_go rfl (by kernel_rfl) (fun K hK => ?_)
  apply Exists.intro
  refine ⟨fun M w hM hS => ?_, hK _ ?_⟩
  · have c1 := hS.1
    have c2 := hS.2.1
    have c3 := hS.2.2.1
    have c4 := hS.2.2.2
    unfold calmAt
    go_simp
    with_reducible refine (S4.out _).mono ?_
    rintro e w1 ⟨rfl, rfl⟩
    exact ⟨rfl, Rel.refl _⟩
  clear hK K
  refine wpCalm_go rfl (by kernel_rfl) (fun K hK => ?_)
  apply Exists.intro
  refine ⟨fun M w hM hS => ?_, hK _ ?_⟩
  · unfold calmAt
    go_simp
    with_reducible refine (T1.out _).mono ?_
    rintro e w1 ⟨rfl, hb⟩
    exact ⟨rfl, hb⟩
  clear hK K
  iterate 2
    refine wpCalm_go rfl (by kernel_rfl) (fun K hK => ?_)
    apply Exists.intro
    refine ⟨fun M w hM hS => ?_, hK _ ?_⟩
    · have c1 := hS.1
      have c2 := hS.2.1
      have c3 := hS.2.2.1
      have c4 := hS.2.2.2
      unfold calmAt
      go_simp
      exact ⟨rfl, Rel.refl _⟩
    clear hK K
  refine wpCalm_go rfl (by kernel_rfl) (fun K hK => ?_)
  apply Exists.intro
  refine ⟨fun M w hM hS => ?_, hK _ ?_⟩
  · have c1 := hS.1
    have c2 := hS.2.1
    have c3 := hS.2.2.1
    have c4 := hS.2.2.2
    unfold calmAt
    go_simp
    with_reducible refine (S3.out _).mono ?_
    rintro e w1 ⟨rfl, rfl⟩
    exact ⟨rfl, Rel.refl _⟩
  clear hK K
  iterate 2
    refine wpCalm_go rfl (by kernel_rfl) (fun K hK => ?_)
    apply Exists.intro
    refine ⟨fun M w hM hS => ?_, hK _ ?_⟩
    · have c1 := hS.1
      have c2 := hS.2.1
      have c3 := hS.2.2.1
      have c4 := hS.2.2.2
      unfold calmAt
      go_simp
      exact ⟨rfl, Rel.refl _⟩
    clear hK K
  refine wpCalm_go rfl (by kernel_rfl) (fun K hK => ?_)
  apply Exists.intro
  refine ⟨fun M w hM hS => ?_, hK _ ?_⟩
  · have c1 := hS.1
    have c2 := hS.2.1
    have c3 := hS.2.2.1
    have c4 := hS.2.2.2
    unfold calmAt
    go_simp
    with_reducible refine (S2.out _).mono ?_
    rintro e w1 ⟨rfl, rfl⟩
    exact ⟨rfl, Rel.refl _⟩
  clear hK K
  refine wpCalm_go rfl (by kernel_rfl) (fun K hK => ?_)
  apply Exists.intro
  refine ⟨fun M w hM hS => ?_, hK _ ?_⟩
  · unfold calmAt
    go_simp
    with_reducible refine (T2.out _).mono ?_
    rintro e w1 ⟨rfl, hb⟩
    exact ⟨rfl, hb⟩
  clear hK K
  refine wpCalm_nil ?_
  have q := keep2 h0 (b := w.heap.size) (by first | (simp; done) | (simp; omega) | omega)
  have kc0_0_0 := q.1
  have kc0_0_1 := q.2.1
  have kf0_0_0 := q.2.2.1
  have kf0_0_1 := q.2.2.2.1
  have kl0_0 := q.2.2.2.2.1
  have kn0_0 := q.2.2.2.2.2.1
  have km0_0 := q.2.2.2.2.2.2
  clear q
  have q := keep2 h0 (b := w.heap.size + 1) (by first | (simp; done) | (simp; omega) | omega)
  have kc0_1_0 := q.1
  have kc0_1_1 := q.2.1
  have kf0_1_0 := q.2.2.1
  have kf0_1_1 := q.2.2.2.1
  have kl0_1 := q.2.2.2.2.1
  have kn0_1 := q.2.2.2.2.2.1
  have km0_1 := q.2.2.2.2.2.2
  clear q
  have q := keep2 h0 (b := w.heap.size + 2) (by first | (simp; done) | (simp; omega) | omega)
  have kc0_2_0 := q.1
  have kc0_2_1 := q.2.1
  have kf0_2_0 := q.2.2.1
  have kf0_2_1 := q.2.2.2.1
  have kl0_2 := q.2.2.2.2.1
  have kn0_2 := q.2.2.2.2.2.1
  have km0_2 := q.2.2.2.2.2.2
  clear q
  have kz0 := h0.size
  (try simp only [World.size_alloc, World.size_setCell, World.size_drew] at kz0)
  have H0 := Lib.hid h0
  clear h0
  (try simp only [Act.put, List.setIfInBounds_toArray, List.set_cons_zero, List.set_cons_succ])
  refine wpAnyR_two (d1 := 6) (d2 := 7) (W := w2) (u0 := .int .u64 xh) (u1 := .int .u64 xl) (v0 := .int .u64 yh) (v1 := .int .u64 yl) ?_ ?_
  · refine wpAnyR_ready (rs := [14, 15]) (by kernel_rfl) (by simp) (AllR.cons rfl (fun w81 h81 K' hK' => ?_) (AllR.cons rfl (fun w81 h81 K' hK' => ?_) AllR.nil))
    · have q := keep2 h81 (b := w.heap.size) (by first | (simp; done) | (simp; omega) | omega)
      have kc81_0_0 := q.1
      have kc81_0_1 := q.2.1
      have kf81_0_0 := q.2.2.1
      have kf81_0_1 := q.2.2.2.1
      have kl81_0 := q.2.2.2.2.1
      have kn81_0 := q.2.2.2.2.2.1
      have km81_0 := q.2.2.2.2.2.2
      clear q
      have q := keep2 h81 (b := w.heap.size + 1) (by first | (simp; done) | (simp; omega) | omega)
      have kc81_1_0 := q.1
      have kc81_1_1 := q.2.1
      have kf81_1_0 := q.2.2.1
      have kf81_1_1 := q.2.2.2.1
      have kl81_1 := q.2.2.2.2.1
      have kn81_1 := q.2.2.2.2.2.1
      have km81_1 := q.2.2.2.2.2.2
      clear q
      have kz81 := h81.size
      (try simp only [World.size_alloc, World.size_setCell, World.size_drew] at kz81)
      have H81 := Lib.hid h81
      clear h81
      go_simp
      refine hK'.out _ _ (by first | trivial | exact ⟨by go_simp, by go_simp, by go_simp, by go_simp⟩) ?_
      clear hK' K'
      refine wpAnyR_ready (rs := [15]) (by kernel_rfl) (by simp) (AllR.cons rfl (fun w82 h82 K' hK' => ?_) AllR.nil)
      have q := keep2 h82 (b := w81.heap.size) (by first | (simp; done) | (simp; omega) | omega)
      have kc82_0_0 := q.1
      have kc82_0_1 := q.2.1
      have kf82_0_0 := q.2.2.1
      have kf82_0_1 := q.2.2.2.1
      have kl82_0 := q.2.2.2.2.1
      have kn82_0 := q.2.2.2.2.2.1
      have km82_0 := q.2.2.2.2.2.2
      clear q
      have q := keep2 h82 (b := w.heap.size) (by first | (simp; done) | (simp; omega) | omega)
      have kc82_1_0 := q.1
      have kc82_1_1 := q.2.1
      have kf82_1_0 := q.2.2.1
      have kf82_1_1 := q.2.2.2.1
      have kl82_1 := q.2.2.2.2.1
      have kn82_1 := q.2.2.2.2.2.1
      have km82_1 := q.2.2.2.2.2.2
      clear q
      have q := keep2 h82 (b := w.heap.size + 1) (by first | (simp; done) | (simp; omega) | omega)
      have kc82_2_0 := q.1
      have kc82_2_1 := q.2.1
      have kf82_2_0 := q.2.2.1
      have kf82_2_1 := q.2.2.2.1
      have kl82_2 := q.2.2.2.2.1
      have kn82_2 := q.2.2.2.2.2.1
      have km82_2 := q.2.2.2.2.2.2
      clear q
      have kz82 := h82.size
      (try simp only [World.size_alloc, World.size_setCell, World.size_drew] at kz82)
      have H82 := Lib.hid h82
      clear h82
      go_simp
      refine hK'.out _ _ (by first | trivial | exact ⟨by go_simp, by go_simp, by go_simp, by go_simp⟩) ?_
      clear hK' K'
      refine wpAnyR_ready (rs := [16]) (by kernel_rfl) (by simp) (AllR.cons rfl (fun w83 h83 K' hK' => ?_) AllR.nil)
      have q := keep2 h83 (b := w81.heap.size) (by first | (simp; done) | (simp; omega) | omega)
      have kc83_0_0 := q.1
      have kc83_0_1 := q.2.1
      have kf83_0_0 := q.2.2.1
      have kf83_0_1 := q.2.2.2.1
      have kl83_0 := q.2.2.2.2.1
      have kn83_0 := q.2.2.2.2.2.1
      have km83_0 := q.2.2.2.2.2.2
      clear q
      have q := keep2 h83 (b := w82.heap.size) (by first | (simp; done) | (simp; omega) | omega)
      have kc83_1_0 := q.1
      have kc83_1_1 := q.2.1
      have kf83_1_0 := q.2.2.1
      have kf83_1_1 := q.2.2.2.1
      have kl83_1 := q.2.2.2.2.1
      have kn83_1 := q.2.2.2.2.2.1
      have km83_1 := q.2.2.2.2.2.2
      clear q
      have q := keep2 h83 (b := w.heap.size) (by first | (simp; done) | (simp; omega) | omega)
      have kc83_2_0 := q.1
      have kc83_2_1 := q.2.1
      have kf83_2_0 := q.2.2.1
      have kf83_2_1 := q.2.2.2.1
      have kl83_2 := q.2.2.2.2.1
      have kn83_2 := q.2.2.2.2.2.1
      have km83_2 := q.2.2.2.2.2.2
      clear q
      have q := keep2 h83 (b := w.heap.size + 1) (by first | (simp; done) | (simp; omega) | omega)
      have kc83_3_0 := q.1
      have kc83_3_1 := q.2.1
      have kf83_3_0 := q.2.2.1
      have kf83_3_1 := q.2.2.2.1
      have kl83_3 := q.2.2.2.2.1
      have kn83_3 := q.2.2.2.2.2.1
      have km83_3 := q.2.2.2.2.2.2
      clear q
      have kz83 := h83.size
      (try simp only [World.size_alloc, World.size_setCell, World.size_drew] at kz83)
      have H83 := Lib.hid h83
      clear h83
      go_simp
      refine hK'.out _ _ (by first | trivial | exact ⟨by go_simp, by go_simp, by go_simp, by go_simp⟩) ?_
      clear hK' K'
      refine wpAnyR_ready (rs := [17]) (by kernel_rfl) (by simp) (AllR.cons rfl (fun w84 h84 K' hK' => ?_) AllR.nil)
      have q := keep2 h84 (b := w81.heap.size) (by first | (simp; done) | (simp; omega) | omega)
      have kc84_0_0 := q.1
      have kc84_0_1 := q.2.1
      have kf84_0_0 := q.2.2.1
      have kf84_0_1 := q.2.2.2.1
      have kl84_0 := q.2.2.2.2.1
      have kn84_0 := q.2.2.2.2.2.1
      have km84_0 := q.2.2.2.2.2.2
      clear q
      have q := keep2 h84 (b := w82.heap.size) (by first | (simp; done) | (simp; omega) | omega)
      have kc84_1_0 := q.1
      have kc84_1_1 := q.2.1
      have kf84_1_0 := q.2.2.1
      have kf84_1_1 := q.2.2.2.1
      have kl84_1 := q.2.2.2.2.1
      have kn84_1 := q.2.2.2.2.2.1
      have km84_1 := q.2.2.2.2.2.2
      clear q
      have q := keep2 h84 (b := w.heap.size) (by first | (simp; done) | (simp; omega) | omega)
      have kc84_2_0 := q.1
      have kc84_2_1 := q.2.1
      have kf84_2_0 := q.2.2.1
      have kf84_2_1 := q.2.2.2.1
      have kl84_2 := q.2.2.2.2.1
      have kn84_2 := q.2.2.2.2.2.1
      have km84_2 := q.2.2.2.2.2.2
      clear q
      have q := keep2 h84 (b := w.heap.size + 1) (by first | (simp; done) | (simp; omega) | omega)
      have kc84_3_0 := q.1
      have kc84_3_1 := q.2.1
      have kf84_3_0 := q.2.2.1
      have kf84_3_1 := q.2.2.2.1
      have kl84_3 := q.2.2.2.2.1
      have kn84_3 := q.2.2.2.2.2.1
      have km84_3 := q.2.2.2.2.2.2
      clear q
      have kz84 := h84.size
      (try simp only [World.size_alloc, World.size_setCell, World.size_drew] at kz84)
      have H84 := Lib.hid h84
      clear h84
      go_simp
      refine hK'.out _ _ (by first | trivial | exact ⟨by go_simp, by go_simp, by go_simp, by go_simp⟩) ?_
      clear hK' K'
      refine wpAnyR_end (by kernel_rfl) (fun w85 h85 => ?_)
      have q := keep2 h85 (b := w81.heap.size) (by first | (simp; done) | (simp; omega) | omega)
      have kc85_0_0 := q.1
      have kc85_0_1 := q.2.1
      have kf85_0_0 := q.2.2.1
      have kf85_0_1 := q.2.2.2.1
      have kl85_0 := q.2.2.2.2.1
      have kn85_0 := q.2.2.2.2.2.1
      have km85_0 := q.2.2.2.2.2.2
      clear q
      have q := keep2 h85 (b := w82.heap.size) (by first | (simp; done) | (simp; omega) | omega)
      have kc85_1_0 := q.1
      have kc85_1_1 := q.2.1
      have kf85_1_0 := q.2.2.1
      have kf85_1_1 := q.2.2.2.1
      have kl85_1 := q.2.2.2.2.1
      have kn85_1 := q.2.2.2.2.2.1
      have km85_1 := q.2.2.2.2.2.2
      clear q
      have kz85 := h85.size
      (try simp only [World.size_alloc, World.size_setCell, World.size_drew] at kz85)
      have H85 := Lib.hid h85
      clear h85
      exact ⟨rfl, w81.heap.size, w82.heap.size, by first | rfl | simp only [Act.put, List.setIfInBounds_toArray, List.set_cons_zero, List.set_cons_succ], by (repeat (first | with_reducible exact Rel.refl _ | with_reducible refine Rel.alloc ?_ _ | with_reducible refine Rel.setCell ?_ (by first | (simp; done) | (simp; omega) | omega) _ | with_reducible refine Rel.drew ?_ | with_reducible refine Rel.trans ?_ H85.out | with_reducible refine Rel.trans ?_ H84.out | with_reducible refine Rel.trans ?_ H83.out | with_reducible refine Rel.trans ?_ H82.out | with_reducible refine Rel.trans ?_ H81.out | with_reducible exact H0.out)), by first | (simp; done) | (simp; omega) | omega, by first | (simp; done) | (simp; omega) | omega, by first | (simp; done) | (simp; omega) | omega, by first | assumption | (simp; omega), by first | assumption | (simp; omega), by go_simp, by go_simp, by go_simp, by go_simp, by go_simp, by go_simp, by go_simp, by go_simp⟩
    · have q := keep2 h81 (b := w.heap.size) (by first | (simp; done) | (simp; omega) | omega)
      have kc81_0_0 := q.1
      have kc81_0_1 := q.2.1
      have kf81_0_0 := q.2.2.1
      have kf81_0_1 := q.2.2.2.1
      have kl81_0 := q.2.2.2.2.1
      have kn81_0 := q.2.2.2.2.2.1
      have km81_0 := q.2.2.2.2.2.2
      clear q
      have q := keep2 h81 (b := w.heap.size + 1) (by first | (simp; done) | (simp; omega) | omega)
      have kc81_1_0 := q.1
      have kc81_1_1 := q.2.1
      have kf81_1_0 := q.2.2.1
      have kf81_1_1 := q.2.2.2.1
      have kl81_1 := q.2.2.2.2.1
      have kn81_1 := q.2.2.2.2.2.1
      have km81_1 := q.2.2.2.2.2.2
      clear q
      have kz81 := h81.size
      (try simp only [World.size_alloc, World.size_setCell, World.size_drew] at kz81)
      have H81 := Lib.hid h81
      clear h81
      go_simp
      refine hK'.out _ _ (by first | trivial | exact ⟨by go_simp, by go_simp, by go_simp, by go_simp⟩) ?_
      clear hK' K'
      refine wpAnyR_ready (rs := [14]) (by kernel_rfl) (by simp) (AllR.cons rfl (fun w82 h82 K' hK' => ?_) AllR.nil)
      have q := keep2 h82 (b := w81.heap.size) (by first | (simp; done) | (simp; omega) | omega)
      have kc82_0_0 := q.1
      have kc82_0_1 := q.2.1
      have kf82_0_0 := q.2.2.1
      have kf82_0_1 := q.2.2.2.1
      have kl82_0 := q.2.2.2.2.1
      have kn82_0 := q.2.2.2.2.2.1
      have km82_0 := q.2.2.2.2.2.2
      clear q
      have q := keep2 h82 (b := w.heap.size) (by first | (simp; done) | (simp; omega) | omega)
      have kc82_1_0 := q.1
      have kc82_1_1 := q.2.1
      have kf82_1_0 := q.2.2.1
      have kf82_1_1 := q.2.2.2.1
      have kl82_1 := q.2.2.2.2.1
      have kn82_1 := q.2.2.2.2.2.1
      have km82_1 := q.2.2.2.2.2.2
      clear q
      have q := keep2 h82 (b := w.heap.size + 1) (by first | (simp; done) | (simp; omega) | omega)
      have kc82_2_0 := q.1
      have kc82_2_1 := q.2.1
      have kf82_2_0 := q.2.2.1
      have kf82_2_1 := q.2.2.2.1
      have kl82_2 := q.2.2.2.2.1
      have kn82_2 := q.2.2.2.2.2.1
      have km82_2 := q.2.2.2.2.2.2
      clear q
      have kz82 := h82.size
      (try simp only [World.size_alloc, World.size_setCell, World.size_drew] at kz82)
      have H82 := Lib.hid h82
      clear h82
      go_simp
      refine hK'.out _ _ (by first | trivial | exact ⟨by go_simp, by go_simp, by go_simp, by go_simp⟩) ?_
      clear hK' K'
      refine wpAnyR_ready (rs := [16]) (by kernel_rfl) (by simp) (AllR.cons rfl (fun w83 h83 K' hK' => ?_) AllR.nil)
      have q := keep2 h83 (b := w81.heap.size) (by first | (simp; done) | (simp; omega) | omega)
      have kc83_0_0 := q.1
      have kc83_0_1 := q.2.1
      have kf83_0_0 := q.2.2.1
      have kf83_0_1 := q.2.2.2.1
      have kl83_0 := q.2.2.2.2.1
      have kn83_0 := q.2.2.2.2.2.1
      have km83_0 := q.2.2.2.2.2.2
      clear q
      have q := keep2 h83 (b := w82.heap.size) (by first | (simp; done) | (simp; omega) | omega)
      have kc83_1_0 := q.1
      have kc83_1_1 := q.2.1
      have kf83_1_0 := q.2.2.1
      have kf83_1_1 := q.2.2.2.1
      have kl83_1 := q.2.2.2.2.1
      have kn83_1 := q.2.2.2.2.2.1
      have km83_1 := q.2.2.2.2.2.2
      clear q
      have q := keep2 h83 (b := w.heap.size) (by first | (simp; done) | (simp; omega) | omega)
      have kc83_2_0 := q.1
      have kc83_2_1 := q.2.1
      have kf83_2_0 := q.2.2.1
      have kf83_2_1 := q.2.2.2.1
      have kl83_2 := q.2.2.2.2.1
      have kn83_2 := q.2.2.2.2.2.1
      have km83_2 := q.2.2.2.2.2.2
      clear q
      have q := keep2 h83 (b := w.heap.size + 1) (by first | (simp; done) | (simp; omega) | omega)
      have kc83_3_0 := q.1
      have kc83_3_1 := q.2.1
      have kf83_3_0 := q.2.2.1
      have kf83_3_1 := q.2.2.2.1
      have kl83_3 := q.2.2.2.2.1
      have kn83_3 := q.2.2.2.2.2.1
      have km83_3 := q.2.2.2.2.2.2
      clear q
      have kz83 := h83.size
      (try simp only [World.size_alloc, World.size_setCell, World.size_drew] at kz83)
      have H83 := Lib.hid h83
      clear h83
      go_simp
      refine hK'.out _ _ (by first | trivial | exact ⟨by go_simp, by go_simp, by go_simp, by go_simp⟩) ?_
      clear hK' K'
      refine wpAnyR_ready (rs := [17]) (by kernel_rfl) (by simp) (AllR.cons rfl (fun w84 h84 K' hK' => ?_) AllR.nil)
      have q := keep2 h84 (b := w81.heap.size) (by first | (simp; done) | (simp; omega) | omega)
      have kc84_0_0 := q.1
      have kc84_0_1 := q.2.1
      have kf84_0_0 := q.2.2.1
      have kf84_0_1 := q.2.2.2.1
      have kl84_0 := q.2.2.2.2.1
      have kn84_0 := q.2.2.2.2.2.1
      have km84_0 := q.2.2.2.2.2.2
      clear q
      have q := keep2 h84 (b := w82.heap.size) (by first | (simp; done) | (simp; omega) | omega)
      have kc84_1_0 := q.1
      have kc84_1_1 := q.2.1
      have kf84_1_0 := q.2.2.1
      have kf84_1_1 := q.2.2.2.1
      have kl84_1 := q.2.2.2.2.1
      have kn84_1 := q.2.2.2.2.2.1
      have km84_1 := q.2.2.2.2.2.2
      clear q
      have q := keep2 h84 (b := w.heap.size) (by first | (simp; done) | (simp; omega) | omega)
      have kc84_2_0 := q.1
      have kc84_2_1 := q.2.1
      have kf84_2_0 := q.2.2.1
      have kf84_2_1 := q.2.2.2.1
      have kl84_2 := q.2.2.2.2.1
      have kn84_2 := q.2.2.2.2.2.1
      have km84_2 := q.2.2.2.2.2.2
      clear q
      have q := keep2 h84 (b := w.heap.size + 1) (by first | (simp; done) | (simp; omega) | omega)
      have kc84_3_0 := q.1
      have kc84_3_1 := q.2.1
      have kf84_3_0 := q.2.2.1
      have kf84_3_1 := q.2.2.2.1
      have kl84_3 := q.2.2.2.2.1
      have kn84_3 := q.2.2.2.2.2.1
      have km84_3 := q.2.2.2.2.2.2
      clear q
      have kz84 := h84.size
      (try simp only [World.size_alloc, World.size_setCell, World.size_drew] at kz84)
      have H84 := Lib.hid h84
      clear h84
      go_simp
      refine hK'.out _ _ (by first | trivial | exact ⟨by go_simp, by go_simp, by go_simp, by go_simp⟩) ?_
      clear hK' K'
      refine wpAnyR_end (by kernel_rfl) (fun w85 h85 => ?_)
      have q := keep2 h85 (b := w82.heap.size) (by first | (simp; done) | (simp; omega) | omega)
      have kc85_0_0 := q.1
      have kc85_0_1 := q.2.1
      have kf85_0_0 := q.2.2.1
      have kf85_0_1 := q.2.2.2.1
      have kl85_0 := q.2.2.2.2.1
      have kn85_0 := q.2.2.2.2.2.1
      have km85_0 := q.2.2.2.2.2.2
      clear q
      have q := keep2 h85 (b := w81.heap.size) (by first | (simp; done) | (simp; omega) | omega)
      have kc85_1_0 := q.1
      have kc85_1_1 := q.2.1
      have kf85_1_0 := q.2.2.1
      have kf85_1_1 := q.2.2.2.1
      have kl85_1 := q.2.2.2.2.1
      have kn85_1 := q.2.2.2.2.2.1
      have km85_1 := q.2.2.2.2.2.2
      clear q
      have kz85 := h85.size
      (try simp only [World.size_alloc, World.size_setCell, World.size_drew] at kz85)
      have H85 := Lib.hid h85
      clear h85
      exact ⟨rfl, w82.heap.size, w81.heap.size, by first | rfl | simp only [Act.put, List.setIfInBounds_toArray, List.set_cons_zero, List.set_cons_succ], by (repeat (first | with_reducible exact Rel.refl _ | with_reducible refine Rel.alloc ?_ _ | with_reducible refine Rel.setCell ?_ (by first | (simp; done) | (simp; omega) | omega) _ | with_reducible refine Rel.drew ?_ | with_reducible refine Rel.trans ?_ H85.out | with_reducible refine Rel.trans ?_ H84.out | with_reducible refine Rel.trans ?_ H83.out | with_reducible refine Rel.trans ?_ H82.out | with_reducible refine Rel.trans ?_ H81.out | with_reducible exact H0.out)), by first | (simp; done) | (simp; omega) | omega, by first | (simp; done) | (simp; omega) | omega, by first | (simp; done) | (simp; omega) | omega, by first | assumption | (simp; omega), by first | assumption | (simp; omega), by go_simp, by go_simp, by go_simp, by go_simp, by go_simp, by go_simp, by go_simp, by go_simp⟩
  intro b1 b2 wt ht
  (try simp only [Act.put, List.setIfInBounds_toArray, List.set_cons_zero, List.set_cons_succ])
  have tr := ht.rel
  have tl1 := ht.lo1
  have tl2 := ht.lo2
  have tn := ht.ne
  have ti1 := ht.in1
  have ti2 := ht.in2
  have tc1 := ht.c10
  have tc2 := ht.c11
  have tc3 := ht.c20
  have tc4 := ht.c21
  have tf1 := ht.f10
  have tf2 := ht.f11
  have tf3 := ht.f20
  have tf4 := ht.f21
  have tn' := Ne.symm tn
  have q := keep2 tr (b := w.heap.size) (by first | (simp; done) | (simp; omega) | omega)
  have kc3_0_0 := q.1
  have kc3_0_1 := q.2.1
  have kf3_0_0 := q.2.2.1
  have kf3_0_1 := q.2.2.2.1
  have kl3_0 := q.2.2.2.2.1
  have kn3_0 := q.2.2.2.2.2.1
  have km3_0 := q.2.2.2.2.2.2
  clear q
  have q := keep2 tr (b := w.heap.size + 1) (by first | (simp; done) | (simp; omega) | omega)
  have kc3_1_0 := q.1
  have kc3_1_1 := q.2.1
  have kf3_1_0 := q.2.2.1
  have kf3_1_1 := q.2.2.2.1
  have kl3_1 := q.2.2.2.2.1
  have kn3_1 := q.2.2.2.2.2.1
  have km3_1 := q.2.2.2.2.2.2
  clear q
  have q := keep2 tr (b := w.heap.size + 2) (by first | (simp; done) | (simp; omega) | omega)
  have kc3_2_0 := q.1
  have kc3_2_1 := q.2.1
  have kf3_2_0 := q.2.2.1
  have kf3_2_1 := q.2.2.2.1
  have kl3_2 := q.2.2.2.2.1
  have kn3_2 := q.2.2.2.2.2.1
  have km3_2 := q.2.2.2.2.2.2
  clear q
  have kz3 := tr.size
  (try simp only [World.size_alloc, World.size_setCell, World.size_drew] at kz3)
  have H3 := Lib.hid tr
  clear tr
  have tm1 : w.heap.size + 2 < b1 := by omega
  have tm2 : w.heap.size + 2 < b2 := by omega
  have e00 : wt.cell? ⟨w.heap.size, 0, none⟩ = some (.int .i64 a) := by go_simp
  have e01 : wt.cell? ⟨w.heap.size, 1, none⟩ = some (.int .i64 b) := by go_simp
  have e10 : wt.cell? ⟨w.heap.size + 1, 0, none⟩ = some (.int .i64 c) := by go_simp
  have e11 : wt.cell? ⟨w.heap.size + 1, 1, none⟩ = some (.int .i64 d) := by go_simp
  have e20 : wt.cell? ⟨w.heap.size + 2, 0, none⟩ = some (.int .i64 0) := by go_simp
  have e21 : wt.cell? ⟨w.heap.size + 2, 1, none⟩ = some (.int .i64 0) := by go_simp
  have g20 : wt.frozen? ⟨w.heap.size + 2, 0, none⟩ = false := by go_simp
  have g21 : wt.frozen? ⟨w.heap.size + 2, 1, none⟩ = false := by go_simp
  have l0 : w.heap.size < wt.heap.size := by omega
  have l1 : w.heap.size + 1 < wt.heap.size := by omega
  have l2 : w.heap.size + 2 < wt.heap.size := by omega
  have j1 : w.heap.size + 2 ≠ b1 := by omega
  have j2 : w.heap.size + 2 ≠ b2 := by omega
  have j3 : b1 ≠ w.heap.size + 2 := by omega
  have j4 : b2 ≠ w.heap.size + 2 := by omega
  have j5 : b1 ≠ w.heap.size + 1 := by omega
  have j6 : b1 ≠ w.heap.size := by omega
  have j7 : w.heap.size + 1 ≠ b1 := by omega
  have j8 : w.heap.size ≠ b1 := by omega
  have HA : Hid (Rel w wt) := by
    show Rel w wt
    (repeat (first | with_reducible exact Rel.refl _ | with_reducible refine Rel.alloc ?_ _ | with_reducible refine Rel.trans ?_ H3.out | with_reducible refine Rel.trans ?_ H2.out | with_reducible refine Rel.trans ?_ H1.out))
  clear H0 H1 H2 H3 kc1_0_0 kc1_0_1 kf1_0_0 kf1_0_1 kl1_0 kn1_0 km1_0 kc1_1_0 kc1_1_1 kf1_1_0 kf1_1_1 kl1_1 kn1_1 km1_1 kc1_2_0 kc1_2_1 kf1_2_0 kf1_2_1 kl1_2 kn1_2 km1_2 kz1 kc2_0_0 kc2_0_1 kf2_0_0 kf2_0_1 kl2_0 kn2_0 km2_0 kc2_1_0 kc2_1_1 kf2_1_0 kf2_1_1 kl2_1 kn2_1 km2_1 kc2_2_0 kc2_2_1 kf2_2_0 kf2_2_1 kl2_2 kn2_2 km2_2 kz2 kc0_0_0 kc0_0_1 kf0_0_0 kf0_0_1 kl0_0 kn0_0 km0_0 kc0_1_0 kc0_1_1 kf0_1_0 kf0_1_1 kl0_1 kn0_1 km0_1 kc0_2_0 kc0_2_1 kf0_2_0 kf0_2_1 kl0_2 kn0_2 km0_2 kz0 kc3_0_0 kc3_0_1 kf3_0_0 kf3_0_1 kl3_0 kn3_0 km3_0 kc3_1_0 kc3_1_1 kf3_1_0 kf3_1_1 kl3_1 kn3_1 km3_1 kc3_2_0 kc3_2_1 kf3_2_0 kf3_2_1 kl3_2 kn3_2 km3_2 kz3
  rcases HW.out with ⟨z1, z2, rfl, PL⟩ | ⟨z1, z2, rfl, PL⟩ | ⟨z1, z2, rfl, LT, MI⟩ | ⟨z1, z2, rfl, LT, MI⟩ | ⟨z1, z2, rfl, LT, MI⟩ | ⟨z1, z2, rfl, LT, MI⟩
  · clear HW
    go_wp2_with fail
    with_reducible refine (PL.out _).mono ?_
    rintro e w5 ⟨rfl, h5⟩
    have q := keep2 h5 (b := w.heap.size) (by first | (simp; done) | (simp; omega) | omega)
    have kc5_0_0 := q.1
    have kc5_0_1 := q.2.1
    have kf5_0_0 := q.2.2.1
    have kf5_0_1 := q.2.2.2.1
    have kl5_0 := q.2.2.2.2.1
    have kn5_0 := q.2.2.2.2.2.1
    have km5_0 := q.2.2.2.2.2.2
    clear q
    have q := keep2 h5 (b := w.heap.size + 1) (by first | (simp; done) | (simp; omega) | omega)
    have kc5_1_0 := q.1
    have kc5_1_1 := q.2.1
    have kf5_1_0 := q.2.2.1
    have kf5_1_1 := q.2.2.2.1
    have kl5_1 := q.2.2.2.2.1
    have kn5_1 := q.2.2.2.2.2.1
    have km5_1 := q.2.2.2.2.2.2
    clear q
    have q := keep2 h5 (b := w.heap.size + 2) (by first | (simp; done) | (simp; omega) | omega)
    have kc5_2_0 := q.1
    have kc5_2_1 := q.2.1
    have kf5_2_0 := q.2.2.1
    have kf5_2_1 := q.2.2.2.1
    have kl5_2 := q.2.2.2.2.1
    have kn5_2 := q.2.2.2.2.2.1
    have km5_2 := q.2.2.2.2.2.2
    clear q
    have q := keep2 h5 (b := b1) (by first | (simp; done) | (simp; omega) | omega)
    have kc5_3_0 := q.1
    have kc5_3_1 := q.2.1
    have kf5_3_0 := q.2.2.1
    have kf5_3_1 := q.2.2.2.1
    have kl5_3 := q.2.2.2.2.1
    have kn5_3 := q.2.2.2.2.2.1
    have km5_3 := q.2.2.2.2.2.2
    clear q
    have kz5 := h5.size
    (try simp only [World.size_alloc, World.size_setCell, World.size_drew] at kz5)
    have H5 := Lib.hid h5
    clear h5
    go_wp2_with fail
    refine wp_region_calm (fun _ w' => w'.cell? { block := w.heap.size, off := 0 } = some (.int .i64 a) ∧ w'.cell? { block := w.heap.size, off := 1 } = some (.int .i64 b) ∧ w'.cell? { block := w.heap.size + 1, off := 0 } = some (.int .i64 c) ∧ w'.cell? { block := w.heap.size + 1, off := 1 } = some (.int .i64 d)) (fun _ => false) [0, 1, 2, 3, 4, 5, 6, 7] 0 (by kernel_rfl) (by kernel_rfl) ?hst ?hS0 (fun w0 h0 => ?_)
    case hst => exact fun _ _ _ h r => ⟨r.cell h.1, r.cell h.2.1, r.cell h.2.2.1, r.cell h.2.2.2⟩
    case hS0 => exact ⟨by go_simp, by go_simp, by go_simp, by go_simp⟩
    iterate 2
      refine wpCalm_go rfl (by kernel_rfl) (fun K hK => ?_)
      apply Exists.intro
      refine ⟨fun M w hM hS => ?_, hK _ ?_⟩
      · have c1 := hS.1
        have c2 := hS.2.1
        have c3 := hS.2.2.1
        have c4 := hS.2.2.2
        unfold calmAt
        go_simp
        exact ⟨rfl, Rel.refl _⟩
      clear hK K
    refine wpCalm_go rfl (by kernel_rfl) (fun K hK => ?_)
    apply Exists.intro
    refine ⟨fun M w hM hS => ?_, hK _ ?_⟩
    · have c1 := hS.1
      have c2 := hS.2.1
      have c3 := hS.2.2.1
      have c4 := hS.2.2.2
      unfold calmAt
      go_simp
      with_reducible refine (S2.out _).mono ?_
      rintro e w1 ⟨rfl, rfl⟩
      exact ⟨rfl, Rel.refl _⟩
    clear hK K
    iterate 2
      refine wpCalm_go rfl (by kernel_rfl) (fun K hK => ?_)
      apply Exists.intro
      refine ⟨fun M w hM hS => ?_, hK _ ?_⟩
      · have c1 := hS.1
        have c2 := hS.2.1
        have c3 := hS.2.2.1
        have c4 := hS.2.2.2
        unfold calmAt
        go_simp
        exact ⟨rfl, Rel.refl _⟩
      clear hK K
    refine wpCalm_go rfl (by kernel_rfl) (fun K hK => ?_)
    apply Exists.intro
    refine ⟨fun M w hM hS => ?_, hK _ ?_⟩
    · have c1 := hS.1
      have c2 := hS.2.1
      have c3 := hS.2.2.1
      have c4 := hS.2.2.2
      unfold calmAt
      go_simp
      with_reducible refine (S4.out _).mono ?_
      rintro e w1 ⟨rfl, rfl⟩
      exact ⟨rfl, Rel.refl _⟩
    clear hK K
    iterate 2
      refine wpCalm_go rfl (by kernel_rfl) (fun K hK => ?_)
      apply Exists.intro
      refine ⟨fun M w hM hS => ?_, hK _ ?_⟩
      · have c1 := hS.1
        have c2 := hS.2.1
        have c3 := hS.2.2.1
        have c4 := hS.2.2.2
        unfold calmAt
        go_simp
        exact ⟨rfl, Rel.refl _⟩
      clear hK K
    refine wpAnyR_end (by kernel_rfl) (fun w6 h6' => ?_)
    (try simp only [Act.put, List.setIfInBounds_toArray, List.set_cons_zero, List.set_cons_succ])
    have h6 := h0.trans h6'
    clear h0 h6'
    have q := keep2 h6 (b := w.heap.size) (by first | (simp; done) | (simp; omega) | omega)
    have kc6_0_0 := q.1
    have kc6_0_1 := q.2.1
    have kf6_0_0 := q.2.2.1
    have kf6_0_1 := q.2.2.2.1
    have kl6_0 := q.2.2.2.2.1
    have kn6_0 := q.2.2.2.2.2.1
    have km6_0 := q.2.2.2.2.2.2
    clear q
    have q := keep2 h6 (b := w.heap.size + 1) (by first | (simp; done) | (simp; omega) | omega)
    have kc6_1_0 := q.1
    have kc6_1_1 := q.2.1
    have kf6_1_0 := q.2.2.1
    have kf6_1_1 := q.2.2.2.1
    have kl6_1 := q.2.2.2.2.1
    have kn6_1 := q.2.2.2.2.2.1
    have km6_1 := q.2.2.2.2.2.2
    clear q
    have q := keep2 h6 (b := w.heap.size + 2) (by first | (simp; done) | (simp; omega) | omega)
    have kc6_2_0 := q.1
    have kc6_2_1 := q.2.1
    have kf6_2_0 := q.2.2.1
    have kf6_2_1 := q.2.2.2.1
    have kl6_2 := q.2.2.2.2.1
    have kn6_2 := q.2.2.2.2.2.1
    have km6_2 := q.2.2.2.2.2.2
    clear q
    have q := keep2 h6 (b := b1) (by first | (simp; done) | (simp; omega) | omega)
    have kc6_3_0 := q.1
    have kc6_3_1 := q.2.1
    have kf6_3_0 := q.2.2.1
    have kf6_3_1 := q.2.2.2.1
    have kl6_3 := q.2.2.2.2.1
    have kn6_3 := q.2.2.2.2.2.1
    have km6_3 := q.2.2.2.2.2.2
    clear q
    have kz6 := h6.size
    (try simp only [World.size_alloc, World.size_setCell, World.size_drew] at kz6)
    have H6 := Lib.hid h6
    clear h6
    rcases HR.out with ⟨rfl, rfl, rfl, rfl, rfl⟩ | ⟨hx, hg, hF, hE2, RM, G, OV, WI⟩
    · clear HR
      go_wp2
      refine bodyPost_ret ?_ rfl ⟨rfl, ?_⟩
      · simp [results, Try.results33, go_sem, kc6_2_0, kc6_2_1, kl6_2, kc5_2_0, kc5_2_1, kl5_2, e20, e21, j1, j2, j3, j4, l2]
      · (show Rel _ _; repeat (first | with_reducible exact Rel.refl _ | with_reducible refine Rel.alloc ?_ _ | with_reducible refine Rel.setCell ?_ (by first | (simp; done) | (simp; omega) | omega) _ | with_reducible refine Rel.trans ?_ H6.out | with_reducible refine Rel.trans ?_ H5.out | with_reducible refine Rel.trans ?_ H4.out | with_reducible exact HA.out))
    · have n1 : ¬ g = 0 := by omega
      have y1 : ((g : Int) == 0) = false := by simp; omega
      have i1 := int_div_nat E g
      have i2 := tdiv_nat E g
      rw [hF] at i1 i2
      have l1 : F < 18446744073709551616 := by rw [← hF]; exact Nat.lt_of_le_of_lt (Nat.div_le_self _ _) hE2
      have i3 := u64_nat l1
      clear HR hF hg hE2
      rcases hx with ⟨hx', hx⟩ | hx
      · go_wp2_with fail
        with_reducible refine (RM.out _).mono ?_
        rintro e w7 ⟨rfl, h7⟩
        have q := keep2 h7 (b := w.heap.size + 2) (by first | (simp; done) | (simp; omega) | omega)
        have kc7_0_0 := q.1
        have kc7_0_1 := q.2.1
        have kf7_0_0 := q.2.2.1
        have kf7_0_1 := q.2.2.2.1
        have kl7_0 := q.2.2.2.2.1
        have kn7_0 := q.2.2.2.2.2.1
        have km7_0 := q.2.2.2.2.2.2
        clear q
        have q := keep2 h7 (b := b1) (by first | (simp; done) | (simp; omega) | omega)
        have kc7_1_0 := q.1
        have kc7_1_1 := q.2.1
        have kf7_1_0 := q.2.2.1
        have kf7_1_1 := q.2.2.2.1
        have kl7_1 := q.2.2.2.2.1
        have kn7_1 := q.2.2.2.2.2.1
        have km7_1 := q.2.2.2.2.2.2
        clear q
        have kz7 := h7.size
        (try simp only [World.size_alloc, World.size_setCell, World.size_drew] at kz7)
        have H7 := Lib.hid h7
        clear h7
        go_wp2_with fail
        with_reducible refine (G.out _).mono ?_
        rintro e w8 ⟨rfl, h8⟩
        have q := keep2 h8 (b := w.heap.size + 2) (by first | (simp; done) | (simp; omega) | omega)
        have kc8_0_0 := q.1
        have kc8_0_1 := q.2.1
        have kf8_0_0 := q.2.2.1
        have kf8_0_1 := q.2.2.2.1
        have kl8_0 := q.2.2.2.2.1
        have kn8_0 := q.2.2.2.2.2.1
        have km8_0 := q.2.2.2.2.2.2
        clear q
        have q := keep2 h8 (b := b1) (by first | (simp; done) | (simp; omega) | omega)
        have kc8_1_0 := q.1
        have kc8_1_1 := q.2.1
        have kf8_1_0 := q.2.2.1
        have kf8_1_1 := q.2.2.2.1
        have kl8_1 := q.2.2.2.2.1
        have kn8_1 := q.2.2.2.2.2.1
        have km8_1 := q.2.2.2.2.2.2
        clear q
        have kz8 := h8.size
        (try simp only [World.size_alloc, World.size_setCell, World.size_drew] at kz8)
        have H8 := Lib.hid h8
        clear h8
        go_wp2_with fail
        refine wp_region_calm (fun _ w' => w'.cell? { block := b1, off := 0 } = some (.int .u64 Xh) ∧ w'.cell? { block := b1, off := 1 } = some (.int .u64 Xl)) (fun _ => false) [0, 1, 2, 3, 4, 5, 6, 7, 8, 9, 10] 2 (by kernel_rfl) (by kernel_rfl) ?hst ?hS0 (fun w0 h0 => ?_)
        case hst => exact fun _ _ _ h r => ⟨r.cell h.1, r.cell h.2⟩
        case hS0 => exact ⟨by go_simp, by go_simp⟩
        iterate 3
          refine wpCalm_go rfl (by kernel_rfl) (fun K hK => ?_)
          apply Exists.intro
          refine ⟨fun M w hM hS => ?_, hK _ ?_⟩
          · have c1 := hS.1
            have c2 := hS.2
            unfold calmAt
            go_simp
            exact ⟨rfl, Rel.refl _⟩
          clear hK K
        refine wpCalm_go rfl (by kernel_rfl) (fun K hK => ?_)
        apply Exists.intro
        refine ⟨fun M w hM hS => ?_, hK _ ?_⟩
        · unfold calmAt
          go_simp
          with_reducible refine (OV.out _).mono ?_
          rintro e w1 ⟨rfl, hb⟩
          exact ⟨rfl, hb⟩
        clear hK K
        iterate 4
          refine wpCalm_go rfl (by kernel_rfl) (fun K hK => ?_)
          apply Exists.intro
          refine ⟨fun M w hM hS => ?_, hK _ ?_⟩
          · have c1 := hS.1
            have c2 := hS.2
            unfold calmAt
            go_simp
            exact ⟨rfl, Rel.refl _⟩
          clear hK K
        refine wpCalm_go rfl (by kernel_rfl) (fun K hK => ?_)
        apply Exists.intro
        refine ⟨fun M w hM hS => ?_, hK _ ?_⟩
        · unfold calmAt
          go_simp
          with_reducible refine (WI.out _).mono ?_
          rintro e w1 ⟨rfl, hb⟩
          exact ⟨rfl, hb⟩
        clear hK K
        iterate 2
          refine wpCalm_go rfl (by kernel_rfl) (fun K hK => ?_)
          apply Exists.intro
          refine ⟨fun M w hM hS => ?_, hK _ ?_⟩
          · unfold calmAt
            go_simp
            exact ⟨rfl, Rel.refl _⟩
          clear hK K
        refine wpCalm_nil ?_
        have h9 := h0
        clear h0
        have q := keep2 h9 (b := w.heap.size + 2) (by first | (simp; done) | (simp; omega) | omega)
        have kc9_0_0 := q.1
        have kc9_0_1 := q.2.1
        have kf9_0_0 := q.2.2.1
        have kf9_0_1 := q.2.2.2.1
        have kl9_0 := q.2.2.2.2.1
        have kn9_0 := q.2.2.2.2.2.1
        have km9_0 := q.2.2.2.2.2.2
        clear q
        have q := keep2 h9 (b := b1) (by first | (simp; done) | (simp; omega) | omega)
        have kc9_1_0 := q.1
        have kc9_1_1 := q.2.1
        have kf9_1_0 := q.2.2.1
        have kf9_1_1 := q.2.2.2.1
        have kl9_1 := q.2.2.2.2.1
        have kn9_1 := q.2.2.2.2.2.1
        have km9_1 := q.2.2.2.2.2.2
        clear q
        have kz9 := h9.size
        (try simp only [World.size_alloc, World.size_setCell, World.size_drew] at kz9)
        have H9 := Lib.hid h9
        clear h9
        refine wpAnyR_ready (rs := [11]) (by kernel_rfl) (by simp) (AllR.cons rfl (fun w10 h10 K' hK' => ?_) AllR.nil)
        have q := keep2 h10 (b := w.heap.size + 2) (by first | (simp; done) | (simp; omega) | omega)
        have kc10_0_0 := q.1
        have kc10_0_1 := q.2.1
        have kf10_0_0 := q.2.2.1
        have kf10_0_1 := q.2.2.2.1
        have kl10_0 := q.2.2.2.2.1
        have kn10_0 := q.2.2.2.2.2.1
        have km10_0 := q.2.2.2.2.2.2
        clear q
        have q := keep2 h10 (b := b1) (by first | (simp; done) | (simp; omega) | omega)
        have kc10_1_0 := q.1
        have kc10_1_1 := q.2.1
        have kf10_1_0 := q.2.2.1
        have kf10_1_1 := q.2.2.2.1
        have kl10_1 := q.2.2.2.2.1
        have kn10_1 := q.2.2.2.2.2.1
        have km10_1 := q.2.2.2.2.2.2
        clear q
        have kz10 := h10.size
        (try simp only [World.size_alloc, World.size_setCell, World.size_drew] at kz10)
        have H10 := Lib.hid h10
        clear h10
        go_simp
        refine hK'.out _ _ ⟨by go_simp, by go_simp⟩ ?_
        clear hK' K'
        refine wpAnyR_ready (rs := [12]) (by kernel_rfl) (by simp) (AllR.cons rfl (fun w11 h11 K' hK' => ?_) AllR.nil)
        have q := keep2 h11 (b := w.heap.size + 2) (by first | (simp; done) | (simp; omega) | omega)
        have kc11_0_0 := q.1
        have kc11_0_1 := q.2.1
        have kf11_0_0 := q.2.2.1
        have kf11_0_1 := q.2.2.2.1
        have kl11_0 := q.2.2.2.2.1
        have kn11_0 := q.2.2.2.2.2.1
        have km11_0 := q.2.2.2.2.2.2
        clear q
        have q := keep2 h11 (b := b1) (by first | (simp; done) | (simp; omega) | omega)
        have kc11_1_0 := q.1
        have kc11_1_1 := q.2.1
        have kf11_1_0 := q.2.2.1
        have kf11_1_1 := q.2.2.2.1
        have kl11_1 := q.2.2.2.2.1
        have kn11_1 := q.2.2.2.2.2.1
        have km11_1 := q.2.2.2.2.2.2
        clear q
        have kz11 := h11.size
        (try simp only [World.size_alloc, World.size_setCell, World.size_drew] at kz11)
        have H11 := Lib.hid h11
        clear h11
        go_simp
        refine hK'.out _ _ ⟨by go_simp, by go_simp⟩ ?_
        clear hK' K'
        refine wpAnyR_end (by kernel_rfl) (fun w12 h12 => ?_)
        (try simp only [Act.put, List.setIfInBounds_toArray, List.set_cons_zero, List.set_cons_succ])
        have q := keep2 h12 (b := w.heap.size + 2) (by first | (simp; done) | (simp; omega) | omega)
        have kc12_0_0 := q.1
        have kc12_0_1 := q.2.1
        have kf12_0_0 := q.2.2.1
        have kf12_0_1 := q.2.2.2.1
        have kl12_0 := q.2.2.2.2.1
        have kn12_0 := q.2.2.2.2.2.1
        have km12_0 := q.2.2.2.2.2.2
        clear q
        have kz12 := h12.size
        (try simp only [World.size_alloc, World.size_setCell, World.size_drew] at kz12)
        have H12 := Lib.hid h12
        clear h12
        go_wp2
        refine bodyPost_ret ?_ rfl ⟨rfl, ?_⟩
        · simp [results, Try.results33, go_sem, kc12_0_0, kc12_0_1, kl12_0, kc11_0_0, kc11_0_1, kl11_0, kc10_0_0, kc10_0_1, kl10_0, kc9_0_0, kc9_0_1, kl9_0, kc8_0_0, kc8_0_1, kl8_0, kc7_0_0, kc7_0_1, kl7_0, kc6_2_0, kc6_2_1, kl6_2, kc5_2_0, kc5_2_1, kl5_2, e20, e21, j1, j2, j3, j4, l2]
        · (show Rel _ _; repeat (first | with_reducible exact Rel.refl _ | with_reducible refine Rel.alloc ?_ _ | with_reducible refine Rel.setCell ?_ (by first | (simp; done) | (simp; omega) | omega) _ | with_reducible refine Rel.trans ?_ H12.out | with_reducible refine Rel.trans ?_ H11.out | with_reducible refine Rel.trans ?_ H10.out | with_reducible refine Rel.trans ?_ H9.out | with_reducible refine Rel.trans ?_ H8.out | with_reducible refine Rel.trans ?_ H7.out | with_reducible refine Rel.trans ?_ H6.out | with_reducible refine Rel.trans ?_ H5.out | with_reducible refine Rel.trans ?_ H4.out | with_reducible exact HA.out))
      · go_wp2_with fail
        with_reducible refine (RM.out _).mono ?_
        rintro e w7 ⟨rfl, h7⟩
        have q := keep2 h7 (b := w.heap.size + 2) (by first | (simp; done) | (simp; omega) | omega)
        have kc7_0_0 := q.1
        have kc7_0_1 := q.2.1
        have kf7_0_0 := q.2.2.1
        have kf7_0_1 := q.2.2.2.1
        have kl7_0 := q.2.2.2.2.1
        have kn7_0 := q.2.2.2.2.2.1
        have km7_0 := q.2.2.2.2.2.2
        clear q
        have q := keep2 h7 (b := b1) (by first | (simp; done) | (simp; omega) | omega)
        have kc7_1_0 := q.1
        have kc7_1_1 := q.2.1
        have kf7_1_0 := q.2.2.1
        have kf7_1_1 := q.2.2.2.1
        have kl7_1 := q.2.2.2.2.1
        have kn7_1 := q.2.2.2.2.2.1
        have km7_1 := q.2.2.2.2.2.2
        clear q
        have kz7 := h7.size
        (try simp only [World.size_alloc, World.size_setCell, World.size_drew] at kz7)
        have H7 := Lib.hid h7
        clear h7
        go_wp2_with fail
        with_reducible refine (G.out _).mono ?_
        rintro e w8 ⟨rfl, h8⟩
        have q := keep2 h8 (b := w.heap.size + 2) (by first | (simp; done) | (simp; omega) | omega)
        have kc8_0_0 := q.1
        have kc8_0_1 := q.2.1
        have kf8_0_0 := q.2.2.1
        have kf8_0_1 := q.2.2.2.1
        have kl8_0 := q.2.2.2.2.1
        have kn8_0 := q.2.2.2.2.2.1
        have km8_0 := q.2.2.2.2.2.2
        clear q
        have q := keep2 h8 (b := b1) (by first | (simp; done) | (simp; omega) | omega)
        have kc8_1_0 := q.1
        have kc8_1_1 := q.2.1
        have kf8_1_0 := q.2.2.1
        have kf8_1_1 := q.2.2.2.1
        have kl8_1 := q.2.2.2.2.1
        have kn8_1 := q.2.2.2.2.2.1
        have km8_1 := q.2.2.2.2.2.2
        clear q
        have kz8 := h8.size
        (try simp only [World.size_alloc, World.size_setCell, World.size_drew] at kz8)
        have H8 := Lib.hid h8
        clear h8
        go_wp2_with fail
        refine wp_region_calm (fun _ w' => w'.cell? { block := b1, off := 0 } = some (.int .u64 Xh) ∧ w'.cell? { block := b1, off := 1 } = some (.int .u64 Xl)) (fun _ => false) [0, 1, 2, 3, 4, 5, 6, 7, 8, 9, 10] 2 (by kernel_rfl) (by kernel_rfl) ?hst ?hS0 (fun w0 h0 => ?_)
        case hst => exact fun _ _ _ h r => ⟨r.cell h.1, r.cell h.2⟩
        case hS0 => exact ⟨by go_simp, by go_simp⟩
        iterate 3
          refine wpCalm_go rfl (by kernel_rfl) (fun K hK => ?_)
          apply Exists.intro
          refine ⟨fun M w hM hS => ?_, hK _ ?_⟩
          · have c1 := hS.1
            have c2 := hS.2
            unfold calmAt
            go_simp
            exact ⟨rfl, Rel.refl _⟩
          clear hK K
        refine wpCalm_go rfl (by kernel_rfl) (fun K hK => ?_)
        apply Exists.intro
        refine ⟨fun M w hM hS => ?_, hK _ ?_⟩
        · unfold calmAt
          go_simp
          with_reducible refine (OV.out _).mono ?_
          rintro e w1 ⟨rfl, hb⟩
          exact ⟨rfl, hb⟩
        clear hK K
        iterate 4
          refine wpCalm_go rfl (by kernel_rfl) (fun K hK => ?_)
          apply Exists.intro
          refine ⟨fun M w hM hS => ?_, hK _ ?_⟩
          · have c1 := hS.1
            have c2 := hS.2
            unfold calmAt
            go_simp
            exact ⟨rfl, Rel.refl _⟩
          clear hK K
        refine wpCalm_go rfl (by kernel_rfl) (fun K hK => ?_)
        apply Exists.intro
        refine ⟨fun M w hM hS => ?_, hK _ ?_⟩
        · unfold calmAt
          go_simp
          with_reducible refine (WI.out _).mono ?_
          rintro e w1 ⟨rfl, hb⟩
          exact ⟨rfl, hb⟩
        clear hK K
        iterate 2
          refine wpCalm_go rfl (by kernel_rfl) (fun K hK => ?_)
          apply Exists.intro
          refine ⟨fun M w hM hS => ?_, hK _ ?_⟩
          · unfold calmAt
            go_simp
            exact ⟨rfl, Rel.refl _⟩
          clear hK K
        refine wpCalm_nil ?_
        have h9 := h0
        clear h0
        have q := keep2 h9 (b := w.heap.size + 2) (by first | (simp; done) | (simp; omega) | omega)
        have kc9_0_0 := q.1
        have kc9_0_1 := q.2.1
        have kf9_0_0 := q.2.2.1
        have kf9_0_1 := q.2.2.2.1
        have kl9_0 := q.2.2.2.2.1
        have kn9_0 := q.2.2.2.2.2.1
        have km9_0 := q.2.2.2.2.2.2
        clear q
        have q := keep2 h9 (b := b1) (by first | (simp; done) | (simp; omega) | omega)
        have kc9_1_0 := q.1
        have kc9_1_1 := q.2.1
        have kf9_1_0 := q.2.2.1
        have kf9_1_1 := q.2.2.2.1
        have kl9_1 := q.2.2.2.2.1
        have kn9_1 := q.2.2.2.2.2.1
        have km9_1 := q.2.2.2.2.2.2
        clear q
        have kz9 := h9.size
        (try simp only [World.size_alloc, World.size_setCell, World.size_drew] at kz9)
        have H9 := Lib.hid h9
        clear h9
        refine wpAnyR_ready (rs := [11]) (by kernel_rfl) (by simp) (AllR.cons rfl (fun w10 h10 K' hK' => ?_) AllR.nil)
        have q := keep2 h10 (b := w.heap.size + 2) (by first | (simp; done) | (simp; omega) | omega)
        have kc10_0_0 := q.1
        have kc10_0_1 := q.2.1
        have kf10_0_0 := q.2.2.1
        have kf10_0_1 := q.2.2.2.1
        have kl10_0 := q.2.2.2.2.1
        have kn10_0 := q.2.2.2.2.2.1
        have km10_0 := q.2.2.2.2.2.2
        clear q
        have q := keep2 h10 (b := b1) (by first | (simp; done) | (simp; omega) | omega)
        have kc10_1_0 := q.1
        have kc10_1_1 := q.2.1
        have kf10_1_0 := q.2.2.1
        have kf10_1_1 := q.2.2.2.1
        have kl10_1 := q.2.2.2.2.1
        have kn10_1 := q.2.2.2.2.2.1
        have km10_1 := q.2.2.2.2.2.2
        clear q
        have kz10 := h10.size
        (try simp only [World.size_alloc, World.size_setCell, World.size_drew] at kz10)
        have H10 := Lib.hid h10
        clear h10
        go_simp
        refine hK'.out _ _ ⟨by go_simp, by go_simp⟩ ?_
        clear hK' K'
        refine wpAnyR_ready (rs := [12]) (by kernel_rfl) (by simp) (AllR.cons rfl (fun w11 h11 K' hK' => ?_) AllR.nil)
        have q := keep2 h11 (b := w.heap.size + 2) (by first | (simp; done) | (simp; omega) | omega)
        have kc11_0_0 := q.1
        have kc11_0_1 := q.2.1
        have kf11_0_0 := q.2.2.1
        have kf11_0_1 := q.2.2.2.1
        have kl11_0 := q.2.2.2.2.1
        have kn11_0 := q.2.2.2.2.2.1
        have km11_0 := q.2.2.2.2.2.2
        clear q
        have q := keep2 h11 (b := b1) (by first | (simp; done) | (simp; omega) | omega)
        have kc11_1_0 := q.1
        have kc11_1_1 := q.2.1
        have kf11_1_0 := q.2.2.1
        have kf11_1_1 := q.2.2.2.1
        have kl11_1 := q.2.2.2.2.1
        have kn11_1 := q.2.2.2.2.2.1
        have km11_1 := q.2.2.2.2.2.2
        clear q
        have kz11 := h11.size
        (try simp only [World.size_alloc, World.size_setCell, World.size_drew] at kz11)
        have H11 := Lib.hid h11
        clear h11
        go_simp
        refine hK'.out _ _ ⟨by go_simp, by go_simp⟩ ?_
        clear hK' K'
        refine wpAnyR_end (by kernel_rfl) (fun w12 h12 => ?_)
        (try simp only [Act.put, List.setIfInBounds_toArray, List.set_cons_zero, List.set_cons_succ])
        have q := keep2 h12 (b := w.heap.size + 2) (by first | (simp; done) | (simp; omega) | omega)
        have kc12_0_0 := q.1
        have kc12_0_1 := q.2.1
        have kf12_0_0 := q.2.2.1
        have kf12_0_1 := q.2.2.2.1
        have kl12_0 := q.2.2.2.2.1
        have kn12_0 := q.2.2.2.2.2.1
        have km12_0 := q.2.2.2.2.2.2
        clear q
        have kz12 := h12.size
        (try simp only [World.size_alloc, World.size_setCell, World.size_drew] at kz12)
        have H12 := Lib.hid h12
        clear h12
        go_wp2
        refine bodyPost_ret ?_ rfl ⟨rfl, ?_⟩
        · simp [results, Try.results33, go_sem, kc12_0_0, kc12_0_1, kl12_0, kc11_0_0, kc11_0_1, kl11_0, kc10_0_0, kc10_0_1, kl10_0, kc9_0_0, kc9_0_1, kl9_0, kc8_0_0, kc8_0_1, kl8_0, kc7_0_0, kc7_0_1, kl7_0, kc6_2_0, kc6_2_1, kl6_2, kc5_2_0, kc5_2_1, kl5_2, e20, e21, j1, j2, j3, j4, l2]
        · (show Rel _ _; repeat (first | with_reducible exact Rel.refl _ | with_reducible refine Rel.alloc ?_ _ | with_reducible refine Rel.setCell ?_ (by first | (simp; done) | (simp; omega) | omega) _ | with_reducible refine Rel.trans ?_ H12.out | with_reducible refine Rel.trans ?_ H11.out | with_reducible refine Rel.trans ?_ H10.out | with_reducible refine Rel.trans ?_ H9.out | with_reducible refine Rel.trans ?_ H8.out | with_reducible refine Rel.trans ?_ H7.out | with_reducible refine Rel.trans ?_ H6.out | with_reducible refine Rel.trans ?_ H5.out | with_reducible refine Rel.trans ?_ H4.out | with_reducible exact HA.out))
  · clear HW
    go_wp2_with fail
    with_reducible refine (PL.out _).mono ?_
    rintro e w5 ⟨rfl, h5⟩
    have q := keep2 h5 (b := w.heap.size) (by first | (simp; done) | (simp; omega) | omega)
    have kc5_0_0 := q.1
    have kc5_0_1 := q.2.1
    have kf5_0_0 := q.2.2.1
    have kf5_0_1 := q.2.2.2.1
    have kl5_0 := q.2.2.2.2.1
    have kn5_0 := q.2.2.2.2.2.1
    have km5_0 := q.2.2.2.2.2.2
    clear q
    have q := keep2 h5 (b := w.heap.size + 1) (by first | (simp; done) | (simp; omega) | omega)
    have kc5_1_0 := q.1
    have kc5_1_1 := q.2.1
    have kf5_1_0 := q.2.2.1
    have kf5_1_1 := q.2.2.2.1
    have kl5_1 := q.2.2.2.2.1
    have kn5_1 := q.2.2.2.2.2.1
    have km5_1 := q.2.2.2.2.2.2
    clear q
    have q := keep2 h5 (b := w.heap.size + 2) (by first | (simp; done) | (simp; omega) | omega)
    have kc5_2_0 := q.1
    have kc5_2_1 := q.2.1
    have kf5_2_0 := q.2.2.1
    have kf5_2_1 := q.2.2.2.1
    have kl5_2 := q.2.2.2.2.1
    have kn5_2 := q.2.2.2.2.2.1
    have km5_2 := q.2.2.2.2.2.2
    clear q
    have q := keep2 h5 (b := b1) (by first | (simp; done) | (simp; omega) | omega)
    have kc5_3_0 := q.1
    have kc5_3_1 := q.2.1
    have kf5_3_0 := q.2.2.1
    have kf5_3_1 := q.2.2.2.1
    have kl5_3 := q.2.2.2.2.1
    have kn5_3 := q.2.2.2.2.2.1
    have km5_3 := q.2.2.2.2.2.2
    clear q
    have kz5 := h5.size
    (try simp only [World.size_alloc, World.size_setCell, World.size_drew] at kz5)
    have H5 := Lib.hid h5
    clear h5
    go_wp2_with fail
    refine wp_region_calm (fun _ w' => w'.cell? { block := w.heap.size, off := 0 } = some (.int .i64 a) ∧ w'.cell? { block := w.heap.size, off := 1 } = some (.int .i64 b) ∧ w'.cell? { block := w.heap.size + 1, off := 0 } = some (.int .i64 c) ∧ w'.cell? { block := w.heap.size + 1, off := 1 } = some (.int .i64 d)) (fun _ => false) [0, 1, 2, 3, 4, 5, 6, 7] 0 (by kernel_rfl) (by kernel_rfl) ?hst ?hS0 (fun w0 h0 => ?_)
    case hst => exact fun _ _ _ h r => ⟨r.cell h.1, r.cell h.2.1, r.cell h.2.2.1, r.cell h.2.2.2⟩
    case hS0 => exact ⟨by go_simp, by go_simp, by go_simp, by go_simp⟩
    iterate 2
      refine wpCalm_go rfl (by kernel_rfl) (fun K hK => ?_)
      apply Exists.intro
      refine ⟨fun M w hM hS => ?_, hK _ ?_⟩
      · have c1 := hS.1
        have c2 := hS.2.1
        have c3 := hS.2.2.1
        have c4 := hS.2.2.2
        unfold calmAt
        go_simp
        exact ⟨rfl, Rel.refl _⟩
      clear hK K
    refine wpCalm_go rfl (by kernel_rfl) (fun K hK => ?_)
    apply Exists.intro
    refine ⟨fun M w hM hS => ?_, hK _ ?_⟩
    · have c1 := hS.1
      have c2 := hS.2.1
      have c3 := hS.2.2.1
      have c4 := hS.2.2.2
      unfold calmAt
      go_simp
      with_reducible refine (S2.out _).mono ?_
      rintro e w1 ⟨rfl, rfl⟩
      exact ⟨rfl, Rel.refl _⟩
    clear hK K
    iterate 2
      refine wpCalm_go rfl (by kernel_rfl) (fun K hK => ?_)
      apply Exists.intro
      refine ⟨fun M w hM hS => ?_, hK _ ?_⟩
      · have c1 := hS.1
        have c2 := hS.2.1
        have c3 := hS.2.2.1
        have c4 := hS.2.2.2
        unfold calmAt
        go_simp
        exact ⟨rfl, Rel.refl _⟩
      clear hK K
    refine wpCalm_go rfl (by kernel_rfl) (fun K hK => ?_)
    apply Exists.intro
    refine ⟨fun M w hM hS => ?_, hK _ ?_⟩
    · have c1 := hS.1
      have c2 := hS.2.1
      have c3 := hS.2.2.1
      have c4 := hS.2.2.2
      unfold calmAt
      go_simp
      with_reducible refine (S4.out _).mono ?_
      rintro e w1 ⟨rfl, rfl⟩
      exact ⟨rfl, Rel.refl _⟩
    clear hK K
    iterate 2
      refine wpCalm_go rfl (by kernel_rfl) (fun K hK => ?_)
      apply Exists.intro
      refine ⟨fun M w hM hS => ?_, hK _ ?_⟩
      · have c1 := hS.1
        have c2 := hS.2.1
        have c3 := hS.2.2.1
        have c4 := hS.2.2.2
        unfold calmAt
        go_simp
        exact ⟨rfl, Rel.refl _⟩
      clear hK K
    refine wpAnyR_end (by kernel_rfl) (fun w6 h6' => ?_)
    (try simp only [Act.put, List.setIfInBounds_toArray, List.set_cons_zero, List.set_cons_succ])
    have h6 := h0.trans h6'
    clear h0 h6'
    have q := keep2 h6 (b := w.heap.size) (by first | (simp; done) | (simp; omega) | omega)
    have kc6_0_0 := q.1
    have kc6_0_1 := q.2.1
    have kf6_0_0 := q.2.2.1
    have kf6_0_1 := q.2.2.2.1
    have kl6_0 := q.2.2.2.2.1
    have kn6_0 := q.2.2.2.2.2.1
    have km6_0 := q.2.2.2.2.2.2
    clear q
    have q := keep2 h6 (b := w.heap.size + 1) (by first | (simp; done) | (simp; omega) | omega)
    have kc6_1_0 := q.1
    have kc6_1_1 := q.2.1
    have kf6_1_0 := q.2.2.1
    have kf6_1_1 := q.2.2.2.1
    have kl6_1 := q.2.2.2.2.1
    have kn6_1 := q.2.2.2.2.2.1
    have km6_1 := q.2.2.2.2.2.2
    clear q
    have q := keep2 h6 (b := w.heap.size + 2) (by first | (simp; done) | (simp; omega) | omega)
    have kc6_2_0 := q.1
    have kc6_2_1 := q.2.1
    have kf6_2_0 := q.2.2.1
    have kf6_2_1 := q.2.2.2.1
    have kl6_2 := q.2.2.2.2.1
    have kn6_2 := q.2.2.2.2.2.1
    have km6_2 := q.2.2.2.2.2.2
    clear q
    have q := keep2 h6 (b := b1) (by first | (simp; done) | (simp; omega) | omega)
    have kc6_3_0 := q.1
    have kc6_3_1 := q.2.1
    have kf6_3_0 := q.2.2.1
    have kf6_3_1 := q.2.2.2.1
    have kl6_3 := q.2.2.2.2.1
    have kn6_3 := q.2.2.2.2.2.1
    have km6_3 := q.2.2.2.2.2.2
    clear q
    have kz6 := h6.size
    (try simp only [World.size_alloc, World.size_setCell, World.size_drew] at kz6)
    have H6 := Lib.hid h6
    clear h6
    rcases HR.out with ⟨rfl, rfl, rfl, rfl, rfl⟩ | ⟨hx, hg, hF, hE2, RM, G, OV, WI⟩
    · clear HR
      go_wp2
      refine bodyPost_ret ?_ rfl ⟨rfl, ?_⟩
      · simp [results, Try.results33, go_sem, kc6_2_0, kc6_2_1, kl6_2, kc5_2_0, kc5_2_1, kl5_2, e20, e21, j1, j2, j3, j4, l2]
      · (show Rel _ _; repeat (first | with_reducible exact Rel.refl _ | with_reducible refine Rel.alloc ?_ _ | with_reducible refine Rel.setCell ?_ (by first | (simp; done) | (simp; omega) | omega) _ | with_reducible refine Rel.trans ?_ H6.out | with_reducible refine Rel.trans ?_ H5.out | with_reducible refine Rel.trans ?_ H4.out | with_reducible exact HA.out))
    · have n1 : ¬ g = 0 := by omega
      have y1 : ((g : Int) == 0) = false := by simp; omega
      have i1 := int_div_nat E g
      have i2 := tdiv_nat E g
      rw [hF] at i1 i2
      have l1 : F < 18446744073709551616 := by rw [← hF]; exact Nat.lt_of_le_of_lt (Nat.div_le_self _ _) hE2
      have i3 := u64_nat l1
      clear HR hF hg hE2
      rcases hx with ⟨hx', hx⟩ | hx
      · go_wp2_with fail
        with_reducible refine (RM.out _).mono ?_
        rintro e w7 ⟨rfl, h7⟩
        have q := keep2 h7 (b := w.heap.size + 2) (by first | (simp; done) | (simp; omega) | omega)
        have kc7_0_0 := q.1
        have kc7_0_1 := q.2.1
        have kf7_0_0 := q.2.2.1
        have kf7_0_1 := q.2.2.2.1
        have kl7_0 := q.2.2.2.2.1
        have kn7_0 := q.2.2.2.2.2.1
        have km7_0 := q.2.2.2.2.2.2
        clear q
        have q := keep2 h7 (b := b1) (by first | (simp; done) | (simp; omega) | omega)
        have kc7_1_0 := q.1
        have kc7_1_1 := q.2.1
        have kf7_1_0 := q.2.2.1
        have kf7_1_1 := q.2.2.2.1
        have kl7_1 := q.2.2.2.2.1
        have kn7_1 := q.2.2.2.2.2.1
        have km7_1 := q.2.2.2.2.2.2
        clear q
        have kz7 := h7.size
        (try simp only [World.size_alloc, World.size_setCell, World.size_drew] at kz7)
        have H7 := Lib.hid h7
        clear h7
        go_wp2_with fail
        with_reducible refine (G.out _).mono ?_
        rintro e w8 ⟨rfl, h8⟩
        have q := keep2 h8 (b := w.heap.size + 2) (by first | (simp; done) | (simp; omega) | omega)
        have kc8_0_0 := q.1
        have kc8_0_1 := q.2.1
        have kf8_0_0 := q.2.2.1
        have kf8_0_1 := q.2.2.2.1
        have kl8_0 := q.2.2.2.2.1
        have kn8_0 := q.2.2.2.2.2.1
        have km8_0 := q.2.2.2.2.2.2
        clear q
        have q := keep2 h8 (b := b1) (by first | (simp; done) | (simp; omega) | omega)
        have kc8_1_0 := q.1
        have kc8_1_1 := q.2.1
        have kf8_1_0 := q.2.2.1
        have kf8_1_1 := q.2.2.2.1
        have kl8_1 := q.2.2.2.2.1
        have kn8_1 := q.2.2.2.2.2.1
        have km8_1 := q.2.2.2.2.2.2
        clear q
        have kz8 := h8.size
        (try simp only [World.size_alloc, World.size_setCell, World.size_drew] at kz8)
        have H8 := Lib.hid h8
        clear h8
        go_wp2_with fail
        refine wp_region_calm (fun _ w' => w'.cell? { block := b1, off := 0 } = some (.int .u64 Xh) ∧ w'.cell? { block := b1, off := 1 } = some (.int .u64 Xl)) (fun _ => false) [0, 1, 2, 3, 4, 5, 6, 7, 8, 9, 10] 2 (by kernel_rfl) (by kernel_rfl) ?hst ?hS0 (fun w0 h0 => ?_)
        case hst => exact fun _ _ _ h r => ⟨r.cell h.1, r.cell h.2⟩
        case hS0 => exact ⟨by go_simp, by go_simp⟩
        iterate 3
          refine wpCalm_go rfl (by kernel_rfl) (fun K hK => ?_)
          apply Exists.intro
          refine ⟨fun M w hM hS => ?_, hK _ ?_⟩
          · have c1 := hS.1
            have c2 := hS.2
            unfold calmAt
            go_simp
            exact ⟨rfl, Rel.refl _⟩
          clear hK K
        refine wpCalm_go rfl (by kernel_rfl) (fun K hK => ?_)
        apply Exists.intro
        refine ⟨fun M w hM hS => ?_, hK _ ?_⟩
        · unfold calmAt
          go_simp
          with_reducible refine (OV.out _).mono ?_
          rintro e w1 ⟨rfl, hb⟩
          exact ⟨rfl, hb⟩
        clear hK K
        iterate 4
          refine wpCalm_go rfl (by kernel_rfl) (fun K hK => ?_)
          apply Exists.intro
          refine ⟨fun M w hM hS => ?_, hK _ ?_⟩
          · have c1 := hS.1
            have c2 := hS.2
            unfold calmAt
            go_simp
            exact ⟨rfl, Rel.refl _⟩
          clear hK K
        refine wpCalm_go rfl (by kernel_rfl) (fun K hK => ?_)
        apply Exists.intro
        refine ⟨fun M w hM hS => ?_, hK _ ?_⟩
        · unfold calmAt
          go_simp
          with_reducible refine (WI.out _).mono ?_
          rintro e w1 ⟨rfl, hb⟩
          exact ⟨rfl, hb⟩
        clear hK K
        iterate 2
          refine wpCalm_go rfl (by kernel_rfl) (fun K hK => ?_)
          apply Exists.intro
          refine ⟨fun M w hM hS => ?_, hK _ ?_⟩
          · unfold calmAt
            go_simp
            exact ⟨rfl, Rel.refl _⟩
          clear hK K
        refine wpCalm_nil ?_
        have h9 := h0
        clear h0
        have q := keep2 h9 (b := w.heap.size + 2) (by first | (simp; done) | (simp; omega) | omega)
        have kc9_0_0 := q.1
        have kc9_0_1 := q.2.1
        have kf9_0_0 := q.2.2.1
        have kf9_0_1 := q.2.2.2.1
        have kl9_0 := q.2.2.2.2.1
        have kn9_0 := q.2.2.2.2.2.1
        have km9_0 := q.2.2.2.2.2.2
        clear q
        have q := keep2 h9 (b := b1) (by first | (simp; done) | (simp; omega) | omega)
        have kc9_1_0 := q.1
        have kc9_1_1 := q.2.1
        have kf9_1_0 := q.2.2.1
        have kf9_1_1 := q.2.2.2.1
        have kl9_1 := q.2.2.2.2.1
        have kn9_1 := q.2.2.2.2.2.1
        have km9_1 := q.2.2.2.2.2.2
        clear q
        have kz9 := h9.size
        (try simp only [World.size_alloc, World.size_setCell, World.size_drew] at kz9)
        have H9 := Lib.hid h9
        clear h9
        refine wpAnyR_ready (rs := [11]) (by kernel_rfl) (by simp) (AllR.cons rfl (fun w10 h10 K' hK' => ?_) AllR.nil)
        have q := keep2 h10 (b := w.heap.size + 2) (by first | (simp; done) | (simp; omega) | omega)
        have kc10_0_0 := q.1
        have kc10_0_1 := q.2.1
        have kf10_0_0 := q.2.2.1
        have kf10_0_1 := q.2.2.2.1
        have kl10_0 := q.2.2.2.2.1
        have kn10_0 := q.2.2.2.2.2.1
        have km10_0 := q.2.2.2.2.2.2
        clear q
        have q := keep2 h10 (b := b1) (by first | (simp; done) | (simp; omega) | omega)
        have kc10_1_0 := q.1
        have kc10_1_1 := q.2.1
        have kf10_1_0 := q.2.2.1
        have kf10_1_1 := q.2.2.2.1
        have kl10_1 := q.2.2.2.2.1
        have kn10_1 := q.2.2.2.2.2.1
        have km10_1 := q.2.2.2.2.2.2
        clear q
        have kz10 := h10.size
        (try simp only [World.size_alloc, World.size_setCell, World.size_drew] at kz10)
        have H10 := Lib.hid h10
        clear h10
        go_simp
        refine hK'.out _ _ ⟨by go_simp, by go_simp⟩ ?_
        clear hK' K'
        refine wpAnyR_ready (rs := [12]) (by kernel_rfl) (by simp) (AllR.cons rfl (fun w11 h11 K' hK' => ?_) AllR.nil)
        have q := keep2 h11 (b := w.heap.size + 2) (by first | (simp; done) | (simp; omega) | omega)
        have kc11_0_0 := q.1
        have kc11_0_1 := q.2.1
        have kf11_0_0 := q.2.2.1
        have kf11_0_1 := q.2.2.2.1
        have kl11_0 := q.2.2.2.2.1
        have kn11_0 := q.2.2.2.2.2.1
        have km11_0 := q.2.2.2.2.2.2
        clear q
        have q := keep2 h11 (b := b1) (by first | (simp; done) | (simp; omega) | omega)
        have kc11_1_0 := q.1
        have kc11_1_1 := q.2.1
        have kf11_1_0 := q.2.2.1
        have kf11_1_1 := q.2.2.2.1
        have kl11_1 := q.2.2.2.2.1
        have kn11_1 := q.2.2.2.2.2.1
        have km11_1 := q.2.2.2.2.2.2
        clear q
        have kz11 := h11.size
        (try simp only [World.size_alloc, World.size_setCell, World.size_drew] at kz11)
        have H11 := Lib.hid h11
        clear h11
        go_simp
        refine hK'.out _ _ ⟨by go_simp, by go_simp⟩ ?_
        clear hK' K'
        refine wpAnyR_end (by kernel_rfl) (fun w12 h12 => ?_)
        (try simp only [Act.put, List.setIfInBounds_toArray, List.set_cons_zero, List.set_cons_succ])
        have q := keep2 h12 (b := w.heap.size + 2) (by first | (simp; done) | (simp; omega) | omega)
        have kc12_0_0 := q.1
        have kc12_0_1 := q.2.1
        have kf12_0_0 := q.2.2.1
        have kf12_0_1 := q.2.2.2.1
        have kl12_0 := q.2.2.2.2.1
        have kn12_0 := q.2.2.2.2.2.1
        have km12_0 := q.2.2.2.2.2.2
        clear q
        have kz12 := h12.size
        (try simp only [World.size_alloc, World.size_setCell, World.size_drew] at kz12)
        have H12 := Lib.hid h12
        clear h12
        go_wp2
        refine bodyPost_ret ?_ rfl ⟨rfl, ?_⟩
        · simp [results, Try.results33, go_sem, kc12_0_0, kc12_0_1, kl12_0, kc11_0_0, kc11_0_1, kl11_0, kc10_0_0, kc10_0_1, kl10_0, kc9_0_0, kc9_0_1, kl9_0, kc8_0_0, kc8_0_1, kl8_0, kc7_0_0, kc7_0_1, kl7_0, kc6_2_0, kc6_2_1, kl6_2, kc5_2_0, kc5_2_1, kl5_2, e20, e21, j1, j2, j3, j4, l2]
        · (show Rel _ _; repeat (first | with_reducible exact Rel.refl _ | with_reducible refine Rel.alloc ?_ _ | with_reducible refine Rel.setCell ?_ (by first | (simp; done) | (simp; omega) | omega) _ | with_reducible refine Rel.trans ?_ H12.out | with_reducible refine Rel.trans ?_ H11.out | with_reducible refine Rel.trans ?_ H10.out | with_reducible refine Rel.trans ?_ H9.out | with_reducible refine Rel.trans ?_ H8.out | with_reducible refine Rel.trans ?_ H7.out | with_reducible refine Rel.trans ?_ H6.out | with_reducible refine Rel.trans ?_ H5.out | with_reducible refine Rel.trans ?_ H4.out | with_reducible exact HA.out))
      · go_wp2_with fail
        with_reducible refine (RM.out _).mono ?_
        rintro e w7 ⟨rfl, h7⟩
        have q := keep2 h7 (b := w.heap.size + 2) (by first | (simp; done) | (simp; omega) | omega)
        have kc7_0_0 := q.1
        have kc7_0_1 := q.2.1
        have kf7_0_0 := q.2.2.1
        have kf7_0_1 := q.2.2.2.1
        have kl7_0 := q.2.2.2.2.1
        have kn7_0 := q.2.2.2.2.2.1
        have km7_0 := q.2.2.2.2.2.2
        clear q
        have q := keep2 h7 (b := b1) (by first | (simp; done) | (simp; omega) | omega)
        have kc7_1_0 := q.1
        have kc7_1_1 := q.2.1
        have kf7_1_0 := q.2.2.1
        have kf7_1_1 := q.2.2.2.1
        have kl7_1 := q.2.2.2.2.1
        have kn7_1 := q.2.2.2.2.2.1
        have km7_1 := q.2.2.2.2.2.2
        clear q
        have kz7 := h7.size
        (try simp only [World.size_alloc, World.size_setCell, World.size_drew] at kz7)
        have H7 := Lib.hid h7
        clear h7
        go_wp2_with fail
        with_reducible refine (G.out _).mono ?_
        rintro e w8 ⟨rfl, h8⟩
        have q := keep2 h8 (b := w.heap.size + 2) (by first | (simp; done) | (simp; omega) | omega)
        have kc8_0_0 := q.1
        have kc8_0_1 := q.2.1
        have kf8_0_0 := q.2.2.1
        have kf8_0_1 := q.2.2.2.1
        have kl8_0 := q.2.2.2.2.1
        have kn8_0 := q.2.2.2.2.2.1
        have km8_0 := q.2.2.2.2.2.2
        clear q
        have q := keep2 h8 (b := b1) (by first | (simp; done) | (simp; omega) | omega)
        have kc8_1_0 := q.1
        have kc8_1_1 := q.2.1
        have kf8_1_0 := q.2.2.1
        have kf8_1_1 := q.2.2.2.1
        have kl8_1 := q.2.2.2.2.1
        have kn8_1 := q.2.2.2.2.2.1
        have km8_1 := q.2.2.2.2.2.2
        clear q
        have kz8 := h8.size
        (try simp only [World.size_alloc, World.size_setCell, World.size_drew] at kz8)
        have H8 := Lib.hid h8
        clear h8
        go_wp2_with fail
        refine wp_region_calm (fun _ w' => w'.cell? { block := b1, off := 0 } = some (.int .u64 Xh) ∧ w'.cell? { block := b1, off := 1 } = some (.int .u64 Xl)) (fun _ => false) [0, 1, 2, 3, 4, 5, 6, 7, 8, 9, 10] 2 (by kernel_rfl) (by kernel_rfl) ?hst ?hS0 (fun w0 h0 => ?_)
        case hst => exact fun _ _ _ h r => ⟨r.cell h.1, r.cell h.2⟩
        case hS0 => exact ⟨by go_simp, by go_simp⟩
        iterate 3
          refine wpCalm_go rfl (by kernel_rfl) (fun K hK => ?_)
          apply Exists.intro
          refine ⟨fun M w hM hS => ?_, hK _ ?_⟩
          · have c1 := hS.1
            have c2 := hS.2
            unfold calmAt
            go_simp
            exact ⟨rfl, Rel.refl _⟩
          clear hK K
        refine wpCalm_go rfl (by kernel_rfl) (fun K hK => ?_)
        apply Exists.intro
        refine ⟨fun M w hM hS => ?_, hK _ ?_⟩
        · unfold calmAt
          go_simp
          with_reducible refine (OV.out _).mono ?_
          rintro e w1 ⟨rfl, hb⟩
          exact ⟨rfl, hb⟩
        clear hK K
        iterate 4
          refine wpCalm_go rfl (by kernel_rfl) (fun K hK => ?_)
          apply Exists.intro
          refine ⟨fun M w hM hS => ?_, hK _ ?_⟩
          · have c1 := hS.1
            have c2 := hS.2
            unfold calmAt
            go_simp
            exact ⟨rfl, Rel.refl _⟩
          clear hK K
        refine wpCalm_go rfl (by kernel_rfl) (fun K hK => ?_)
        apply Exists.intro
        refine ⟨fun M w hM hS => ?_, hK _ ?_⟩
        · unfold calmAt
          go_simp
          with_reducible refine (WI.out _).mono ?_
          rintro e w1 ⟨rfl, hb⟩
          exact ⟨rfl, hb⟩
        clear hK K
        iterate 2
          refine wpCalm_go rfl (by kernel_rfl) (fun K hK => ?_)
          apply Exists.intro
          refine ⟨fun M w hM hS => ?_, hK _ ?_⟩
          · unfold calmAt
            go_simp
            exact ⟨rfl, Rel.refl _⟩
          clear hK K
        refine wpCalm_nil ?_
        have h9 := h0
        clear h0
        have q := keep2 h9 (b := w.heap.size + 2) (by first | (simp; done) | (simp; omega) | omega)
        have kc9_0_0 := q.1
        have kc9_0_1 := q.2.1
        have kf9_0_0 := q.2.2.1
        have kf9_0_1 := q.2.2.2.1
        have kl9_0 := q.2.2.2.2.1
        have kn9_0 := q.2.2.2.2.2.1
        have km9_0 := q.2.2.2.2.2.2
        clear q
        have q := keep2 h9 (b := b1) (by first | (simp; done) | (simp; omega) | omega)
        have kc9_1_0 := q.1
        have kc9_1_1 := q.2.1
        have kf9_1_0 := q.2.2.1
        have kf9_1_1 := q.2.2.2.1
        have kl9_1 := q.2.2.2.2.1
        have kn9_1 := q.2.2.2.2.2.1
        have km9_1 := q.2.2.2.2.2.2
        clear q
        have kz9 := h9.size
        (try simp only [World.size_alloc, World.size_setCell, World.size_drew] at kz9)
        have H9 := Lib.hid h9
        clear h9
        refine wpAnyR_ready (rs := [11]) (by kernel_rfl) (by simp) (AllR.cons rfl (fun w10 h10 K' hK' => ?_) AllR.nil)
        have q := keep2 h10 (b := w.heap.size + 2) (by first | (simp; done) | (simp; omega) | omega)
        have kc10_0_0 := q.1
        have kc10_0_1 := q.2.1
        have kf10_0_0 := q.2.2.1
        have kf10_0_1 := q.2.2.2.1
        have kl10_0 := q.2.2.2.2.1
        have kn10_0 := q.2.2.2.2.2.1
        have km10_0 := q.2.2.2.2.2.2
        clear q
        have q := keep2 h10 (b := b1) (by first | (simp; done) | (simp; omega) | omega)
        have kc10_1_0 := q.1
        have kc10_1_1 := q.2.1
        have kf10_1_0 := q.2.2.1
        have kf10_1_1 := q.2.2.2.1
        have kl10_1 := q.2.2.2.2.1
        have kn10_1 := q.2.2.2.2.2.1
        have km10_1 := q.2.2.2.2.2.2
        clear q
        have kz10 := h10.size
        (try simp only [World.size_alloc, World.size_setCell, World.size_drew] at kz10)
        have H10 := Lib.hid h10
        clear h10
        go_simp
        refine hK'.out _ _ ⟨by go_simp, by go_simp⟩ ?_
        clear hK' K'
        refine wpAnyR_ready (rs := [12]) (by kernel_rfl) (by simp) (AllR.cons rfl (fun w11 h11 K' hK' => ?_) AllR.nil)
        have q := keep2 h11 (b := w.heap.size + 2) (by first | (simp; done) | (simp; omega) | omega)
        have kc11_0_0 := q.1
        have kc11_0_1 := q.2.1
        have kf11_0_0 := q.2.2.1
        have kf11_0_1 := q.2.2.2.1
        have kl11_0 := q.2.2.2.2.1
        have kn11_0 := q.2.2.2.2.2.1
        have km11_0 := q.2.2.2.2.2.2
        clear q
        have q := keep2 h11 (b := b1) (by first | (simp; done) | (simp; omega) | omega)
        have kc11_1_0 := q.1
        have kc11_1_1 := q.2.1
        have kf11_1_0 := q.2.2.1
        have kf11_1_1 := q.2.2.2.1
        have kl11_1 := q.2.2.2.2.1
        have kn11_1 := q.2.2.2.2.2.1
        have km11_1 := q.2.2.2.2.2.2
        clear q
        have kz11 := h11.size
        (try simp only [World.size_alloc, World.size_setCell, World.size_drew] at kz11)
        have H11 := Lib.hid h11
        clear h11
        go_simp
        refine hK'.out _ _ ⟨by go_simp, by go_simp⟩ ?_
        clear hK' K'
        refine wpAnyR_end (by kernel_rfl) (fun w12 h12 => ?_)
        (try simp only [Act.put, List.setIfInBounds_toArray, List.set_cons_zero, List.set_cons_succ])
        have q := keep2 h12 (b := w.heap.size + 2) (by first | (simp; done) | (simp; omega) | omega)
        have kc12_0_0 := q.1
        have kc12_0_1 := q.2.1
        have kf12_0_0 := q.2.2.1
        have kf12_0_1 := q.2.2.2.1
        have kl12_0 := q.2.2.2.2.1
        have kn12_0 := q.2.2.2.2.2.1
        have km12_0 := q.2.2.2.2.2.2
        clear q
        have kz12 := h12.size
        (try simp only [World.size_alloc, World.size_setCell, World.size_drew] at kz12)
        have H12 := Lib.hid h12
        clear h12
        go_wp2
        refine bodyPost_ret ?_ rfl ⟨rfl, ?_⟩
        · simp [results, Try.results33, go_sem, kc12_0_0, kc12_0_1, kl12_0, kc11_0_0, kc11_0_1, kl11_0, kc10_0_0, kc10_0_1, kl10_0, kc9_0_0, kc9_0_1, kl9_0, kc8_0_0, kc8_0_1, kl8_0, kc7_0_0, kc7_0_1, kl7_0, kc6_2_0, kc6_2_1, kl6_2, kc5_2_0, kc5_2_1, kl5_2, e20, e21, j1, j2, j3, j4, l2]
        · (show Rel _ _; repeat (first | with_reducible exact Rel.refl _ | with_reducible refine Rel.alloc ?_ _ | with_reducible refine Rel.setCell ?_ (by first | (simp; done) | (simp; omega) | omega) _ | with_reducible refine Rel.trans ?_ H12.out | with_reducible refine Rel.trans ?_ H11.out | with_reducible refine Rel.trans ?_ H10.out | with_reducible refine Rel.trans ?_ H9.out | with_reducible refine Rel.trans ?_ H8.out | with_reducible refine Rel.trans ?_ H7.out | with_reducible refine Rel.trans ?_ H6.out | with_reducible refine Rel.trans ?_ H5.out | with_reducible refine Rel.trans ?_ H4.out | with_reducible exact HA.out))
  · clear HW
    go_wp2_with fail
    with_reducible refine (LT.out _).mono ?_
    rintro e w4 ⟨rfl, h4⟩
    have q := keep2 h4 (b := w.heap.size) (by first | (simp; done) | (simp; omega) | omega)
    have kc4_0_0 := q.1
    have kc4_0_1 := q.2.1
    have kf4_0_0 := q.2.2.1
    have kf4_0_1 := q.2.2.2.1
    have kl4_0 := q.2.2.2.2.1
    have kn4_0 := q.2.2.2.2.2.1
    have km4_0 := q.2.2.2.2.2.2
    clear q
    have q := keep2 h4 (b := w.heap.size + 1) (by first | (simp; done) | (simp; omega) | omega)
    have kc4_1_0 := q.1
    have kc4_1_1 := q.2.1
    have kf4_1_0 := q.2.2.1
    have kf4_1_1 := q.2.2.2.1
    have kl4_1 := q.2.2.2.2.1
    have kn4_1 := q.2.2.2.2.2.1
    have km4_1 := q.2.2.2.2.2.2
    clear q
    have q := keep2 h4 (b := w.heap.size + 2) (by first | (simp; done) | (simp; omega) | omega)
    have kc4_2_0 := q.1
    have kc4_2_1 := q.2.1
    have kf4_2_0 := q.2.2.1
    have kf4_2_1 := q.2.2.2.1
    have kl4_2 := q.2.2.2.2.1
    have kn4_2 := q.2.2.2.2.2.1
    have km4_2 := q.2.2.2.2.2.2
    clear q
    have q := keep2 h4 (b := b1) (by first | (simp; done) | (simp; omega) | omega)
    have kc4_3_0 := q.1
    have kc4_3_1 := q.2.1
    have kf4_3_0 := q.2.2.1
    have kf4_3_1 := q.2.2.2.1
    have kl4_3 := q.2.2.2.2.1
    have kn4_3 := q.2.2.2.2.2.1
    have km4_3 := q.2.2.2.2.2.2
    clear q
    have q := keep2 h4 (b := b2) (by first | (simp; done) | (simp; omega) | omega)
    have kc4_4_0 := q.1
    have kc4_4_1 := q.2.1
    have kf4_4_0 := q.2.2.1
    have kf4_4_1 := q.2.2.2.1
    have kl4_4 := q.2.2.2.2.1
    have kn4_4 := q.2.2.2.2.2.1
    have km4_4 := q.2.2.2.2.2.2
    clear q
    have kz4 := h4.size
    (try simp only [World.size_alloc, World.size_setCell, World.size_drew] at kz4)
    have H4 := Lib.hid h4
    clear h4
    go_wp2_with fail
    with_reducible refine (MI.out _).mono ?_
    rintro e w5 ⟨rfl, h5⟩
    have q := keep2 h5 (b := w.heap.size) (by first | (simp; done) | (simp; omega) | omega)
    have kc5_0_0 := q.1
    have kc5_0_1 := q.2.1
    have kf5_0_0 := q.2.2.1
    have kf5_0_1 := q.2.2.2.1
    have kl5_0 := q.2.2.2.2.1
    have kn5_0 := q.2.2.2.2.2.1
    have km5_0 := q.2.2.2.2.2.2
    clear q
    have q := keep2 h5 (b := w.heap.size + 1) (by first | (simp; done) | (simp; omega) | omega)
    have kc5_1_0 := q.1
    have kc5_1_1 := q.2.1
    have kf5_1_0 := q.2.2.1
    have kf5_1_1 := q.2.2.2.1
    have kl5_1 := q.2.2.2.2.1
    have kn5_1 := q.2.2.2.2.2.1
    have km5_1 := q.2.2.2.2.2.2
    clear q
    have q := keep2 h5 (b := w.heap.size + 2) (by first | (simp; done) | (simp; omega) | omega)
    have kc5_2_0 := q.1
    have kc5_2_1 := q.2.1
    have kf5_2_0 := q.2.2.1
    have kf5_2_1 := q.2.2.2.1
    have kl5_2 := q.2.2.2.2.1
    have kn5_2 := q.2.2.2.2.2.1
    have km5_2 := q.2.2.2.2.2.2
    clear q
    have q := keep2 h5 (b := b1) (by first | (simp; done) | (simp; omega) | omega)
    have kc5_3_0 := q.1
    have kc5_3_1 := q.2.1
    have kf5_3_0 := q.2.2.1
    have kf5_3_1 := q.2.2.2.1
    have kl5_3 := q.2.2.2.2.1
    have kn5_3 := q.2.2.2.2.2.1
    have km5_3 := q.2.2.2.2.2.2
    clear q
    have kz5 := h5.size
    (try simp only [World.size_alloc, World.size_setCell, World.size_drew] at kz5)
    have H5 := Lib.hid h5
    clear h5
    go_wp2_with fail
    refine wp_region_calm (fun _ w' => w'.cell? { block := w.heap.size, off := 0 } = some (.int .i64 a) ∧ w'.cell? { block := w.heap.size, off := 1 } = some (.int .i64 b) ∧ w'.cell? { block := w.heap.size + 1, off := 0 } = some (.int .i64 c) ∧ w'.cell? { block := w.heap.size + 1, off := 1 } = some (.int .i64 d)) (fun _ => false) [0, 1, 2, 3, 4, 5, 6, 7] 0 (by kernel_rfl) (by kernel_rfl) ?hst ?hS0 (fun w0 h0 => ?_)
    case hst => exact fun _ _ _ h r => ⟨r.cell h.1, r.cell h.2.1, r.cell h.2.2.1, r.cell h.2.2.2⟩
    case hS0 => exact ⟨by go_simp, by go_simp, by go_simp, by go_simp⟩
    iterate 2
      refine wpCalm_go rfl (by kernel_rfl) (fun K hK => ?_)
      apply Exists.intro
      refine ⟨fun M w hM hS => ?_, hK _ ?_⟩
      · have c1 := hS.1
        have c2 := hS.2.1
        have c3 := hS.2.2.1
        have c4 := hS.2.2.2
        unfold calmAt
        go_simp
        exact ⟨rfl, Rel.refl _⟩
      clear hK K
    refine wpCalm_go rfl (by kernel_rfl) (fun K hK => ?_)
    apply Exists.intro
    refine ⟨fun M w hM hS => ?_, hK _ ?_⟩
    · have c1 := hS.1
      have c2 := hS.2.1
      have c3 := hS.2.2.1
      have c4 := hS.2.2.2
      unfold calmAt
      go_simp
      with_reducible refine (S2.out _).mono ?_
      rintro e w1 ⟨rfl, rfl⟩
      exact ⟨rfl, Rel.refl _⟩
    clear hK K
    iterate 2
      refine wpCalm_go rfl (by kernel_rfl) (fun K hK => ?_)
      apply Exists.intro
      refine ⟨fun M w hM hS => ?_, hK _ ?_⟩
      · have c1 := hS.1
        have c2 := hS.2.1
        have c3 := hS.2.2.1
        have c4 := hS.2.2.2
        unfold calmAt
        go_simp
        exact ⟨rfl, Rel.refl _⟩
      clear hK K
    refine wpCalm_go rfl (by kernel_rfl) (fun K hK => ?_)
    apply Exists.intro
    refine ⟨fun M w hM hS => ?_, hK _ ?_⟩
    · have c1 := hS.1
      have c2 := hS.2.1
      have c3 := hS.2.2.1
      have c4 := hS.2.2.2
      unfold calmAt
      go_simp
      with_reducible refine (S4.out _).mono ?_
      rintro e w1 ⟨rfl, rfl⟩
      exact ⟨rfl, Rel.refl _⟩
    clear hK K
    iterate 2
      refine wpCalm_go rfl (by kernel_rfl) (fun K hK => ?_)
      apply Exists.intro
      refine ⟨fun M w hM hS => ?_, hK _ ?_⟩
      · have c1 := hS.1
        have c2 := hS.2.1
        have c3 := hS.2.2.1
        have c4 := hS.2.2.2
        unfold calmAt
        go_simp
        exact ⟨rfl, Rel.refl _⟩
      clear hK K
    refine wpAnyR_end (by kernel_rfl) (fun w6 h6' => ?_)
    (try simp only [Act.put, List.setIfInBounds_toArray, List.set_cons_zero, List.set_cons_succ])
    have h6 := h0.trans h6'
    clear h0 h6'
    have q := keep2 h6 (b := w.heap.size) (by first | (simp; done) | (simp; omega) | omega)
    have kc6_0_0 := q.1
    have kc6_0_1 := q.2.1
    have kf6_0_0 := q.2.2.1
    have kf6_0_1 := q.2.2.2.1
    have kl6_0 := q.2.2.2.2.1
    have kn6_0 := q.2.2.2.2.2.1
    have km6_0 := q.2.2.2.2.2.2
    clear q
    have q := keep2 h6 (b := w.heap.size + 1) (by first | (simp; done) | (simp; omega) | omega)
    have kc6_1_0 := q.1
    have kc6_1_1 := q.2.1
    have kf6_1_0 := q.2.2.1
    have kf6_1_1 := q.2.2.2.1
    have kl6_1 := q.2.2.2.2.1
    have kn6_1 := q.2.2.2.2.2.1
    have km6_1 := q.2.2.2.2.2.2
    clear q
    have q := keep2 h6 (b := w.heap.size + 2) (by first | (simp; done) | (simp; omega) | omega)
    have kc6_2_0 := q.1
    have kc6_2_1 := q.2.1
    have kf6_2_0 := q.2.2.1
    have kf6_2_1 := q.2.2.2.1
    have kl6_2 := q.2.2.2.2.1
    have kn6_2 := q.2.2.2.2.2.1
    have km6_2 := q.2.2.2.2.2.2
    clear q
    have q := keep2 h6 (b := b1) (by first | (simp; done) | (simp; omega) | omega)
    have kc6_3_0 := q.1
    have kc6_3_1 := q.2.1
    have kf6_3_0 := q.2.2.1
    have kf6_3_1 := q.2.2.2.1
    have kl6_3 := q.2.2.2.2.1
    have kn6_3 := q.2.2.2.2.2.1
    have km6_3 := q.2.2.2.2.2.2
    clear q
    have kz6 := h6.size
    (try simp only [World.size_alloc, World.size_setCell, World.size_drew] at kz6)
    have H6 := Lib.hid h6
    clear h6
    rcases HR.out with ⟨rfl, rfl, rfl, rfl, rfl⟩ | ⟨hx, hg, hF, hE2, RM, G, OV, WI⟩
    · clear HR
      go_wp2
      refine bodyPost_ret ?_ rfl ⟨rfl, ?_⟩
      · simp [results, Try.results33, go_sem, kc6_2_0, kc6_2_1, kl6_2, kc5_2_0, kc5_2_1, kl5_2, e20, e21, j1, j2, j3, j4, l2, kc4_2_0, kc4_2_1, kl4_2]
      · (show Rel _ _; repeat (first | with_reducible exact Rel.refl _ | with_reducible refine Rel.alloc ?_ _ | with_reducible refine Rel.setCell ?_ (by first | (simp; done) | (simp; omega) | omega) _ | with_reducible refine Rel.trans ?_ H6.out | with_reducible refine Rel.trans ?_ H5.out | with_reducible refine Rel.trans ?_ H4.out | with_reducible exact HA.out))
    · have n1 : ¬ g = 0 := by omega
      have y1 : ((g : Int) == 0) = false := by simp; omega
      have i1 := int_div_nat E g
      have i2 := tdiv_nat E g
      rw [hF] at i1 i2
      have l1 : F < 18446744073709551616 := by rw [← hF]; exact Nat.lt_of_le_of_lt (Nat.div_le_self _ _) hE2
      have i3 := u64_nat l1
      clear HR hF hg hE2
      rcases hx with ⟨hx', hx⟩ | hx
      · go_wp2_with fail
        with_reducible refine (RM.out _).mono ?_
        rintro e w7 ⟨rfl, h7⟩
        have q := keep2 h7 (b := w.heap.size + 2) (by first | (simp; done) | (simp; omega) | omega)
        have kc7_0_0 := q.1
        have kc7_0_1 := q.2.1
        have kf7_0_0 := q.2.2.1
        have kf7_0_1 := q.2.2.2.1
        have kl7_0 := q.2.2.2.2.1
        have kn7_0 := q.2.2.2.2.2.1
        have km7_0 := q.2.2.2.2.2.2
        clear q
        have q := keep2 h7 (b := b1) (by first | (simp; done) | (simp; omega) | omega)
        have kc7_1_0 := q.1
        have kc7_1_1 := q.2.1
        have kf7_1_0 := q.2.2.1
        have kf7_1_1 := q.2.2.2.1
        have kl7_1 := q.2.2.2.2.1
        have kn7_1 := q.2.2.2.2.2.1
        have km7_1 := q.2.2.2.2.2.2
        clear q
        have kz7 := h7.size
        (try simp only [World.size_alloc, World.size_setCell, World.size_drew] at kz7)
        have H7 := Lib.hid h7
        clear h7
        go_wp2_with fail
        with_reducible refine (G.out _).mono ?_
        rintro e w8 ⟨rfl, h8⟩
        have q := keep2 h8 (b := w.heap.size + 2) (by first | (simp; done) | (simp; omega) | omega)
        have kc8_0_0 := q.1
        have kc8_0_1 := q.2.1
        have kf8_0_0 := q.2.2.1
        have kf8_0_1 := q.2.2.2.1
        have kl8_0 := q.2.2.2.2.1
        have kn8_0 := q.2.2.2.2.2.1
        have km8_0 := q.2.2.2.2.2.2
        clear q
        have q := keep2 h8 (b := b1) (by first | (simp; done) | (simp; omega) | omega)
        have kc8_1_0 := q.1
        have kc8_1_1 := q.2.1
        have kf8_1_0 := q.2.2.1
        have kf8_1_1 := q.2.2.2.1
        have kl8_1 := q.2.2.2.2.1
        have kn8_1 := q.2.2.2.2.2.1
        have km8_1 := q.2.2.2.2.2.2
        clear q
        have kz8 := h8.size
        (try simp only [World.size_alloc, World.size_setCell, World.size_drew] at kz8)
        have H8 := Lib.hid h8
        clear h8
        go_wp2_with fail
        refine wp_region_calm (fun _ w' => w'.cell? { block := b1, off := 0 } = some (.int .u64 Xh) ∧ w'.cell? { block := b1, off := 1 } = some (.int .u64 Xl)) (fun _ => false) [0, 1, 2, 3, 4, 5, 6, 7, 8, 9, 10] 2 (by kernel_rfl) (by kernel_rfl) ?hst ?hS0 (fun w0 h0 => ?_)
        case hst => exact fun _ _ _ h r => ⟨r.cell h.1, r.cell h.2⟩
        case hS0 => exact ⟨by go_simp, by go_simp⟩
        iterate 3
          refine wpCalm_go rfl (by kernel_rfl) (fun K hK => ?_)
          apply Exists.intro
          refine ⟨fun M w hM hS => ?_, hK _ ?_⟩
          · have c1 := hS.1
            have c2 := hS.2
            unfold calmAt
            go_simp
            exact ⟨rfl, Rel.refl _⟩
          clear hK K
        refine wpCalm_go rfl (by kernel_rfl) (fun K hK => ?_)
        apply Exists.intro
        refine ⟨fun M w hM hS => ?_, hK _ ?_⟩
        · unfold calmAt
          go_simp
          with_reducible refine (OV.out _).mono ?_
          rintro e w1 ⟨rfl, hb⟩
          exact ⟨rfl, hb⟩
        clear hK K
        iterate 4
          refine wpCalm_go rfl (by kernel_rfl) (fun K hK => ?_)
          apply Exists.intro
          refine ⟨fun M w hM hS => ?_, hK _ ?_⟩
          · have c1 := hS.1
            have c2 := hS.2
            unfold calmAt
            go_simp
            exact ⟨rfl, Rel.refl _⟩
          clear hK K
        refine wpCalm_go rfl (by kernel_rfl) (fun K hK => ?_)
        apply Exists.intro
        refine ⟨fun M w hM hS => ?_, hK _ ?_⟩
        · unfold calmAt
          go_simp
          with_reducible refine (WI.out _).mono ?_
          rintro e w1 ⟨rfl, hb⟩
          exact ⟨rfl, hb⟩
        clear hK K
        iterate 2
          refine wpCalm_go rfl (by kernel_rfl) (fun K hK => ?_)
          apply Exists.intro
          refine ⟨fun M w hM hS => ?_, hK _ ?_⟩
          · unfold calmAt
            go_simp
            exact ⟨rfl, Rel.refl _⟩
          clear hK K
        refine wpCalm_nil ?_
        have h9 := h0
        clear h0
        have q := keep2 h9 (b := w.heap.size + 2) (by first | (simp; done) | (simp; omega) | omega)
        have kc9_0_0 := q.1
        have kc9_0_1 := q.2.1
        have kf9_0_0 := q.2.2.1
        have kf9_0_1 := q.2.2.2.1
        have kl9_0 := q.2.2.2.2.1
        have kn9_0 := q.2.2.2.2.2.1
        have km9_0 := q.2.2.2.2.2.2
        clear q
        have q := keep2 h9 (b := b1) (by first | (simp; done) | (simp; omega) | omega)
        have kc9_1_0 := q.1
        have kc9_1_1 := q.2.1
        have kf9_1_0 := q.2.2.1
        have kf9_1_1 := q.2.2.2.1
        have kl9_1 := q.2.2.2.2.1
        have kn9_1 := q.2.2.2.2.2.1
        have km9_1 := q.2.2.2.2.2.2
        clear q
        have kz9 := h9.size
        (try simp only [World.size_alloc, World.size_setCell, World.size_drew] at kz9)
        have H9 := Lib.hid h9
        clear h9
        refine wpAnyR_ready (rs := [11]) (by kernel_rfl) (by simp) (AllR.cons rfl (fun w10 h10 K' hK' => ?_) AllR.nil)
        have q := keep2 h10 (b := w.heap.size + 2) (by first | (simp; done) | (simp; omega) | omega)
        have kc10_0_0 := q.1
        have kc10_0_1 := q.2.1
        have kf10_0_0 := q.2.2.1
        have kf10_0_1 := q.2.2.2.1
        have kl10_0 := q.2.2.2.2.1
        have kn10_0 := q.2.2.2.2.2.1
        have km10_0 := q.2.2.2.2.2.2
        clear q
        have q := keep2 h10 (b := b1) (by first | (simp; done) | (simp; omega) | omega)
        have kc10_1_0 := q.1
        have kc10_1_1 := q.2.1
        have kf10_1_0 := q.2.2.1
        have kf10_1_1 := q.2.2.2.1
        have kl10_1 := q.2.2.2.2.1
        have kn10_1 := q.2.2.2.2.2.1
        have km10_1 := q.2.2.2.2.2.2
        clear q
        have kz10 := h10.size
        (try simp only [World.size_alloc, World.size_setCell, World.size_drew] at kz10)
        have H10 := Lib.hid h10
        clear h10
        go_simp
        refine hK'.out _ _ ⟨by go_simp, by go_simp⟩ ?_
        clear hK' K'
        refine wpAnyR_ready (rs := [12]) (by kernel_rfl) (by simp) (AllR.cons rfl (fun w11 h11 K' hK' => ?_) AllR.nil)
        have q := keep2 h11 (b := w.heap.size + 2) (by first | (simp; done) | (simp; omega) | omega)
        have kc11_0_0 := q.1
        have kc11_0_1 := q.2.1
        have kf11_0_0 := q.2.2.1
        have kf11_0_1 := q.2.2.2.1
        have kl11_0 := q.2.2.2.2.1
        have kn11_0 := q.2.2.2.2.2.1
        have km11_0 := q.2.2.2.2.2.2
        clear q
        have q := keep2 h11 (b := b1) (by first | (simp; done) | (simp; omega) | omega)
        have kc11_1_0 := q.1
        have kc11_1_1 := q.2.1
        have kf11_1_0 := q.2.2.1
        have kf11_1_1 := q.2.2.2.1
        have kl11_1 := q.2.2.2.2.1
        have kn11_1 := q.2.2.2.2.2.1
        have km11_1 := q.2.2.2.2.2.2
        clear q
        have kz11 := h11.size
        (try simp only [World.size_alloc, World.size_setCell, World.size_drew] at kz11)
        have H11 := Lib.hid h11
        clear h11
        go_simp
        refine hK'.out _ _ ⟨by go_simp, by go_simp⟩ ?_
        clear hK' K'
        refine wpAnyR_end (by kernel_rfl) (fun w12 h12 => ?_)
        (try simp only [Act.put, List.setIfInBounds_toArray, List.set_cons_zero, List.set_cons_succ])
        have q := keep2 h12 (b := w.heap.size + 2) (by first | (simp; done) | (simp; omega) | omega)
        have kc12_0_0 := q.1
        have kc12_0_1 := q.2.1
        have kf12_0_0 := q.2.2.1
        have kf12_0_1 := q.2.2.2.1
        have kl12_0 := q.2.2.2.2.1
        have kn12_0 := q.2.2.2.2.2.1
        have km12_0 := q.2.2.2.2.2.2
        clear q
        have kz12 := h12.size
        (try simp only [World.size_alloc, World.size_setCell, World.size_drew] at kz12)
        have H12 := Lib.hid h12
        clear h12
        go_wp2
        refine bodyPost_ret ?_ rfl ⟨rfl, ?_⟩
        · simp [results, Try.results33, go_sem, kc12_0_0, kc12_0_1, kl12_0, kc11_0_0, kc11_0_1, kl11_0, kc10_0_0, kc10_0_1, kl10_0, kc9_0_0, kc9_0_1, kl9_0, kc8_0_0, kc8_0_1, kl8_0, kc7_0_0, kc7_0_1, kl7_0, kc6_2_0, kc6_2_1, kl6_2, kc5_2_0, kc5_2_1, kl5_2, e20, e21, j1, j2, j3, j4, l2, kc4_2_0, kc4_2_1, kl4_2]
        · (show Rel _ _; repeat (first | with_reducible exact Rel.refl _ | with_reducible refine Rel.alloc ?_ _ | with_reducible refine Rel.setCell ?_ (by first | (simp; done) | (simp; omega) | omega) _ | with_reducible refine Rel.trans ?_ H12.out | with_reducible refine Rel.trans ?_ H11.out | with_reducible refine Rel.trans ?_ H10.out | with_reducible refine Rel.trans ?_ H9.out | with_reducible refine Rel.trans ?_ H8.out | with_reducible refine Rel.trans ?_ H7.out | with_reducible refine Rel.trans ?_ H6.out | with_reducible refine Rel.trans ?_ H5.out | with_reducible refine Rel.trans ?_ H4.out | with_reducible exact HA.out))
      · go_wp2_with fail
        with_reducible refine (RM.out _).mono ?_
        rintro e w7 ⟨rfl, h7⟩
        have q := keep2 h7 (b := w.heap.size + 2) (by first | (simp; done) | (simp; omega) | omega)
        have kc7_0_0 := q.1
        have kc7_0_1 := q.2.1
        have kf7_0_0 := q.2.2.1
        have kf7_0_1 := q.2.2.2.1
        have kl7_0 := q.2.2.2.2.1
        have kn7_0 := q.2.2.2.2.2.1
        have km7_0 := q.2.2.2.2.2.2
        clear q
        have q := keep2 h7 (b := b1) (by first | (simp; done) | (simp; omega) | omega)
        have kc7_1_0 := q.1
        have kc7_1_1 := q.2.1
        have kf7_1_0 := q.2.2.1
        have kf7_1_1 := q.2.2.2.1
        have kl7_1 := q.2.2.2.2.1
        have kn7_1 := q.2.2.2.2.2.1
        have km7_1 := q.2.2.2.2.2.2
        clear q
        have kz7 := h7.size
        (try simp only [World.size_alloc, World.size_setCell, World.size_drew] at kz7)
        have H7 := Lib.hid h7
        clear h7
        go_wp2_with fail
        with_reducible refine (G.out _).mono ?_
        rintro e w8 ⟨rfl, h8⟩
        have q := keep2 h8 (b := w.heap.size + 2) (by first | (simp; done) | (simp; omega) | omega)
        have kc8_0_0 := q.1
        have kc8_0_1 := q.2.1
        have kf8_0_0 := q.2.2.1
        have kf8_0_1 := q.2.2.2.1
        have kl8_0 := q.2.2.2.2.1
        have kn8_0 := q.2.2.2.2.2.1
        have km8_0 := q.2.2.2.2.2.2
        clear q
        have q := keep2 h8 (b := b1) (by first | (simp; done) | (simp; omega) | omega)
        have kc8_1_0 := q.1
        have kc8_1_1 := q.2.1
        have kf8_1_0 := q.2.2.1
        have kf8_1_1 := q.2.2.2.1
        have kl8_1 := q.2.2.2.2.1
        have kn8_1 := q.2.2.2.2.2.1
        have km8_1 := q.2.2.2.2.2.2
        clear q
        have kz8 := h8.size
        (try simp only [World.size_alloc, World.size_setCell, World.size_drew] at kz8)
        have H8 := Lib.hid h8
        clear h8
        go_wp2_with fail
        refine wp_region_calm (fun _ w' => w'.cell? { block := b1, off := 0 } = some (.int .u64 Xh) ∧ w'.cell? { block := b1, off := 1 } = some (.int .u64 Xl)) (fun _ => false) [0, 1, 2, 3, 4, 5, 6, 7, 8, 9, 10] 2 (by kernel_rfl) (by kernel_rfl) ?hst ?hS0 (fun w0 h0 => ?_)
        case hst => exact fun _ _ _ h r => ⟨r.cell h.1, r.cell h.2⟩
        case hS0 => exact ⟨by go_simp, by go_simp⟩
        iterate 3
          refine wpCalm_go rfl (by kernel_rfl) (fun K hK => ?_)
          apply Exists.intro
          refine ⟨fun M w hM hS => ?_, hK _ ?_⟩
          · have c1 := hS.1
            have c2 := hS.2
            unfold calmAt
            go_simp
            exact ⟨rfl, Rel.refl _⟩
          clear hK K
        refine wpCalm_go rfl (by kernel_rfl) (fun K hK => ?_)
        apply Exists.intro
        refine ⟨fun M w hM hS => ?_, hK _ ?_⟩
        · unfold calmAt
          go_simp
          with_reducible refine (OV.out _).mono ?_
          rintro e w1 ⟨rfl, hb⟩
          exact ⟨rfl, hb⟩
        clear hK K
        iterate 4
          refine wpCalm_go rfl (by kernel_rfl) (fun K hK => ?_)
          apply Exists.intro
          refine ⟨fun M w hM hS => ?_, hK _ ?_⟩
          · have c1 := hS.1
            have c2 := hS.2
            unfold calmAt
            go_simp
            exact ⟨rfl, Rel.refl _⟩
          clear hK K
        refine wpCalm_go rfl (by kernel_rfl) (fun K hK => ?_)
        apply Exists.intro
        refine ⟨fun M w hM hS => ?_, hK _ ?_⟩
        · unfold calmAt
          go_simp
          with_reducible refine (WI.out _).mono ?_
          rintro e w1 ⟨rfl, hb⟩
          exact ⟨rfl, hb⟩
        clear hK K
        iterate 2
          refine wpCalm_go rfl (by kernel_rfl) (fun K hK => ?_)
          apply Exists.intro
          refine ⟨fun M w hM hS => ?_, hK _ ?_⟩
          · unfold calmAt
            go_simp
            exact ⟨rfl, Rel.refl _⟩
          clear hK K
        refine wpCalm_nil ?_
        have h9 := h0
        clear h0
        have q := keep2 h9 (b := w.heap.size + 2) (by first | (simp; done) | (simp; omega) | omega)
        have kc9_0_0 := q.1
        have kc9_0_1 := q.2.1
        have kf9_0_0 := q.2.2.1
        have kf9_0_1 := q.2.2.2.1
        have kl9_0 := q.2.2.2.2.1
        have kn9_0 := q.2.2.2.2.2.1
        have km9_0 := q.2.2.2.2.2.2
        clear q
        have q := keep2 h9 (b := b1) (by first | (simp; done) | (simp; omega) | omega)
        have kc9_1_0 := q.1
        have kc9_1_1 := q.2.1
        have kf9_1_0 := q.2.2.1
        have kf9_1_1 := q.2.2.2.1
        have kl9_1 := q.2.2.2.2.1
        have kn9_1 := q.2.2.2.2.2.1
        have km9_1 := q.2.2.2.2.2.2
        clear q
        have kz9 := h9.size
        (try simp only [World.size_alloc, World.size_setCell, World.size_drew] at kz9)
        have H9 := Lib.hid h9
        clear h9
        refine wpAnyR_ready (rs := [11]) (by kernel_rfl) (by simp) (AllR.cons rfl (fun w10 h10 K' hK' => ?_) AllR.nil)
        have q := keep2 h10 (b := w.heap.size + 2) (by first | (simp; done) | (simp; omega) | omega)
        have kc10_0_0 := q.1
        have kc10_0_1 := q.2.1
        have kf10_0_0 := q.2.2.1
        have kf10_0_1 := q.2.2.2.1
        have kl10_0 := q.2.2.2.2.1
        have kn10_0 := q.2.2.2.2.2.1
        have km10_0 := q.2.2.2.2.2.2
        clear q
        have q := keep2 h10 (b := b1) (by first | (simp; done) | (simp; omega) | omega)
        have kc10_1_0 := q.1
        have kc10_1_1 := q.2.1
        have kf10_1_0 := q.2.2.1
        have kf10_1_1 := q.2.2.2.1
        have kl10_1 := q.2.2.2.2.1
        have kn10_1 := q.2.2.2.2.2.1
        have km10_1 := q.2.2.2.2.2.2
        clear q
        have kz10 := h10.size
        (try simp only [World.size_alloc, World.size_setCell, World.size_drew] at kz10)
        have H10 := Lib.hid h10
        clear h10
        go_simp
        refine hK'.out _ _ ⟨by go_simp, by go_simp⟩ ?_
        clear hK' K'
        refine wpAnyR_ready (rs := [12]) (by kernel_rfl) (by simp) (AllR.cons rfl (fun w11 h11 K' hK' => ?_) AllR.nil)
        have q := keep2 h11 (b := w.heap.size + 2) (by first | (simp; done) | (simp; omega) | omega)
        have kc11_0_0 := q.1
        have kc11_0_1 := q.2.1
        have kf11_0_0 := q.2.2.1
        have kf11_0_1 := q.2.2.2.1
        have kl11_0 := q.2.2.2.2.1
        have kn11_0 := q.2.2.2.2.2.1
        have km11_0 := q.2.2.2.2.2.2
        clear q
        have q := keep2 h11 (b := b1) (by first | (simp; done) | (simp; omega) | omega)
        have kc11_1_0 := q.1
        have kc11_1_1 := q.2.1
        have kf11_1_0 := q.2.2.1
        have kf11_1_1 := q.2.2.2.1
        have kl11_1 := q.2.2.2.2.1
        have kn11_1 := q.2.2.2.2.2.1
        have km11_1 := q.2.2.2.2.2.2
        clear q
        have kz11 := h11.size
        (try simp only [World.size_alloc, World.size_setCell, World.size_drew] at kz11)
        have H11 := Lib.hid h11
        clear h11
        go_simp
        refine hK'.out _ _ ⟨by go_simp, by go_simp⟩ ?_
        clear hK' K'
        refine wpAnyR_end (by kernel_rfl) (fun w12 h12 => ?_)
        (try simp only [Act.put, List.setIfInBounds_toArray, List.set_cons_zero, List.set_cons_succ])
        have q := keep2 h12 (b := w.heap.size + 2) (by first | (simp; done) | (simp; omega) | omega)
        have kc12_0_0 := q.1
        have kc12_0_1 := q.2.1
        have kf12_0_0 := q.2.2.1
        have kf12_0_1 := q.2.2.2.1
        have kl12_0 := q.2.2.2.2.1
        have kn12_0 := q.2.2.2.2.2.1
        have km12_0 := q.2.2.2.2.2.2
        clear q
        have kz12 := h12.size
        (try simp only [World.size_alloc, World.size_setCell, World.size_drew] at kz12)
        have H12 := Lib.hid h12
        clear h12
        go_wp2
        refine bodyPost_ret ?_ rfl ⟨rfl, ?_⟩
        · simp [results, Try.results33, go_sem, kc12_0_0, kc12_0_1, kl12_0, kc11_0_0, kc11_0_1, kl11_0, kc10_0_0, kc10_0_1, kl10_0, kc9_0_0, kc9_0_1, kl9_0, kc8_0_0, kc8_0_1, kl8_0, kc7_0_0, kc7_0_1, kl7_0, kc6_2_0, kc6_2_1, kl6_2, kc5_2_0, kc5_2_1, kl5_2, e20, e21, j1, j2, j3, j4, l2, kc4_2_0, kc4_2_1, kl4_2]
        · (show Rel _ _; repeat (first | with_reducible exact Rel.refl _ | with_reducible refine Rel.alloc ?_ _ | with_reducible refine Rel.setCell ?_ (by first | (simp; done) | (simp; omega) | omega) _ | with_reducible refine Rel.trans ?_ H12.out | with_reducible refine Rel.trans ?_ H11.out | with_reducible refine Rel.trans ?_ H10.out | with_reducible refine Rel.trans ?_ H9.out | with_reducible refine Rel.trans ?_ H8.out | with_reducible refine Rel.trans ?_ H7.out | with_reducible refine Rel.trans ?_ H6.out | with_reducible refine Rel.trans ?_ H5.out | with_reducible refine Rel.trans ?_ H4.out | with_reducible exact HA.out))
  · clear HW
    go_wp2_with fail
    with_reducible refine (LT.out _).mono ?_
    rintro e w4 ⟨rfl, h4⟩
    have q := keep2 h4 (b := w.heap.size) (by first | (simp; done) | (simp; omega) | omega)
    have kc4_0_0 := q.1
    have kc4_0_1 := q.2.1
    have kf4_0_0 := q.2.2.1
    have kf4_0_1 := q.2.2.2.1
    have kl4_0 := q.2.2.2.2.1
    have kn4_0 := q.2.2.2.2.2.1
    have km4_0 := q.2.2.2.2.2.2
    clear q
    have q := keep2 h4 (b := w.heap.size + 1) (by first | (simp; done) | (simp; omega) | omega)
    have kc4_1_0 := q.1
    have kc4_1_1 := q.2.1
    have kf4_1_0 := q.2.2.1
    have kf4_1_1 := q.2.2.2.1
    have kl4_1 := q.2.2.2.2.1
    have kn4_1 := q.2.2.2.2.2.1
    have km4_1 := q.2.2.2.2.2.2
    clear q
    have q := keep2 h4 (b := w.heap.size + 2) (by first | (simp; done) | (simp; omega) | omega)
    have kc4_2_0 := q.1
    have kc4_2_1 := q.2.1
    have kf4_2_0 := q.2.2.1
    have kf4_2_1 := q.2.2.2.1
    have kl4_2 := q.2.2.2.2.1
    have kn4_2 := q.2.2.2.2.2.1
    have km4_2 := q.2.2.2.2.2.2
    clear q
    have q := keep2 h4 (b := b1) (by first | (simp; done) | (simp; omega) | omega)
    have kc4_3_0 := q.1
    have kc4_3_1 := q.2.1
    have kf4_3_0 := q.2.2.1
    have kf4_3_1 := q.2.2.2.1
    have kl4_3 := q.2.2.2.2.1
    have kn4_3 := q.2.2.2.2.2.1
    have km4_3 := q.2.2.2.2.2.2
    clear q
    have q := keep2 h4 (b := b2) (by first | (simp; done) | (simp; omega) | omega)
    have kc4_4_0 := q.1
    have kc4_4_1 := q.2.1
    have kf4_4_0 := q.2.2.1
    have kf4_4_1 := q.2.2.2.1
    have kl4_4 := q.2.2.2.2.1
    have kn4_4 := q.2.2.2.2.2.1
    have km4_4 := q.2.2.2.2.2.2
    clear q
    have kz4 := h4.size
    (try simp only [World.size_alloc, World.size_setCell, World.size_drew] at kz4)
    have H4 := Lib.hid h4
    clear h4
    go_wp2_with fail
    with_reducible refine (MI.out _).mono ?_
    rintro e w5 ⟨rfl, h5⟩
    have q := keep2 h5 (b := w.heap.size) (by first | (simp; done) | (simp; omega) | omega)
    have kc5_0_0 := q.1
    have kc5_0_1 := q.2.1
    have kf5_0_0 := q.2.2.1
    have kf5_0_1 := q.2.2.2.1
    have kl5_0 := q.2.2.2.2.1
    have kn5_0 := q.2.2.2.2.2.1
    have km5_0 := q.2.2.2.2.2.2
    clear q
    have q := keep2 h5 (b := w.heap.size + 1) (by first | (simp; done) | (simp; omega) | omega)
    have kc5_1_0 := q.1
    have kc5_1_1 := q.2.1
    have kf5_1_0 := q.2.2.1
    have kf5_1_1 := q.2.2.2.1
    have kl5_1 := q.2.2.2.2.1
    have kn5_1 := q.2.2.2.2.2.1
    have km5_1 := q.2.2.2.2.2.2
    clear q
    have q := keep2 h5 (b := w.heap.size + 2) (by first | (simp; done) | (simp; omega) | omega)
    have kc5_2_0 := q.1
    have kc5_2_1 := q.2.1
    have kf5_2_0 := q.2.2.1
    have kf5_2_1 := q.2.2.2.1
    have kl5_2 := q.2.2.2.2.1
    have kn5_2 := q.2.2.2.2.2.1
    have km5_2 := q.2.2.2.2.2.2
    clear q
    have q := keep2 h5 (b := b1) (by first | (simp; done) | (simp; omega) | omega)
    have kc5_3_0 := q.1
    have kc5_3_1 := q.2.1
    have kf5_3_0 := q.2.2.1
    have kf5_3_1 := q.2.2.2.1
    have kl5_3 := q.2.2.2.2.1
    have kn5_3 := q.2.2.2.2.2.1
    have km5_3 := q.2.2.2.2.2.2
    clear q
    have kz5 := h5.size
    (try simp only [World.size_alloc, World.size_setCell, World.size_drew] at kz5)
    have H5 := Lib.hid h5
    clear h5
    go_wp2_with fail
    refine wp_region_calm (fun _ w' => w'.cell? { block := w.heap.size, off := 0 } = some (.int .i64 a) ∧ w'.cell? { block := w.heap.size, off := 1 } = some (.int .i64 b) ∧ w'.cell? { block := w.heap.size + 1, off := 0 } = some (.int .i64 c) ∧ w'.cell? { block := w.heap.size + 1, off := 1 } = some (.int .i64 d)) (fun _ => false) [0, 1, 2, 3, 4, 5, 6, 7] 0 (by kernel_rfl) (by kernel_rfl) ?hst ?hS0 (fun w0 h0 => ?_)
    case hst => exact fun _ _ _ h r => ⟨r.cell h.1, r.cell h.2.1, r.cell h.2.2.1, r.cell h.2.2.2⟩
    case hS0 => exact ⟨by go_simp, by go_simp, by go_simp, by go_simp⟩
    iterate 2
      refine wpCalm_go rfl (by kernel_rfl) (fun K hK => ?_)
      apply Exists.intro
      refine ⟨fun M w hM hS => ?_, hK _ ?_⟩
      · have c1 := hS.1
        have c2 := hS.2.1
        have c3 := hS.2.2.1
        have c4 := hS.2.2.2
        unfold calmAt
        go_simp
        exact ⟨rfl, Rel.refl _⟩
      clear hK K
    refine wpCalm_go rfl (by kernel_rfl) (fun K hK => ?_)
    apply Exists.intro
    refine ⟨fun M w hM hS => ?_, hK _ ?_⟩
    · have c1 := hS.1
      have c2 := hS.2.1
      have c3 := hS.2.2.1
      have c4 := hS.2.2.2
      unfold calmAt
      go_simp
      with_reducible refine (S2.out _).mono ?_
      rintro e w1 ⟨rfl, rfl⟩
      exact ⟨rfl, Rel.refl _⟩
    clear hK K
    iterate 2
      refine wpCalm_go rfl (by kernel_rfl) (fun K hK => ?_)
      apply Exists.intro
      refine ⟨fun M w hM hS => ?_, hK _ ?_⟩
      · have c1 := hS.1
        have c2 := hS.2.1
        have c3 := hS.2.2.1
        have c4 := hS.2.2.2
        unfold calmAt
        go_simp
        exact ⟨rfl, Rel.refl _⟩
      clear hK K
    refine wpCalm_go rfl (by kernel_rfl) (fun K hK => ?_)
    apply Exists.intro
    refine ⟨fun M w hM hS => ?_, hK _ ?_⟩
    · have c1 := hS.1
      have c2 := hS.2.1
      have c3 := hS.2.2.1
      have c4 := hS.2.2.2
      unfold calmAt
      go_simp
      with_reducible refine (S4.out _).mono ?_
      rintro e w1 ⟨rfl, rfl⟩
      exact ⟨rfl, Rel.refl _⟩
    clear hK K
    iterate 2
      refine wpCalm_go rfl (by kernel_rfl) (fun K hK => ?_)
      apply Exists.intro
      refine ⟨fun M w hM hS => ?_, hK _ ?_⟩
      · have c1 := hS.1
        have c2 := hS.2.1
        have c3 := hS.2.2.1
        have c4 := hS.2.2.2
        unfold calmAt
        go_simp
        exact ⟨rfl, Rel.refl _⟩
      clear hK K
    refine wpAnyR_end (by kernel_rfl) (fun w6 h6' => ?_)
    (try simp only [Act.put, List.setIfInBounds_toArray, List.set_cons_zero, List.set_cons_succ])
    have h6 := h0.trans h6'
    clear h0 h6'
    have q := keep2 h6 (b := w.heap.size) (by first | (simp; done) | (simp; omega) | omega)
    have kc6_0_0 := q.1
    have kc6_0_1 := q.2.1
    have kf6_0_0 := q.2.2.1
    have kf6_0_1 := q.2.2.2.1
    have kl6_0 := q.2.2.2.2.1
    have kn6_0 := q.2.2.2.2.2.1
    have km6_0 := q.2.2.2.2.2.2
    clear q
    have q := keep2 h6 (b := w.heap.size + 1) (by first | (simp; done) | (simp; omega) | omega)
    have kc6_1_0 := q.1
    have kc6_1_1 := q.2.1
    have kf6_1_0 := q.2.2.1
    have kf6_1_1 := q.2.2.2.1
    have kl6_1 := q.2.2.2.2.1
    have kn6_1 := q.2.2.2.2.2.1
    have km6_1 := q.2.2.2.2.2.2
    clear q
    have q := keep2 h6 (b := w.heap.size + 2) (by first | (simp; done) | (simp; omega) | omega)
    have kc6_2_0 := q.1
    have kc6_2_1 := q.2.1
    have kf6_2_0 := q.2.2.1
    have kf6_2_1 := q.2.2.2.1
    have kl6_2 := q.2.2.2.2.1
    have kn6_2 := q.2.2.2.2.2.1
    have km6_2 := q.2.2.2.2.2.2
    clear q
    have q := keep2 h6 (b := b1) (by first | (simp; done) | (simp; omega) | omega)
    have kc6_3_0 := q.1
    have kc6_3_1 := q.2.1
    have kf6_3_0 := q.2.2.1
    have kf6_3_1 := q.2.2.2.1
    have kl6_3 := q.2.2.2.2.1
    have kn6_3 := q.2.2.2.2.2.1
    have km6_3 := q.2.2.2.2.2.2
    clear q
    have kz6 := h6.size
    (try simp only [World.size_alloc, World.size_setCell, World.size_drew] at kz6)
    have H6 := Lib.hid h6
    clear h6
    rcases HR.out with ⟨rfl, rfl, rfl, rfl, rfl⟩ | ⟨hx, hg, hF, hE2, RM, G, OV, WI⟩
    · clear HR
      go_wp2
      refine bodyPost_ret ?_ rfl ⟨rfl, ?_⟩
      · simp [results, Try.results33, go_sem, kc6_2_0, kc6_2_1, kl6_2, kc5_2_0, kc5_2_1, kl5_2, e20, e21, j1, j2, j3, j4, l2, kc4_2_0, kc4_2_1, kl4_2]
      · (show Rel _ _; repeat (first | with_reducible exact Rel.refl _ | with_reducible refine Rel.alloc ?_ _ | with_reducible refine Rel.setCell ?_ (by first | (simp; done) | (simp; omega) | omega) _ | with_reducible refine Rel.trans ?_ H6.out | with_reducible refine Rel.trans ?_ H5.out | with_reducible refine Rel.trans ?_ H4.out | with_reducible exact HA.out))
    · have n1 : ¬ g = 0 := by omega
      have y1 : ((g : Int) == 0) = false := by simp; omega
      have i1 := int_div_nat E g
      have i2 := tdiv_nat E g
      rw [hF] at i1 i2
      have l1 : F < 18446744073709551616 := by rw [← hF]; exact Nat.lt_of_le_of_lt (Nat.div_le_self _ _) hE2
      have i3 := u64_nat l1
      clear HR hF hg hE2
      rcases hx with ⟨hx', hx⟩ | hx
      · go_wp2_with fail
        with_reducible refine (RM.out _).mono ?_
        rintro e w7 ⟨rfl, h7⟩
        have q := keep2 h7 (b := w.heap.size + 2) (by first | (simp; done) | (simp; omega) | omega)
        have kc7_0_0 := q.1
        have kc7_0_1 := q.2.1
        have kf7_0_0 := q.2.2.1
        have kf7_0_1 := q.2.2.2.1
        have kl7_0 := q.2.2.2.2.1
        have kn7_0 := q.2.2.2.2.2.1
        have km7_0 := q.2.2.2.2.2.2
        clear q
        have q := keep2 h7 (b := b1) (by first | (simp; done) | (simp; omega) | omega)
        have kc7_1_0 := q.1
        have kc7_1_1 := q.2.1
        have kf7_1_0 := q.2.2.1
        have kf7_1_1 := q.2.2.2.1
        have kl7_1 := q.2.2.2.2.1
        have kn7_1 := q.2.2.2.2.2.1
        have km7_1 := q.2.2.2.2.2.2
        clear q
        have kz7 := h7.size
        (try simp only [World.size_alloc, World.size_setCell, World.size_drew] at kz7)
        have H7 := Lib.hid h7
        clear h7
        go_wp2_with fail
        with_reducible refine (G.out _).mono ?_
        rintro e w8 ⟨rfl, h8⟩
        have q := keep2 h8 (b := w.heap.size + 2) (by first | (simp; done) | (simp; omega) | omega)
        have kc8_0_0 := q.1
        have kc8_0_1 := q.2.1
        have kf8_0_0 := q.2.2.1
        have kf8_0_1 := q.2.2.2.1
        have kl8_0 := q.2.2.2.2.1
        have kn8_0 := q.2.2.2.2.2.1
        have km8_0 := q.2.2.2.2.2.2
        clear q
        have q := keep2 h8 (b := b1) (by first | (simp; done) | (simp; omega) | omega)
        have kc8_1_0 := q.1
        have kc8_1_1 := q.2.1
        have kf8_1_0 := q.2.2.1
        have kf8_1_1 := q.2.2.2.1
        have kl8_1 := q.2.2.2.2.1
        have kn8_1 := q.2.2.2.2.2.1
        have km8_1 := q.2.2.2.2.2.2
        clear q
        have kz8 := h8.size
        (try simp only [World.size_alloc, World.size_setCell, World.size_drew] at kz8)
        have H8 := Lib.hid h8
        clear h8
        go_wp2_with fail
        refine wp_region_calm (fun _ w' => w'.cell? { block := b1, off := 0 } = some (.int .u64 Xh) ∧ w'.cell? { block := b1, off := 1 } = some (.int .u64 Xl)) (fun _ => false) [0, 1, 2, 3, 4, 5, 6, 7, 8, 9, 10] 2 (by kernel_rfl) (by kernel_rfl) ?hst ?hS0 (fun w0 h0 => ?_)
        case hst => exact fun _ _ _ h r => ⟨r.cell h.1, r.cell h.2⟩
        case hS0 => exact ⟨by go_simp, by go_simp⟩
        iterate 3
          refine wpCalm_go rfl (by kernel_rfl) (fun K hK => ?_)
          apply Exists.intro
          refine ⟨fun M w hM hS => ?_, hK _ ?_⟩
          · have c1 := hS.1
            have c2 := hS.2
            unfold calmAt
            go_simp
            exact ⟨rfl, Rel.refl _⟩
          clear hK K
        refine wpCalm_go rfl (by kernel_rfl) (fun K hK => ?_)
        apply Exists.intro
        refine ⟨fun M w hM hS => ?_, hK _ ?_⟩
        · unfold calmAt
          go_simp
          with_reducible refine (OV.out _).mono ?_
          rintro e w1 ⟨rfl, hb⟩
          exact ⟨rfl, hb⟩
        clear hK K
        iterate 4
          refine wpCalm_go rfl (by kernel_rfl) (fun K hK => ?_)
          apply Exists.intro
          refine ⟨fun M w hM hS => ?_, hK _ ?_⟩
          · have c1 := hS.1
            have c2 := hS.2
            unfold calmAt
            go_simp
            exact ⟨rfl, Rel.refl _⟩
          clear hK K
        refine wpCalm_go rfl (by kernel_rfl) (fun K hK => ?_)
        apply Exists.intro
        refine ⟨fun M w hM hS => ?_, hK _ ?_⟩
        · unfold calmAt
          go_simp
          with_reducible refine (WI.out _).mono ?_
          rintro e w1 ⟨rfl, hb⟩
          exact ⟨rfl, hb⟩
        clear hK K
        iterate 2
          refine wpCalm_go rfl (by kernel_rfl) (fun K hK => ?_)
          apply Exists.intro
          refine ⟨fun M w hM hS => ?_, hK _ ?_⟩
          · unfold calmAt
            go_simp
            exact ⟨rfl, Rel.refl _⟩
          clear hK K
        refine wpCalm_nil ?_
        have h9 := h0
        clear h0
        have q := keep2 h9 (b := w.heap.size + 2) (by first | (simp; done) | (simp; omega) | omega)
        have kc9_0_0 := q.1
        have kc9_0_1 := q.2.1
        have kf9_0_0 := q.2.2.1
        have kf9_0_1 := q.2.2.2.1
        have kl9_0 := q.2.2.2.2.1
        have kn9_0 := q.2.2.2.2.2.1
        have km9_0 := q.2.2.2.2.2.2
        clear q
        have q := keep2 h9 (b := b1) (by first | (simp; done) | (simp; omega) | omega)
        have kc9_1_0 := q.1
        have kc9_1_1 := q.2.1
        have kf9_1_0 := q.2.2.1
        have kf9_1_1 := q.2.2.2.1
        have kl9_1 := q.2.2.2.2.1
        have kn9_1 := q.2.2.2.2.2.1
        have km9_1 := q.2.2.2.2.2.2
        clear q
        have kz9 := h9.size
        (try simp only [World.size_alloc, World.size_setCell, World.size_drew] at kz9)
        have H9 := Lib.hid h9
        clear h9
        refine wpAnyR_ready (rs := [11]) (by kernel_rfl) (by simp) (AllR.cons rfl (fun w10 h10 K' hK' => ?_) AllR.nil)
        have q := keep2 h10 (b := w.heap.size + 2) (by first | (simp; done) | (simp; omega) | omega)
        have kc10_0_0 := q.1
        have kc10_0_1 := q.2.1
        have kf10_0_0 := q.2.2.1
        have kf10_0_1 := q.2.2.2.1
        have kl10_0 := q.2.2.2.2.1
        have kn10_0 := q.2.2.2.2.2.1
        have km10_0 := q.2.2.2.2.2.2
        clear q
        have q := keep2 h10 (b := b1) (by first | (simp; done) | (simp; omega) | omega)
        have kc10_1_0 := q.1
        have kc10_1_1 := q.2.1
        have kf10_1_0 := q.2.2.1
        have kf10_1_1 := q.2.2.2.1
        have kl10_1 := q.2.2.2.2.1
        have kn10_1 := q.2.2.2.2.2.1
        have km10_1 := q.2.2.2.2.2.2
        clear q
        have kz10 := h10.size
        (try simp only [World.size_alloc, World.size_setCell, World.size_drew] at kz10)
        have H10 := Lib.hid h10
        clear h10
        go_simp
        refine hK'.out _ _ ⟨by go_simp, by go_simp⟩ ?_
        clear hK' K'
        refine wpAnyR_ready (rs := [12]) (by kernel_rfl) (by simp) (AllR.cons rfl (fun w11 h11 K' hK' => ?_) AllR.nil)
        have q := keep2 h11 (b := w.heap.size + 2) (by first | (simp; done) | (simp; omega) | omega)
        have kc11_0_0 := q.1
        have kc11_0_1 := q.2.1
        have kf11_0_0 := q.2.2.1
        have kf11_0_1 := q.2.2.2.1
        have kl11_0 := q.2.2.2.2.1
        have kn11_0 := q.2.2.2.2.2.1
        have km11_0 := q.2.2.2.2.2.2
        clear q
        have q := keep2 h11 (b := b1) (by first | (simp; done) | (simp; omega) | omega)
        have kc11_1_0 := q.1
        have kc11_1_1 := q.2.1
        have kf11_1_0 := q.2.2.1
        have kf11_1_1 := q.2.2.2.1
        have kl11_1 := q.2.2.2.2.1
        have kn11_1 := q.2.2.2.2.2.1
        have km11_1 := q.2.2.2.2.2.2
        clear q
        have kz11 := h11.size
        (try simp only [World.size_alloc, World.size_setCell, World.size_drew] at kz11)
        have H11 := Lib.hid h11
        clear h11
        go_simp
        refine hK'.out _ _ ⟨by go_simp, by go_simp⟩ ?_
        clear hK' K'
        refine wpAnyR_end (by kernel_rfl) (fun w12 h12 => ?_)
        (try simp only [Act.put, List.setIfInBounds_toArray, List.set_cons_zero, List.set_cons_succ])
        have q := keep2 h12 (b := w.heap.size + 2) (by first | (simp; done) | (simp; omega) | omega)
        have kc12_0_0 := q.1
        have kc12_0_1 := q.2.1
        have kf12_0_0 := q.2.2.1
        have kf12_0_1 := q.2.2.2.1
        have kl12_0 := q.2.2.2.2.1
        have kn12_0 := q.2.2.2.2.2.1
        have km12_0 := q.2.2.2.2.2.2
        clear q
        have kz12 := h12.size
        (try simp only [World.size_alloc, World.size_setCell, World.size_drew] at kz12)
        have H12 := Lib.hid h12
        clear h12
        go_wp2
        refine bodyPost_ret ?_ rfl ⟨rfl, ?_⟩
        · simp [results, Try.results33, go_sem, kc12_0_0, kc12_0_1, kl12_0, kc11_0_0, kc11_0_1, kl11_0, kc10_0_0, kc10_0_1, kl10_0, kc9_0_0, kc9_0_1, kl9_0, kc8_0_0, kc8_0_1, kl8_0, kc7_0_0, kc7_0_1, kl7_0, kc6_2_0, kc6_2_1, kl6_2, kc5_2_0, kc5_2_1, kl5_2, e20, e21, j1, j2, j3, j4, l2, kc4_2_0, kc4_2_1, kl4_2]
        · (show Rel _ _; repeat (first | with_reducible exact Rel.refl _ | with_reducible refine Rel.alloc ?_ _ | with_reducible refine Rel.setCell ?_ (by first | (simp; done) | (simp; omega) | omega) _ | with_reducible refine Rel.trans ?_ H12.out | with_reducible refine Rel.trans ?_ H11.out | with_reducible refine Rel.trans ?_ H10.out | with_reducible refine Rel.trans ?_ H9.out | with_reducible refine Rel.trans ?_ H8.out | with_reducible refine Rel.trans ?_ H7.out | with_reducible refine Rel.trans ?_ H6.out | with_reducible refine Rel.trans ?_ H5.out | with_reducible refine Rel.trans ?_ H4.out | with_reducible exact HA.out))
      · go_wp2_with fail
        with_reducible refine (RM.out _).mono ?_
        rintro e w7 ⟨rfl, h7⟩
        have q := keep2 h7 (b := w.heap.size + 2) (by first | (simp; done) | (simp; omega) | omega)
        have kc7_0_0 := q.1
        have kc7_0_1 := q.2.1
        have kf7_0_0 := q.2.2.1
        have kf7_0_1 := q.2.2.2.1
        have kl7_0 := q.2.2.2.2.1
        have kn7_0 := q.2.2.2.2.2.1
        have km7_0 := q.2.2.2.2.2.2
        clear q
        have q := keep2 h7 (b := b1) (by first | (simp; done) | (simp; omega) | omega)
        have kc7_1_0 := q.1
        have kc7_1_1 := q.2.1
        have kf7_1_0 := q.2.2.1
        have kf7_1_1 := q.2.2.2.1
        have kl7_1 := q.2.2.2.2.1
        have kn7_1 := q.2.2.2.2.2.1
        have km7_1 := q.2.2.2.2.2.2
        clear q
        have kz7 := h7.size
        (try simp only [World.size_alloc, World.size_setCell, World.size_drew] at kz7)
        have H7 := Lib.hid h7
        clear h7
        go_wp2_with fail
        with_reducible refine (G.out _).mono ?_
        rintro e w8 ⟨rfl, h8⟩
        have q := keep2 h8 (b := w.heap.size + 2) (by first | (simp; done) | (simp; omega) | omega)
        have kc8_0_0 := q.1
        have kc8_0_1 := q.2.1
        have kf8_0_0 := q.2.2.1
        have kf8_0_1 := q.2.2.2.1
        have kl8_0 := q.2.2.2.2.1
        have kn8_0 := q.2.2.2.2.2.1
        have km8_0 := q.2.2.2.2.2.2
        clear q
        have q := keep2 h8 (b := b1) (by first | (simp; done) | (simp; omega) | omega)
        have kc8_1_0 := q.1
        have kc8_1_1 := q.2.1
        have kf8_1_0 := q.2.2.1
        have kf8_1_1 := q.2.2.2.1
        have kl8_1 := q.2.2.2.2.1
        have kn8_1 := q.2.2.2.2.2.1
        have km8_1 := q.2.2.2.2.2.2
        clear q
        have kz8 := h8.size
        (try simp only [World.size_alloc, World.size_setCell, World.size_drew] at kz8)
        have H8 := Lib.hid h8
        clear h8
        go_wp2_with fail
        refine wp_region_calm (fun _ w' => w'.cell? { block := b1, off := 0 } = some (.int .u64 Xh) ∧ w'.cell? { block := b1, off := 1 } = some (.int .u64 Xl)) (fun _ => false) [0, 1, 2, 3, 4, 5, 6, 7, 8, 9, 10] 2 (by kernel_rfl) (by kernel_rfl) ?hst ?hS0 (fun w0 h0 => ?_)
        case hst => exact fun _ _ _ h r => ⟨r.cell h.1, r.cell h.2⟩
        case hS0 => exact ⟨by go_simp, by go_simp⟩
        iterate 3
          refine wpCalm_go rfl (by kernel_rfl) (fun K hK => ?_)
          apply Exists.intro
          refine ⟨fun M w hM hS => ?_, hK _ ?_⟩
          · have c1 := hS.1
            have c2 := hS.2
            unfold calmAt
            go_simp
            exact ⟨rfl, Rel.refl _⟩
          clear hK K
        refine wpCalm_go rfl (by kernel_rfl) (fun K hK => ?_)
        apply Exists.intro
        refine ⟨fun M w hM hS => ?_, hK _ ?_⟩
        · unfold calmAt
          go_simp
          with_reducible refine (OV.out _).mono ?_
          rintro e w1 ⟨rfl, hb⟩
          exact ⟨rfl, hb⟩
        clear hK K
        iterate 4
          refine wpCalm_go rfl (by kernel_rfl) (fun K hK => ?_)
          apply Exists.intro
          refine ⟨fun M w hM hS => ?_, hK _ ?_⟩
          · have c1 := hS.1
            have c2 := hS.2
            unfold calmAt
            go_simp
            exact ⟨rfl, Rel.refl _⟩
          clear hK K
        refine wpCalm_go rfl (by kernel_rfl) (fun K hK => ?_)
        apply Exists.intro
        refine ⟨fun M w hM hS => ?_, hK _ ?_⟩
        · unfold calmAt
          go_simp
          with_reducible refine (WI.out _).mono ?_
          rintro e w1 ⟨rfl, hb⟩
          exact ⟨rfl, hb⟩
        clear hK K
        iterate 2
          refine wpCalm_go rfl (by kernel_rfl) (fun K hK => ?_)
          apply Exists.intro
          refine ⟨fun M w hM hS => ?_, hK _ ?_⟩
          · unfold calmAt
            go_simp
            exact ⟨rfl, Rel.refl _⟩
          clear hK K
        refine wpCalm_nil ?_
        have h9 := h0
        clear h0
        have q := keep2 h9 (b := w.heap.size + 2) (by first | (simp; done) | (simp; omega) | omega)
        have kc9_0_0 := q.1
        have kc9_0_1 := q.2.1
        have kf9_0_0 := q.2.2.1
        have kf9_0_1 := q.2.2.2.1
        have kl9_0 := q.2.2.2.2.1
        have kn9_0 := q.2.2.2.2.2.1
        have km9_0 := q.2.2.2.2.2.2
        clear q
        have q := keep2 h9 (b := b1) (by first | (simp; done) | (simp; omega) | omega)
        have kc9_1_0 := q.1
        have kc9_1_1 := q.2.1
        have kf9_1_0 := q.2.2.1
        have kf9_1_1 := q.2.2.2.1
        have kl9_1 := q.2.2.2.2.1
        have kn9_1 := q.2.2.2.2.2.1
        have km9_1 := q.2.2.2.2.2.2
        clear q
        have kz9 := h9.size
        (try simp only [World.size_alloc, World.size_setCell, World.size_drew] at kz9)
        have H9 := Lib.hid h9
        clear h9
        refine wpAnyR_ready (rs := [11]) (by kernel_rfl) (by simp) (AllR.cons rfl (fun w10 h10 K' hK' => ?_) AllR.nil)
        have q := keep2 h10 (b := w.heap.size + 2) (by first | (simp; done) | (simp; omega) | omega)
        have kc10_0_0 := q.1
        have kc10_0_1 := q.2.1
        have kf10_0_0 := q.2.2.1
        have kf10_0_1 := q.2.2.2.1
        have kl10_0 := q.2.2.2.2.1
        have kn10_0 := q.2.2.2.2.2.1
        have km10_0 := q.2.2.2.2.2.2
        clear q
        have q := keep2 h10 (b := b1) (by first | (simp; done) | (simp; omega) | omega)
        have kc10_1_0 := q.1
        have kc10_1_1 := q.2.1
        have kf10_1_0 := q.2.2.1
        have kf10_1_1 := q.2.2.2.1
        have kl10_1 := q.2.2.2.2.1
        have kn10_1 := q.2.2.2.2.2.1
        have km10_1 := q.2.2.2.2.2.2
        clear q
        have kz10 := h10.size
        (try simp only [World.size_alloc, World.size_setCell, World.size_drew] at kz10)
        have H10 := Lib.hid h10
        clear h10
        go_simp
        refine hK'.out _ _ ⟨by go_simp, by go_simp⟩ ?_
        clear hK' K'
        refine wpAnyR_ready (rs := [12]) (by kernel_rfl) (by simp) (AllR.cons rfl (fun w11 h11 K' hK' => ?_) AllR.nil)
        have q := keep2 h11 (b := w.heap.size + 2) (by first | (simp; done) | (simp; omega) | omega)
        have kc11_0_0 := q.1
        have kc11_0_1 := q.2.1
        have kf11_0_0 := q.2.2.1
        have kf11_0_1 := q.2.2.2.1
        have kl11_0 := q.2.2.2.2.1
        have kn11_0 := q.2.2.2.2.2.1
        have km11_0 := q.2.2.2.2.2.2
        clear q
        have q := keep2 h11 (b := b1) (by first | (simp; done) | (simp; omega) | omega)
        have kc11_1_0 := q.1
        have kc11_1_1 := q.2.1
        have kf11_1_0 := q.2.2.1
        have kf11_1_1 := q.2.2.2.1
        have kl11_1 := q.2.2.2.2.1
        have kn11_1 := q.2.2.2.2.2.1
        have km11_1 := q.2.2.2.2.2.2
        clear q
        have kz11 := h11.size
        (try simp only [World.size_alloc, World.size_setCell, World.size_drew] at kz11)
        have H11 := Lib.hid h11
        clear h11
        go_simp
        refine hK'.out _ _ ⟨by go_simp, by go_simp⟩ ?_
        clear hK' K'
        refine wpAnyR_end (by kernel_rfl) (fun w12 h12 => ?_)
        (try simp only [Act.put, List.setIfInBounds_toArray, List.set_cons_zero, List.set_cons_succ])
        have q := keep2 h12 (b := w.heap.size + 2) (by first | (simp; done) | (simp; omega) | omega)
        have kc12_0_0 := q.1
        have kc12_0_1 := q.2.1
        have kf12_0_0 := q.2.2.1
        have kf12_0_1 := q.2.2.2.1
        have kl12_0 := q.2.2.2.2.1
        have kn12_0 := q.2.2.2.2.2.1
        have km12_0 := q.2.2.2.2.2.2
        clear q
        have kz12 := h12.size
        (try simp only [World.size_alloc, World.size_setCell, World.size_drew] at kz12)
        have H12 := Lib.hid h12
        clear h12
        go_wp2
        refine bodyPost_ret ?_ rfl ⟨rfl, ?_⟩
        · simp [results, Try.results33, go_sem, kc12_0_0, kc12_0_1, kl12_0, kc11_0_0, kc11_0_1, kl11_0, kc10_0_0, kc10_0_1, kl10_0, kc9_0_0, kc9_0_1, kl9_0, kc8_0_0, kc8_0_1, kl8_0, kc7_0_0, kc7_0_1, kl7_0, kc6_2_0, kc6_2_1, kl6_2, kc5_2_0, kc5_2_1, kl5_2, e20, e21, j1, j2, j3, j4, l2, kc4_2_0, kc4_2_1, kl4_2]
        · (show Rel _ _; repeat (first | with_reducible exact Rel.refl _ | with_reducible refine Rel.alloc ?_ _ | with_reducible refine Rel.setCell ?_ (by first | (simp; done) | (simp; omega) | omega) _ | with_reducible refine Rel.trans ?_ H12.out | with_reducible refine Rel.trans ?_ H11.out | with_reducible refine Rel.trans ?_ H10.out | with_reducible refine Rel.trans ?_ H9.out | with_reducible refine Rel.trans ?_ H8.out | with_reducible refine Rel.trans ?_ H7.out | with_reducible refine Rel.trans ?_ H6.out | with_reducible refine Rel.trans ?_ H5.out | with_reducible refine Rel.trans ?_ H4.out | with_reducible exact HA.out))
  · clear HW
    go_wp2_with fail
    with_reducible refine (LT.out _).mono ?_
    rintro e w4 ⟨rfl, h4⟩
    have q := keep2 h4 (b := w.heap.size) (by first | (simp; done) | (simp; omega) | omega)
    have kc4_0_0 := q.1
    have kc4_0_1 := q.2.1
    have kf4_0_0 := q.2.2.1
    have kf4_0_1 := q.2.2.2.1
    have kl4_0 := q.2.2.2.2.1
    have kn4_0 := q.2.2.2.2.2.1
    have km4_0 := q.2.2.2.2.2.2
    clear q
    have q := keep2 h4 (b := w.heap.size + 1) (by first | (simp; done) | (simp; omega) | omega)
    have kc4_1_0 := q.1
    have kc4_1_1 := q.2.1
    have kf4_1_0 := q.2.2.1
    have kf4_1_1 := q.2.2.2.1
    have kl4_1 := q.2.2.2.2.1
    have kn4_1 := q.2.2.2.2.2.1
    have km4_1 := q.2.2.2.2.2.2
    clear q
    have q := keep2 h4 (b := w.heap.size + 2) (by first | (simp; done) | (simp; omega) | omega)
    have kc4_2_0 := q.1
    have kc4_2_1 := q.2.1
    have kf4_2_0 := q.2.2.1
    have kf4_2_1 := q.2.2.2.1
    have kl4_2 := q.2.2.2.2.1
    have kn4_2 := q.2.2.2.2.2.1
    have km4_2 := q.2.2.2.2.2.2
    clear q
    have q := keep2 h4 (b := b1) (by first | (simp; done) | (simp; omega) | omega)
    have kc4_3_0 := q.1
    have kc4_3_1 := q.2.1
    have kf4_3_0 := q.2.2.1
    have kf4_3_1 := q.2.2.2.1
    have kl4_3 := q.2.2.2.2.1
    have kn4_3 := q.2.2.2.2.2.1
    have km4_3 := q.2.2.2.2.2.2
    clear q
    have q := keep2 h4 (b := b2) (by first | (simp; done) | (simp; omega) | omega)
    have kc4_4_0 := q.1
    have kc4_4_1 := q.2.1
    have kf4_4_0 := q.2.2.1
    have kf4_4_1 := q.2.2.2.1
    have kl4_4 := q.2.2.2.2.1
    have kn4_4 := q.2.2.2.2.2.1
    have km4_4 := q.2.2.2.2.2.2
    clear q
    have kz4 := h4.size
    (try simp only [World.size_alloc, World.size_setCell, World.size_drew] at kz4)
    have H4 := Lib.hid h4
    clear h4
    go_wp2_with fail
    with_reducible refine (MI.out _).mono ?_
    rintro e w5 ⟨rfl, h5⟩
    have q := keep2 h5 (b := w.heap.size) (by first | (simp; done) | (simp; omega) | omega)
    have kc5_0_0 := q.1
    have kc5_0_1 := q.2.1
    have kf5_0_0 := q.2.2.1
    have kf5_0_1 := q.2.2.2.1
    have kl5_0 := q.2.2.2.2.1
    have kn5_0 := q.2.2.2.2.2.1
    have km5_0 := q.2.2.2.2.2.2
    clear q
    have q := keep2 h5 (b := w.heap.size + 1) (by first | (simp; done) | (simp; omega) | omega)
    have kc5_1_0 := q.1
    have kc5_1_1 := q.2.1
    have kf5_1_0 := q.2.2.1
    have kf5_1_1 := q.2.2.2.1
    have kl5_1 := q.2.2.2.2.1
    have kn5_1 := q.2.2.2.2.2.1
    have km5_1 := q.2.2.2.2.2.2
    clear q
    have q := keep2 h5 (b := w.heap.size + 2) (by first | (simp; done) | (simp; omega) | omega)
    have kc5_2_0 := q.1
    have kc5_2_1 := q.2.1
    have kf5_2_0 := q.2.2.1
    have kf5_2_1 := q.2.2.2.1
    have kl5_2 := q.2.2.2.2.1
    have kn5_2 := q.2.2.2.2.2.1
    have km5_2 := q.2.2.2.2.2.2
    clear q
    have q := keep2 h5 (b := b1) (by first | (simp; done) | (simp; omega) | omega)
    have kc5_3_0 := q.1
    have kc5_3_1 := q.2.1
    have kf5_3_0 := q.2.2.1
    have kf5_3_1 := q.2.2.2.1
    have kl5_3 := q.2.2.2.2.1
    have kn5_3 := q.2.2.2.2.2.1
    have km5_3 := q.2.2.2.2.2.2
    clear q
    have kz5 := h5.size
    (try simp only [World.size_alloc, World.size_setCell, World.size_drew] at kz5)
    have H5 := Lib.hid h5
    clear h5
    go_wp2_with fail
    refine wp_region_calm (fun _ w' => w'.cell? { block := w.heap.size, off := 0 } = some (.int .i64 a) ∧ w'.cell? { block := w.heap.size, off := 1 } = some (.int .i64 b) ∧ w'.cell? { block := w.heap.size + 1, off := 0 } = some (.int .i64 c) ∧ w'.cell? { block := w.heap.size + 1, off := 1 } = some (.int .i64 d)) (fun _ => false) [0, 1, 2, 3, 4, 5, 6, 7] 0 (by kernel_rfl) (by kernel_rfl) ?hst ?hS0 (fun w0 h0 => ?_)
    case hst => exact fun _ _ _ h r => ⟨r.cell h.1, r.cell h.2.1, r.cell h.2.2.1, r.cell h.2.2.2⟩
    case hS0 => exact ⟨by go_simp, by go_simp, by go_simp, by go_simp⟩
    iterate 2
      refine wpCalm_go rfl (by kernel_rfl) (fun K hK => ?_)
      apply Exists.intro
      refine ⟨fun M w hM hS => ?_, hK _ ?_⟩
      · have c1 := hS.1
        have c2 := hS.2.1
        have c3 := hS.2.2.1
        have c4 := hS.2.2.2
        unfold calmAt
        go_simp
        exact ⟨rfl, Rel.refl _⟩
      clear hK K
    refine wpCalm_go rfl (by kernel_rfl) (fun K hK => ?_)
    apply Exists.intro
    refine ⟨fun M w hM hS => ?_, hK _ ?_⟩
    · have c1 := hS.1
      have c2 := hS.2.1
      have c3 := hS.2.2.1
      have c4 := hS.2.2.2
      unfold calmAt
      go_simp
      with_reducible refine (S2.out _).mono ?_
      rintro e w1 ⟨rfl, rfl⟩
      exact ⟨rfl, Rel.refl _⟩
    clear hK K
    iterate 2
      refine wpCalm_go rfl (by kernel_rfl) (fun K hK => ?_)
      apply Exists.intro
      refine ⟨fun M w hM hS => ?_, hK _ ?_⟩
      · have c1 := hS.1
        have c2 := hS.2.1
        have c3 := hS.2.2.1
        have c4 := hS.2.2.2
        unfold calmAt
        go_simp
        exact ⟨rfl, Rel.refl _⟩
      clear hK K
    refine wpCalm_go rfl (by kernel_rfl) (fun K hK => ?_)
    apply Exists.intro
    refine ⟨fun M w hM hS => ?_, hK _ ?_⟩
    · have c1 := hS.1
      have c2 := hS.2.1
      have c3 := hS.2.2.1
      have c4 := hS.2.2.2
      unfold calmAt
      go_simp
      with_reducible refine (S4.out _).mono ?_
      rintro e w1 ⟨rfl, rfl⟩
      exact ⟨rfl, Rel.refl _⟩
    clear hK K
    iterate 2
      refine wpCalm_go rfl (by kernel_rfl) (fun K hK => ?_)
      apply Exists.intro
      refine ⟨fun M w hM hS => ?_, hK _ ?_⟩
      · have c1 := hS.1
        have c2 := hS.2.1
        have c3 := hS.2.2.1
        have c4 := hS.2.2.2
        unfold calmAt
        go_simp
        exact ⟨rfl, Rel.refl _⟩
      clear hK K
    refine wpAnyR_end (by kernel_rfl) (fun w6 h6' => ?_)
    (try simp only [Act.put, List.setIfInBounds_toArray, List.set_cons_zero, List.set_cons_succ])
    have h6 := h0.trans h6'
    clear h0 h6'
    have q := keep2 h6 (b := w.heap.size) (by first | (simp; done) | (simp; omega) | omega)
    have kc6_0_0 := q.1
    have kc6_0_1 := q.2.1
    have kf6_0_0 := q.2.2.1
    have kf6_0_1 := q.2.2.2.1
    have kl6_0 := q.2.2.2.2.1
    have kn6_0 := q.2.2.2.2.2.1
    have km6_0 := q.2.2.2.2.2.2
    clear q
    have q := keep2 h6 (b := w.heap.size + 1) (by first | (simp; done) | (simp; omega) | omega)
    have kc6_1_0 := q.1
    have kc6_1_1 := q.2.1
    have kf6_1_0 := q.2.2.1
    have kf6_1_1 := q.2.2.2.1
    have kl6_1 := q.2.2.2.2.1
    have kn6_1 := q.2.2.2.2.2.1
    have km6_1 := q.2.2.2.2.2.2
    clear q
    have q := keep2 h6 (b := w.heap.size + 2) (by first | (simp; done) | (simp; omega) | omega)
    have kc6_2_0 := q.1
    have kc6_2_1 := q.2.1
    have kf6_2_0 := q.2.2.1
    have kf6_2_1 := q.2.2.2.1
    have kl6_2 := q.2.2.2.2.1
    have kn6_2 := q.2.2.2.2.2.1
    have km6_2 := q.2.2.2.2.2.2
    clear q
    have q := keep2 h6 (b := b1) (by first | (simp; done) | (simp; omega) | omega)
    have kc6_3_0 := q.1
    have kc6_3_1 := q.2.1
    have kf6_3_0 := q.2.2.1
    have kf6_3_1 := q.2.2.2.1
    have kl6_3 := q.2.2.2.2.1
    have kn6_3 := q.2.2.2.2.2.1
    have km6_3 := q.2.2.2.2.2.2
    clear q
    have kz6 := h6.size
    (try simp only [World.size_alloc, World.size_setCell, World.size_drew] at kz6)
    have H6 := Lib.hid h6
    clear h6
    rcases HR.out with ⟨rfl, rfl, rfl, rfl, rfl⟩ | ⟨hx, hg, hF, hE2, RM, G, OV, WI⟩
    · clear HR
      go_wp2
      refine bodyPost_ret ?_ rfl ⟨rfl, ?_⟩
      · simp [results, Try.results33, go_sem, kc6_2_0, kc6_2_1, kl6_2, kc5_2_0, kc5_2_1, kl5_2, e20, e21, j1, j2, j3, j4, l2, kc4_2_0, kc4_2_1, kl4_2]
      · (show Rel _ _; repeat (first | with_reducible exact Rel.refl _ | with_reducible refine Rel.alloc ?_ _ | with_reducible refine Rel.setCell ?_ (by first | (simp; done) | (simp; omega) | omega) _ | with_reducible refine Rel.trans ?_ H6.out | with_reducible refine Rel.trans ?_ H5.out | with_reducible refine Rel.trans ?_ H4.out | with_reducible exact HA.out))
    · have n1 : ¬ g = 0 := by omega
      have y1 : ((g : Int) == 0) = false := by simp; omega
      have i1 := int_div_nat E g
      have i2 := tdiv_nat E g
      rw [hF] at i1 i2
      have l1 : F < 18446744073709551616 := by rw [← hF]; exact Nat.lt_of_le_of_lt (Nat.div_le_self _ _) hE2
      have i3 := u64_nat l1
      clear HR hF hg hE2
      rcases hx with ⟨hx', hx⟩ | hx
      · go_wp2_with fail
        with_reducible refine (RM.out _).mono ?_
        rintro e w7 ⟨rfl, h7⟩
        have q := keep2 h7 (b := w.heap.size + 2) (by first | (simp; done) | (simp; omega) | omega)
        have kc7_0_0 := q.1
        have kc7_0_1 := q.2.1
        have kf7_0_0 := q.2.2.1
        have kf7_0_1 := q.2.2.2.1
        have kl7_0 := q.2.2.2.2.1
        have kn7_0 := q.2.2.2.2.2.1
        have km7_0 := q.2.2.2.2.2.2
        clear q
        have q := keep2 h7 (b := b1) (by first | (simp; done) | (simp; omega) | omega)
        have kc7_1_0 := q.1
        have kc7_1_1 := q.2.1
        have kf7_1_0 := q.2.2.1
        have kf7_1_1 := q.2.2.2.1
        have kl7_1 := q.2.2.2.2.1
        have kn7_1 := q.2.2.2.2.2.1
        have km7_1 := q.2.2.2.2.2.2
        clear q
        have kz7 := h7.size
        (try simp only [World.size_alloc, World.size_setCell, World.size_drew] at kz7)
        have H7 := Lib.hid h7
        clear h7
        go_wp2_with fail
        with_reducible refine (G.out _).mono ?_
        rintro e w8 ⟨rfl, h8⟩
        have q := keep2 h8 (b := w.heap.size + 2) (by first | (simp; done) | (simp; omega) | omega)
        have kc8_0_0 := q.1
        have kc8_0_1 := q.2.1
        have kf8_0_0 := q.2.2.1
        have kf8_0_1 := q.2.2.2.1
        have kl8_0 := q.2.2.2.2.1
        have kn8_0 := q.2.2.2.2.2.1
        have km8_0 := q.2.2.2.2.2.2
        clear q
        have q := keep2 h8 (b := b1) (by first | (simp; done) | (simp; omega) | omega)
        have kc8_1_0 := q.1
        have kc8_1_1 := q.2.1
        have kf8_1_0 := q.2.2.1
        have kf8_1_1 := q.2.2.2.1
        have kl8_1 := q.2.2.2.2.1
        have kn8_1 := q.2.2.2.2.2.1
        have km8_1 := q.2.2.2.2.2.2
        clear q
        have kz8 := h8.size
        (try simp only [World.size_alloc, World.size_setCell, World.size_drew] at kz8)
        have H8 := Lib.hid h8
        clear h8
        go_wp2_with fail
        refine wp_region_calm (fun _ w' => w'.cell? { block := b1, off := 0 } = some (.int .u64 Xh) ∧ w'.cell? { block := b1, off := 1 } = some (.int .u64 Xl)) (fun _ => false) [0, 1, 2, 3, 4, 5, 6, 7, 8, 9, 10] 2 (by kernel_rfl) (by kernel_rfl) ?hst ?hS0 (fun w0 h0 => ?_)
        case hst => exact fun _ _ _ h r => ⟨r.cell h.1, r.cell h.2⟩
        case hS0 => exact ⟨by go_simp, by go_simp⟩
        iterate 3
          refine wpCalm_go rfl (by kernel_rfl) (fun K hK => ?_)
          apply Exists.intro
          refine ⟨fun M w hM hS => ?_, hK _ ?_⟩
          · have c1 := hS.1
            have c2 := hS.2
            unfold calmAt
            go_simp
            exact ⟨rfl, Rel.refl _⟩
          clear hK K
        refine wpCalm_go rfl (by kernel_rfl) (fun K hK => ?_)
        apply Exists.intro
        refine ⟨fun M w hM hS => ?_, hK _ ?_⟩
        · unfold calmAt
          go_simp
          with_reducible refine (OV.out _).mono ?_
          rintro e w1 ⟨rfl, hb⟩
          exact ⟨rfl, hb⟩
        clear hK K
        iterate 4
          refine wpCalm_go rfl (by kernel_rfl) (fun K hK => ?_)
          apply Exists.intro
          refine ⟨fun M w hM hS => ?_, hK _ ?_⟩
          · have c1 := hS.1
            have c2 := hS.2
            unfold calmAt
            go_simp
            exact ⟨rfl, Rel.refl _⟩
          clear hK K
        refine wpCalm_go rfl (by kernel_rfl) (fun K hK => ?_)
        apply Exists.intro
        refine ⟨fun M w hM hS => ?_, hK _ ?_⟩
        · unfold calmAt
          go_simp
          with_reducible refine (WI.out _).mono ?_
          rintro e w1 ⟨rfl, hb⟩
          exact ⟨rfl, hb⟩
        clear hK K
        iterate 2
          refine wpCalm_go rfl (by kernel_rfl) (fun K hK => ?_)
          apply Exists.intro
          refine ⟨fun M w hM hS => ?_, hK _ ?_⟩
          · unfold calmAt
            go_simp
            exact ⟨rfl, Rel.refl _⟩
          clear hK K
        refine wpCalm_nil ?_
        have h9 := h0
        clear h0
        have q := keep2 h9 (b := w.heap.size + 2) (by first | (simp; done) | (simp; omega) | omega)
        have kc9_0_0 := q.1
        have kc9_0_1 := q.2.1
        have kf9_0_0 := q.2.2.1
        have kf9_0_1 := q.2.2.2.1
        have kl9_0 := q.2.2.2.2.1
        have kn9_0 := q.2.2.2.2.2.1
        have km9_0 := q.2.2.2.2.2.2
        clear q
        have q := keep2 h9 (b := b1) (by first | (simp; done) | (simp; omega) | omega)
        have kc9_1_0 := q.1
        have kc9_1_1 := q.2.1
        have kf9_1_0 := q.2.2.1
        have kf9_1_1 := q.2.2.2.1
        have kl9_1 := q.2.2.2.2.1
        have kn9_1 := q.2.2.2.2.2.1
        have km9_1 := q.2.2.2.2.2.2
        clear q
        have kz9 := h9.size
        (try simp only [World.size_alloc, World.size_setCell, World.size_drew] at kz9)
        have H9 := Lib.hid h9
        clear h9
        refine wpAnyR_ready (rs := [11]) (by kernel_rfl) (by simp) (AllR.cons rfl (fun w10 h10 K' hK' => ?_) AllR.nil)
        have q := keep2 h10 (b := w.heap.size + 2) (by first | (simp; done) | (simp; omega) | omega)
        have kc10_0_0 := q.1
        have kc10_0_1 := q.2.1
        have kf10_0_0 := q.2.2.1
        have kf10_0_1 := q.2.2.2.1
        have kl10_0 := q.2.2.2.2.1
        have kn10_0 := q.2.2.2.2.2.1
        have km10_0 := q.2.2.2.2.2.2
        clear q
        have q := keep2 h10 (b := b1) (by first | (simp; done) | (simp; omega) | omega)
        have kc10_1_0 := q.1
        have kc10_1_1 := q.2.1
        have kf10_1_0 := q.2.2.1
        have kf10_1_1 := q.2.2.2.1
        have kl10_1 := q.2.2.2.2.1
        have kn10_1 := q.2.2.2.2.2.1
        have km10_1 := q.2.2.2.2.2.2
        clear q
        have kz10 := h10.size
        (try simp only [World.size_alloc, World.size_setCell, World.size_drew] at kz10)
        have H10 := Lib.hid h10
        clear h10
        go_simp
        refine hK'.out _ _ ⟨by go_simp, by go_simp⟩ ?_
        clear hK' K'
        refine wpAnyR_ready (rs := [12]) (by kernel_rfl) (by simp) (AllR.cons rfl (fun w11 h11 K' hK' => ?_) AllR.nil)
        have q := keep2 h11 (b := w.heap.size + 2) (by first | (simp; done) | (simp; omega) | omega)
        have kc11_0_0 := q.1
        have kc11_0_1 := q.2.1
        have kf11_0_0 := q.2.2.1
        have kf11_0_1 := q.2.2.2.1
        have kl11_0 := q.2.2.2.2.1
        have kn11_0 := q.2.2.2.2.2.1
        have km11_0 := q.2.2.2.2.2.2
        clear q
        have q := keep2 h11 (b := b1) (by first | (simp; done) | (simp; omega) | omega)
        have kc11_1_0 := q.1
        have kc11_1_1 := q.2.1
        have kf11_1_0 := q.2.2.1
        have kf11_1_1 := q.2.2.2.1
        have kl11_1 := q.2.2.2.2.1
        have kn11_1 := q.2.2.2.2.2.1
        have km11_1 := q.2.2.2.2.2.2
        clear q
        have kz11 := h11.size
        (try simp only [World.size_alloc, World.size_setCell, World.size_drew] at kz11)
        have H11 := Lib.hid h11
        clear h11
        go_simp
        refine hK'.out _ _ ⟨by go_simp, by go_simp⟩ ?_
        clear hK' K'
        refine wpAnyR_end (by kernel_rfl) (fun w12 h12 => ?_)
        (try simp only [Act.put, List.setIfInBounds_toArray, List.set_cons_zero, List.set_cons_succ])
        have q := keep2 h12 (b := w.heap.size + 2) (by first | (simp; done) | (simp; omega) | omega)
        have kc12_0_0 := q.1
        have kc12_0_1 := q.2.1
        have kf12_0_0 := q.2.2.1
        have kf12_0_1 := q.2.2.2.1
        have kl12_0 := q.2.2.2.2.1
        have kn12_0 := q.2.2.2.2.2.1
        have km12_0 := q.2.2.2.2.2.2
        clear q
        have kz12 := h12.size
        (try simp only [World.size_alloc, World.size_setCell, World.size_drew] at kz12)
        have H12 := Lib.hid h12
        clear h12
        go_wp2
        refine bodyPost_ret ?_ rfl ⟨rfl, ?_⟩
        · simp [results, Try.results33, go_sem, kc12_0_0, kc12_0_1, kl12_0, kc11_0_0, kc11_0_1, kl11_0, kc10_0_0, kc10_0_1, kl10_0, kc9_0_0, kc9_0_1, kl9_0, kc8_0_0, kc8_0_1, kl8_0, kc7_0_0, kc7_0_1, kl7_0, kc6_2_0, kc6_2_1, kl6_2, kc5_2_0, kc5_2_1, kl5_2, e20, e21, j1, j2, j3, j4, l2, kc4_2_0, kc4_2_1, kl4_2]
        · (show Rel _ _; repeat (first | with_reducible exact Rel.refl _ | with_reducible refine Rel.alloc ?_ _ | with_reducible refine Rel.setCell ?_ (by first | (simp; done) | (simp; omega) | omega) _ | with_reducible refine Rel.trans ?_ H12.out | with_reducible refine Rel.trans ?_ H11.out | with_reducible refine Rel.trans ?_ H10.out | with_reducible refine Rel.trans ?_ H9.out | with_reducible refine Rel.trans ?_ H8.out | with_reducible refine Rel.trans ?_ H7.out | with_reducible refine Rel.trans ?_ H6.out | with_reducible refine Rel.trans ?_ H5.out | with_reducible refine Rel.trans ?_ H4.out | with_reducible exact HA.out))
      · go_wp2_with fail
        with_reducible refine (RM.out _).mono ?_
        rintro e w7 ⟨rfl, h7⟩
        have q := keep2 h7 (b := w.heap.size + 2) (by first | (simp; done) | (simp; omega) | omega)
        have kc7_0_0 := q.1
        have kc7_0_1 := q.2.1
        have kf7_0_0 := q.2.2.1
        have kf7_0_1 := q.2.2.2.1
        have kl7_0 := q.2.2.2.2.1
        have kn7_0 := q.2.2.2.2.2.1
        have km7_0 := q.2.2.2.2.2.2
        clear q
        have q := keep2 h7 (b := b1) (by first | (simp; done) | (simp; omega) | omega)
        have kc7_1_0 := q.1
        have kc7_1_1 := q.2.1
        have kf7_1_0 := q.2.2.1
        have kf7_1_1 := q.2.2.2.1
        have kl7_1 := q.2.2.2.2.1
        have kn7_1 := q.2.2.2.2.2.1
        have km7_1 := q.2.2.2.2.2.2
        clear q
        have kz7 := h7.size
        (try simp only [World.size_alloc, World.size_setCell, World.size_drew] at kz7)
        have H7 := Lib.hid h7
        clear h7
        go_wp2_with fail
        with_reducible refine (G.out _).mono ?_
        rintro e w8 ⟨rfl, h8⟩
        have q := keep2 h8 (b := w.heap.size + 2) (by first | (simp; done) | (simp; omega) | omega)
        have kc8_0_0 := q.1
        have kc8_0_1 := q.2.1
        have kf8_0_0 := q.2.2.1
        have kf8_0_1 := q.2.2.2.1
        have kl8_0 := q.2.2.2.2.1
        have kn8_0 := q.2.2.2.2.2.1
        have km8_0 := q.2.2.2.2.2.2
        clear q
        have q := keep2 h8 (b := b1) (by first | (simp; done) | (simp; omega) | omega)
        have kc8_1_0 := q.1
        have kc8_1_1 := q.2.1
        have kf8_1_0 := q.2.2.1
        have kf8_1_1 := q.2.2.2.1
        have kl8_1 := q.2.2.2.2.1
        have kn8_1 := q.2.2.2.2.2.1
        have km8_1 := q.2.2.2.2.2.2
        clear q
        have kz8 := h8.size
        (try simp only [World.size_alloc, World.size_setCell, World.size_drew] at kz8)
        have H8 := Lib.hid h8
        clear h8
        go_wp2_with fail
        refine wp_region_calm (fun _ w' => w'.cell? { block := b1, off := 0 } = some (.int .u64 Xh) ∧ w'.cell? { block := b1, off := 1 } = some (.int .u64 Xl)) (fun _ => false) [0, 1, 2, 3, 4, 5, 6, 7, 8, 9, 10] 2 (by kernel_rfl) (by kernel_rfl) ?hst ?hS0 (fun w0 h0 => ?_)
        case hst => exact fun _ _ _ h r => ⟨r.cell h.1, r.cell h.2⟩
        case hS0 => exact ⟨by go_simp, by go_simp⟩
        iterate 3
          refine wpCalm_go rfl (by kernel_rfl) (fun K hK => ?_)
          apply Exists.intro
          refine ⟨fun M w hM hS => ?_, hK _ ?_⟩
          · have c1 := hS.1
            have c2 := hS.2
            unfold calmAt
            go_simp
            exact ⟨rfl, Rel.refl _⟩
          clear hK K
        refine wpCalm_go rfl (by kernel_rfl) (fun K hK => ?_)
        apply Exists.intro
        refine ⟨fun M w hM hS => ?_, hK _ ?_⟩
        · unfold calmAt
          go_simp
          with_reducible refine (OV.out _).mono ?_
          rintro e w1 ⟨rfl, hb⟩
          exact ⟨rfl, hb⟩
        clear hK K
        iterate 4
          refine wpCalm_go rfl (by kernel_rfl) (fun K hK => ?_)
          apply Exists.intro
          refine ⟨fun M w hM hS => ?_, hK _ ?_⟩
          · have c1 := hS.1
            have c2 := hS.2
            unfold calmAt
            go_simp
            exact ⟨rfl, Rel.refl _⟩
          clear hK K
        refine wpCalm_go rfl (by kernel_rfl) (fun K hK => ?_)
        apply Exists.intro
        refine ⟨fun M w hM hS => ?_, hK _ ?_⟩
        · unfold calmAt
          go_simp
          with_reducible refine (WI.out _).mono ?_
          rintro e w1 ⟨rfl, hb⟩
          exact ⟨rfl, hb⟩
        clear hK K
        iterate 2
          refine wpCalm_go rfl (by kernel_rfl) (fun K hK => ?_)
          apply Exists.intro
          refine ⟨fun M w hM hS => ?_, hK _ ?_⟩
          · unfold calmAt
            go_simp
            exact ⟨rfl, Rel.refl _⟩
          clear hK K
        refine wpCalm_nil ?_
        have h9 := h0
        clear h0
        have q := keep2 h9 (b := w.heap.size + 2) (by first | (simp; done) | (simp; omega) | omega)
        have kc9_0_0 := q.1
        have kc9_0_1 := q.2.1
        have kf9_0_0 := q.2.2.1
        have kf9_0_1 := q.2.2.2.1
        have kl9_0 := q.2.2.2.2.1
        have kn9_0 := q.2.2.2.2.2.1
        have km9_0 := q.2.2.2.2.2.2
        clear q
        have q := keep2 h9 (b := b1) (by first | (simp; done) | (simp; omega) | omega)
        have kc9_1_0 := q.1
        have kc9_1_1 := q.2.1
        have kf9_1_0 := q.2.2.1
        have kf9_1_1 := q.2.2.2.1
        have kl9_1 := q.2.2.2.2.1
        have kn9_1 := q.2.2.2.2.2.1
        have km9_1 := q.2.2.2.2.2.2
        clear q
        have kz9 := h9.size
        (try simp only [World.size_alloc, World.size_setCell, World.size_drew] at kz9)
        have H9 := Lib.hid h9
        clear h9
        refine wpAnyR_ready (rs := [11]) (by kernel_rfl) (by simp) (AllR.cons rfl (fun w10 h10 K' hK' => ?_) AllR.nil)
        have q := keep2 h10 (b := w.heap.size + 2) (by first | (simp; done) | (simp; omega) | omega)
        have kc10_0_0 := q.1
        have kc10_0_1 := q.2.1
        have kf10_0_0 := q.2.2.1
        have kf10_0_1 := q.2.2.2.1
        have kl10_0 := q.2.2.2.2.1
        have kn10_0 := q.2.2.2.2.2.1
        have km10_0 := q.2.2.2.2.2.2
        clear q
        have q := keep2 h10 (b := b1) (by first | (simp; done) | (simp; omega) | omega)
        have kc10_1_0 := q.1
        have kc10_1_1 := q.2.1
        have kf10_1_0 := q.2.2.1
        have kf10_1_1 := q.2.2.2.1
        have kl10_1 := q.2.2.2.2.1
        have kn10_1 := q.2.2.2.2.2.1
        have km10_1 := q.2.2.2.2.2.2
        clear q
        have kz10 := h10.size
        (try simp only [World.size_alloc, World.size_setCell, World.size_drew] at kz10)
        have H10 := Lib.hid h10
        clear h10
        go_simp
        refine hK'.out _ _ ⟨by go_simp, by go_simp⟩ ?_
        clear hK' K'
        refine wpAnyR_ready (rs := [12]) (by kernel_rfl) (by simp) (AllR.cons rfl (fun w11 h11 K' hK' => ?_) AllR.nil)
        have q := keep2 h11 (b := w.heap.size + 2) (by first | (simp; done) | (simp; omega) | omega)
        have kc11_0_0 := q.1
        have kc11_0_1 := q.2.1
        have kf11_0_0 := q.2.2.1
        have kf11_0_1 := q.2.2.2.1
        have kl11_0 := q.2.2.2.2.1
        have kn11_0 := q.2.2.2.2.2.1
        have km11_0 := q.2.2.2.2.2.2
        clear q
        have q := keep2 h11 (b := b1) (by first | (simp; done) | (simp; omega) | omega)
        have kc11_1_0 := q.1
        have kc11_1_1 := q.2.1
        have kf11_1_0 := q.2.2.1
        have kf11_1_1 := q.2.2.2.1
        have kl11_1 := q.2.2.2.2.1
        have kn11_1 := q.2.2.2.2.2.1
        have km11_1 := q.2.2.2.2.2.2
        clear q
        have kz11 := h11.size
        (try simp only [World.size_alloc, World.size_setCell, World.size_drew] at kz11)
        have H11 := Lib.hid h11
        clear h11
        go_simp
        refine hK'.out _ _ ⟨by go_simp, by go_simp⟩ ?_
        clear hK' K'
        refine wpAnyR_end (by kernel_rfl) (fun w12 h12 => ?_)
        (try simp only [Act.put, List.setIfInBounds_toArray, List.set_cons_zero, List.set_cons_succ])
        have q := keep2 h12 (b := w.heap.size + 2) (by first | (simp; done) | (simp; omega) | omega)
        have kc12_0_0 := q.1
        have kc12_0_1 := q.2.1
        have kf12_0_0 := q.2.2.1
        have kf12_0_1 := q.2.2.2.1
        have kl12_0 := q.2.2.2.2.1
        have kn12_0 := q.2.2.2.2.2.1
        have km12_0 := q.2.2.2.2.2.2
        clear q
        have kz12 := h12.size
        (try simp only [World.size_alloc, World.size_setCell, World.size_drew] at kz12)
        have H12 := Lib.hid h12
        clear h12
        go_wp2
        refine bodyPost_ret ?_ rfl ⟨rfl, ?_⟩
        · simp [results, Try.results33, go_sem, kc12_0_0, kc12_0_1, kl12_0, kc11_0_0, kc11_0_1, kl11_0, kc10_0_0, kc10_0_1, kl10_0, kc9_0_0, kc9_0_1, kl9_0, kc8_0_0, kc8_0_1, kl8_0, kc7_0_0, kc7_0_1, kl7_0, kc6_2_0, kc6_2_1, kl6_2, kc5_2_0, kc5_2_1, kl5_2, e20, e21, j1, j2, j3, j4, l2, kc4_2_0, kc4_2_1, kl4_2]
        · (show Rel _ _; repeat (first | with_reducible exact Rel.refl _ | with_reducible refine Rel.alloc ?_ _ | with_reducible refine Rel.setCell ?_ (by first | (simp; done) | (simp; omega) | omega) _ | with_reducible refine Rel.trans ?_ H12.out | with_reducible refine Rel.trans ?_ H11.out | with_reducible refine Rel.trans ?_ H10.out | with_reducible refine Rel.trans ?_ H9.out | with_reducible refine Rel.trans ?_ H8.out | with_reducible refine Rel.trans ?_ H7.out | with_reducible refine Rel.trans ?_ H6.out | with_reducible refine Rel.trans ?_ H5.out | with_reducible refine Rel.trans ?_ H4.out | with_reducible exact HA.out))
  · clear HW
    go_wp2_with fail
    with_reducible refine (LT.out _).mono ?_
    rintro e w4 ⟨rfl, h4⟩
    have q := keep2 h4 (b := w.heap.size) (by first | (simp; done) | (simp; omega) | omega)
    have kc4_0_0 := q.1
    have kc4_0_1 := q.2.1
    have kf4_0_0 := q.2.2.1
    have kf4_0_1 := q.2.2.2.1
    have kl4_0 := q.2.2.2.2.1
    have kn4_0 := q.2.2.2.2.2.1
    have km4_0 := q.2.2.2.2.2.2
    clear q
    have q := keep2 h4 (b := w.heap.size + 1) (by first | (simp; done) | (simp; omega) | omega)
    have kc4_1_0 := q.1
    have kc4_1_1 := q.2.1
    have kf4_1_0 := q.2.2.1
    have kf4_1_1 := q.2.2.2.1
    have kl4_1 := q.2.2.2.2.1
    have kn4_1 := q.2.2.2.2.2.1
    have km4_1 := q.2.2.2.2.2.2
    clear q
    have q := keep2 h4 (b := w.heap.size + 2) (by first | (simp; done) | (simp; omega) | omega)
    have kc4_2_0 := q.1
    have kc4_2_1 := q.2.1
    have kf4_2_0 := q.2.2.1
    have kf4_2_1 := q.2.2.2.1
    have kl4_2 := q.2.2.2.2.1
    have kn4_2 := q.2.2.2.2.2.1
    have km4_2 := q.2.2.2.2.2.2
    clear q
    have q := keep2 h4 (b := b1) (by first | (simp; done) | (simp; omega) | omega)
    have kc4_3_0 := q.1
    have kc4_3_1 := q.2.1
    have kf4_3_0 := q.2.2.1
    have kf4_3_1 := q.2.2.2.1
    have kl4_3 := q.2.2.2.2.1
    have kn4_3 := q.2.2.2.2.2.1
    have km4_3 := q.2.2.2.2.2.2
    clear q
    have q := keep2 h4 (b := b2) (by first | (simp; done) | (simp; omega) | omega)
    have kc4_4_0 := q.1
    have kc4_4_1 := q.2.1
    have kf4_4_0 := q.2.2.1
    have kf4_4_1 := q.2.2.2.1
    have kl4_4 := q.2.2.2.2.1
    have kn4_4 := q.2.2.2.2.2.1
    have km4_4 := q.2.2.2.2.2.2
    clear q
    have kz4 := h4.size
    (try simp only [World.size_alloc, World.size_setCell, World.size_drew] at kz4)
    have H4 := Lib.hid h4
    clear h4
    go_wp2_with fail
    with_reducible refine (MI.out _).mono ?_
    rintro e w5 ⟨rfl, h5⟩
    have q := keep2 h5 (b := w.heap.size) (by first | (simp; done) | (simp; omega) | omega)
    have kc5_0_0 := q.1
    have kc5_0_1 := q.2.1
    have kf5_0_0 := q.2.2.1
    have kf5_0_1 := q.2.2.2.1
    have kl5_0 := q.2.2.2.2.1
    have kn5_0 := q.2.2.2.2.2.1
    have km5_0 := q.2.2.2.2.2.2
    clear q
    have q := keep2 h5 (b := w.heap.size + 1) (by first | (simp; done) | (simp; omega) | omega)
    have kc5_1_0 := q.1
    have kc5_1_1 := q.2.1
    have kf5_1_0 := q.2.2.1
    have kf5_1_1 := q.2.2.2.1
    have kl5_1 := q.2.2.2.2.1
    have kn5_1 := q.2.2.2.2.2.1
    have km5_1 := q.2.2.2.2.2.2
    clear q
    have q := keep2 h5 (b := w.heap.size + 2) (by first | (simp; done) | (simp; omega) | omega)
    have kc5_2_0 := q.1
    have kc5_2_1 := q.2.1
    have kf5_2_0 := q.2.2.1
    have kf5_2_1 := q.2.2.2.1
    have kl5_2 := q.2.2.2.2.1
    have kn5_2 := q.2.2.2.2.2.1
    have km5_2 := q.2.2.2.2.2.2
    clear q
    have q := keep2 h5 (b := b1) (by first | (simp; done) | (simp; omega) | omega)
    have kc5_3_0 := q.1
    have kc5_3_1 := q.2.1
    have kf5_3_0 := q.2.2.1
    have kf5_3_1 := q.2.2.2.1
    have kl5_3 := q.2.2.2.2.1
    have kn5_3 := q.2.2.2.2.2.1
    have km5_3 := q.2.2.2.2.2.2
    clear q
    have kz5 := h5.size
    (try simp only [World.size_alloc, World.size_setCell, World.size_drew] at kz5)
    have H5 := Lib.hid h5
    clear h5
    go_wp2_with fail
    refine wp_region_calm (fun _ w' => w'.cell? { block := w.heap.size, off := 0 } = some (.int .i64 a) ∧ w'.cell? { block := w.heap.size, off := 1 } = some (.int .i64 b) ∧ w'.cell? { block := w.heap.size + 1, off := 0 } = some (.int .i64 c) ∧ w'.cell? { block := w.heap.size + 1, off := 1 } = some (.int .i64 d)) (fun _ => false) [0, 1, 2, 3, 4, 5, 6, 7] 0 (by kernel_rfl) (by kernel_rfl) ?hst ?hS0 (fun w0 h0 => ?_)
    case hst => exact fun _ _ _ h r => ⟨r.cell h.1, r.cell h.2.1, r.cell h.2.2.1, r.cell h.2.2.2⟩
    case hS0 => exact ⟨by go_simp, by go_simp, by go_simp, by go_simp⟩
    iterate 2
      refine wpCalm_go rfl (by kernel_rfl) (fun K hK => ?_)
      apply Exists.intro
      refine ⟨fun M w hM hS => ?_, hK _ ?_⟩
      · have c1 := hS.1
        have c2 := hS.2.1
        have c3 := hS.2.2.1
        have c4 := hS.2.2.2
        unfold calmAt
        go_simp
        exact ⟨rfl, Rel.refl _⟩
      clear hK K
    refine wpCalm_go rfl (by kernel_rfl) (fun K hK => ?_)
    apply Exists.intro
    refine ⟨fun M w hM hS => ?_, hK _ ?_⟩
    · have c1 := hS.1
      have c2 := hS.2.1
      have c3 := hS.2.2.1
      have c4 := hS.2.2.2
      unfold calmAt
      go_simp
      with_reducible refine (S2.out _).mono ?_
      rintro e w1 ⟨rfl, rfl⟩
      exact ⟨rfl, Rel.refl _⟩
    clear hK K
    iterate 2
      refine wpCalm_go rfl (by kernel_rfl) (fun K hK => ?_)
      apply Exists.intro
      refine ⟨fun M w hM hS => ?_, hK _ ?_⟩
      · have c1 := hS.1
        have c2 := hS.2.1
        have c3 := hS.2.2.1
        have c4 := hS.2.2.2
        unfold calmAt
        go_simp
        exact ⟨rfl, Rel.refl _⟩
      clear hK K
    refine wpCalm_go rfl (by kernel_rfl) (fun K hK => ?_)
    apply Exists.intro
    refine ⟨fun M w hM hS => ?_, hK _ ?_⟩
    · have c1 := hS.1
      have c2 := hS.2.1
      have c3 := hS.2.2.1
      have c4 := hS.2.2.2
      unfold calmAt
      go_simp
      with_reducible refine (S4.out _).mono ?_
      rintro e w1 ⟨rfl, rfl⟩
      exact ⟨rfl, Rel.refl _⟩
    clear hK K
    iterate 2
      refine wpCalm_go rfl (by kernel_rfl) (fun K hK => ?_)
      apply Exists.intro
      refine ⟨fun M w hM hS => ?_, hK _ ?_⟩
      · have c1 := hS.1
        have c2 := hS.2.1
        have c3 := hS.2.2.1
        have c4 := hS.2.2.2
        unfold calmAt
        go_simp
        exact ⟨rfl, Rel.refl _⟩
      clear hK K
    refine wpAnyR_end (by kernel_rfl) (fun w6 h6' => ?_)
    (try simp only [Act.put, List.setIfInBounds_toArray, List.set_cons_zero, List.set_cons_succ])
    have h6 := h0.trans h6'
    clear h0 h6'
    have q := keep2 h6 (b := w.heap.size) (by first | (simp; done) | (simp; omega) | omega)
    have kc6_0_0 := q.1
    have kc6_0_1 := q.2.1
    have kf6_0_0 := q.2.2.1
    have kf6_0_1 := q.2.2.2.1
    have kl6_0 := q.2.2.2.2.1
    have kn6_0 := q.2.2.2.2.2.1
    have km6_0 := q.2.2.2.2.2.2
    clear q
    have q := keep2 h6 (b := w.heap.size + 1) (by first | (simp; done) | (simp; omega) | omega)
    have kc6_1_0 := q.1
    have kc6_1_1 := q.2.1
    have kf6_1_0 := q.2.2.1
    have kf6_1_1 := q.2.2.2.1
    have kl6_1 := q.2.2.2.2.1
    have kn6_1 := q.2.2.2.2.2.1
    have km6_1 := q.2.2.2.2.2.2
    clear q
    have q := keep2 h6 (b := w.heap.size + 2) (by first | (simp; done) | (simp; omega) | omega)
    have kc6_2_0 := q.1
    have kc6_2_1 := q.2.1
    have kf6_2_0 := q.2.2.1
    have kf6_2_1 := q.2.2.2.1
    have kl6_2 := q.2.2.2.2.1
    have kn6_2 := q.2.2.2.2.2.1
    have km6_2 := q.2.2.2.2.2.2
    clear q
    have q := keep2 h6 (b := b1) (by first | (simp; done) | (simp; omega) | omega)
    have kc6_3_0 := q.1
    have kc6_3_1 := q.2.1
    have kf6_3_0 := q.2.2.1
    have kf6_3_1 := q.2.2.2.1
    have kl6_3 := q.2.2.2.2.1
    have kn6_3 := q.2.2.2.2.2.1
    have km6_3 := q.2.2.2.2.2.2
    clear q
    have kz6 := h6.size
    (try simp only [World.size_alloc, World.size_setCell, World.size_drew] at kz6)
    have H6 := Lib.hid h6
    clear h6
    rcases HR.out with ⟨rfl, rfl, rfl, rfl, rfl⟩ | ⟨hx, hg, hF, hE2, RM, G, OV, WI⟩
    · clear HR
      go_wp2
      refine bodyPost_ret ?_ rfl ⟨rfl, ?_⟩
      · simp [results, Try.results33, go_sem, kc6_2_0, kc6_2_1, kl6_2, kc5_2_0, kc5_2_1, kl5_2, e20, e21, j1, j2, j3, j4, l2, kc4_2_0, kc4_2_1, kl4_2]
      · (show Rel _ _; repeat (first | with_reducible exact Rel.refl _ | with_reducible refine Rel.alloc ?_ _ | with_reducible refine Rel.setCell ?_ (by first | (simp; done) | (simp; omega) | omega) _ | with_reducible refine Rel.trans ?_ H6.out | with_reducible refine Rel.trans ?_ H5.out | with_reducible refine Rel.trans ?_ H4.out | with_reducible exact HA.out))
    · have n1 : ¬ g = 0 := by omega
      have y1 : ((g : Int) == 0) = false := by simp; omega
      have i1 := int_div_nat E g
      have i2 := tdiv_nat E g
      rw [hF] at i1 i2
      have l1 : F < 18446744073709551616 := by rw [← hF]; exact Nat.lt_of_le_of_lt (Nat.div_le_self _ _) hE2
      have i3 := u64_nat l1
      clear HR hF hg hE2
      rcases hx with ⟨hx', hx⟩ | hx
      · go_wp2_with fail
        with_reducible refine (RM.out _).mono ?_
        rintro e w7 ⟨rfl, h7⟩
        have q := keep2 h7 (b := w.heap.size + 2) (by first | (simp; done) | (simp; omega) | omega)
        have kc7_0_0 := q.1
        have kc7_0_1 := q.2.1
        have kf7_0_0 := q.2.2.1
        have kf7_0_1 := q.2.2.2.1
        have kl7_0 := q.2.2.2.2.1
        have kn7_0 := q.2.2.2.2.2.1
        have km7_0 := q.2.2.2.2.2.2
        clear q
        have q := keep2 h7 (b := b1) (by first | (simp; done) | (simp; omega) | omega)
        have kc7_1_0 := q.1
        have kc7_1_1 := q.2.1
        have kf7_1_0 := q.2.2.1
        have kf7_1_1 := q.2.2.2.1
        have kl7_1 := q.2.2.2.2.1
        have kn7_1 := q.2.2.2.2.2.1
        have km7_1 := q.2.2.2.2.2.2
        clear q
        have kz7 := h7.size
        (try simp only [World.size_alloc, World.size_setCell, World.size_drew] at kz7)
        have H7 := Lib.hid h7
        clear h7
        go_wp2_with fail
        with_reducible refine (G.out _).mono ?_
        rintro e w8 ⟨rfl, h8⟩
        have q := keep2 h8 (b := w.heap.size + 2) (by first | (simp; done) | (simp; omega) | omega)
        have kc8_0_0 := q.1
        have kc8_0_1 := q.2.1
        have kf8_0_0 := q.2.2.1
        have kf8_0_1 := q.2.2.2.1
        have kl8_0 := q.2.2.2.2.1
        have kn8_0 := q.2.2.2.2.2.1
        have km8_0 := q.2.2.2.2.2.2
        clear q
        have q := keep2 h8 (b := b1) (by first | (simp; done) | (simp; omega) | omega)
        have kc8_1_0 := q.1
        have kc8_1_1 := q.2.1
        have kf8_1_0 := q.2.2.1
        have kf8_1_1 := q.2.2.2.1
        have kl8_1 := q.2.2.2.2.1
        have kn8_1 := q.2.2.2.2.2.1
        have km8_1 := q.2.2.2.2.2.2
        clear q
        have kz8 := h8.size
        (try simp only [World.size_alloc, World.size_setCell, World.size_drew] at kz8)
        have H8 := Lib.hid h8
        clear h8
        go_wp2_with fail
        refine wp_region_calm (fun _ w' => w'.cell? { block := b1, off := 0 } = some (.int .u64 Xh) ∧ w'.cell? { block := b1, off := 1 } = some (.int .u64 Xl)) (fun _ => false) [0, 1, 2, 3, 4, 5, 6, 7, 8, 9, 10] 2 (by kernel_rfl) (by kernel_rfl) ?hst ?hS0 (fun w0 h0 => ?_)
        case hst => exact fun _ _ _ h r => ⟨r.cell h.1, r.cell h.2⟩
        case hS0 => exact ⟨by go_simp, by go_simp⟩
        iterate 3
          refine wpCalm_go rfl (by kernel_rfl) (fun K hK => ?_)
          apply Exists.intro
          refine ⟨fun M w hM hS => ?_, hK _ ?_⟩
          · have c1 := hS.1
            have c2 := hS.2
            unfold calmAt
            go_simp
            exact ⟨rfl, Rel.refl _⟩
          clear hK K
        refine wpCalm_go rfl (by kernel_rfl) (fun K hK => ?_)
        apply Exists.intro
        refine ⟨fun M w hM hS => ?_, hK _ ?_⟩
        · unfold calmAt
          go_simp
          with_reducible refine (OV.out _).mono ?_
          rintro e w1 ⟨rfl, hb⟩
          exact ⟨rfl, hb⟩
        clear hK K
        iterate 4
          refine wpCalm_go rfl (by kernel_rfl) (fun K hK => ?_)
          apply Exists.intro
          refine ⟨fun M w hM hS => ?_, hK _ ?_⟩
          · have c1 := hS.1
            have c2 := hS.2
            unfold calmAt
            go_simp
            exact ⟨rfl, Rel.refl _⟩
          clear hK K
        refine wpCalm_go rfl (by kernel_rfl) (fun K hK => ?_)
        apply Exists.intro
        refine ⟨fun M w hM hS => ?_, hK _ ?_⟩
        · unfold calmAt
          go_simp
          with_reducible refine (WI.out _).mono ?_
          rintro e w1 ⟨rfl, hb⟩
          exact ⟨rfl, hb⟩
        clear hK K
        iterate 2
          refine wpCalm_go rfl (by kernel_rfl) (fun K hK => ?_)
          apply Exists.intro
          refine ⟨fun M w hM hS => ?_, hK _ ?_⟩
          · unfold calmAt
            go_simp
            exact ⟨rfl, Rel.refl _⟩
          clear hK K
        refine wpCalm_nil ?_
        have h9 := h0
        clear h0
        have q := keep2 h9 (b := w.heap.size + 2) (by first | (simp; done) | (simp; omega) | omega)
        have kc9_0_0 := q.1
        have kc9_0_1 := q.2.1
        have kf9_0_0 := q.2.2.1
        have kf9_0_1 := q.2.2.2.1
        have kl9_0 := q.2.2.2.2.1
        have kn9_0 := q.2.2.2.2.2.1
        have km9_0 := q.2.2.2.2.2.2
        clear q
        have q := keep2 h9 (b := b1) (by first | (simp; done) | (simp; omega) | omega)
        have kc9_1_0 := q.1
        have kc9_1_1 := q.2.1
        have kf9_1_0 := q.2.2.1
        have kf9_1_1 := q.2.2.2.1
        have kl9_1 := q.2.2.2.2.1
        have kn9_1 := q.2.2.2.2.2.1
        have km9_1 := q.2.2.2.2.2.2
        clear q
        have kz9 := h9.size
        (try simp only [World.size_alloc, World.size_setCell, World.size_drew] at kz9)
        have H9 := Lib.hid h9
        clear h9
        refine wpAnyR_ready (rs := [11]) (by kernel_rfl) (by simp) (AllR.cons rfl (fun w10 h10 K' hK' => ?_) AllR.nil)
        have q := keep2 h10 (b := w.heap.size + 2) (by first | (simp; done) | (simp; omega) | omega)
        have kc10_0_0 := q.1
        have kc10_0_1 := q.2.1
        have kf10_0_0 := q.2.2.1
        have kf10_0_1 := q.2.2.2.1
        have kl10_0 := q.2.2.2.2.1
        have kn10_0 := q.2.2.2.2.2.1
        have km10_0 := q.2.2.2.2.2.2
        clear q
        have q := keep2 h10 (b := b1) (by first | (simp; done) | (simp; omega) | omega)
        have kc10_1_0 := q.1
        have kc10_1_1 := q.2.1
        have kf10_1_0 := q.2.2.1
        have kf10_1_1 := q.2.2.2.1
        have kl10_1 := q.2.2.2.2.1
        have kn10_1 := q.2.2.2.2.2.1
        have km10_1 := q.2.2.2.2.2.2
        clear q
        have kz10 := h10.size
        (try simp only [World.size_alloc, World.size_setCell, World.size_drew] at kz10)
        have H10 := Lib.hid h10
        clear h10
        go_simp
        refine hK'.out _ _ ⟨by go_simp, by go_simp⟩ ?_
        clear hK' K'
        refine wpAnyR_ready (rs := [12]) (by kernel_rfl) (by simp) (AllR.cons rfl (fun w11 h11 K' hK' => ?_) AllR.nil)
        have q := keep2 h11 (b := w.heap.size + 2) (by first | (simp; done) | (simp; omega) | omega)
        have kc11_0_0 := q.1
        have kc11_0_1 := q.2.1
        have kf11_0_0 := q.2.2.1
        have kf11_0_1 := q.2.2.2.1
        have kl11_0 := q.2.2.2.2.1
        have kn11_0 := q.2.2.2.2.2.1
        have km11_0 := q.2.2.2.2.2.2
        clear q
        have q := keep2 h11 (b := b1) (by first | (simp; done) | (simp; omega) | omega)
        have kc11_1_0 := q.1
        have kc11_1_1 := q.2.1
        have kf11_1_0 := q.2.2.1
        have kf11_1_1 := q.2.2.2.1
        have kl11_1 := q.2.2.2.2.1
        have kn11_1 := q.2.2.2.2.2.1
        have km11_1 := q.2.2.2.2.2.2
        clear q
        have kz11 := h11.size
        (try simp only [World.size_alloc, World.size_setCell, World.size_drew] at kz11)
        have H11 := Lib.hid h11
        clear h11
        go_simp
        refine hK'.out _ _ ⟨by go_simp, by go_simp⟩ ?_
        clear hK' K'
        refine wpAnyR_end (by kernel_rfl) (fun w12 h12 => ?_)
        (try simp only [Act.put, List.setIfInBounds_toArray, List.set_cons_zero, List.set_cons_succ])
        have q := keep2 h12 (b := w.heap.size + 2) (by first | (simp; done) | (simp; omega) | omega)
        have kc12_0_0 := q.1
        have kc12_0_1 := q.2.1
        have kf12_0_0 := q.2.2.1
        have kf12_0_1 := q.2.2.2.1
        have kl12_0 := q.2.2.2.2.1
        have kn12_0 := q.2.2.2.2.2.1
        have km12_0 := q.2.2.2.2.2.2
        clear q
        have kz12 := h12.size
        (try simp only [World.size_alloc, World.size_setCell, World.size_drew] at kz12)
        have H12 := Lib.hid h12
        clear h12
        go_wp2
        refine bodyPost_ret ?_ rfl ⟨rfl, ?_⟩
        · simp [results, Try.results33, go_sem, kc12_0_0, kc12_0_1, kl12_0, kc11_0_0, kc11_0_1, kl11_0, kc10_0_0, kc10_0_1, kl10_0, kc9_0_0, kc9_0_1, kl9_0, kc8_0_0, kc8_0_1, kl8_0, kc7_0_0, kc7_0_1, kl7_0, kc6_2_0, kc6_2_1, kl6_2, kc5_2_0, kc5_2_1, kl5_2, e20, e21, j1, j2, j3, j4, l2, kc4_2_0, kc4_2_1, kl4_2]
        · (show Rel _ _; repeat (first | with_reducible exact Rel.refl _ | with_reducible refine Rel.alloc ?_ _ | with_reducible refine Rel.setCell ?_ (by first | (simp; done) | (simp; omega) | omega) _ | with_reducible refine Rel.trans ?_ H12.out | with_reducible refine Rel.trans ?_ H11.out | with_reducible refine Rel.trans ?_ H10.out | with_reducible refine Rel.trans ?_ H9.out | with_reducible refine Rel.trans ?_ H8.out | with_reducible refine Rel.trans ?_ H7.out | with_reducible refine Rel.trans ?_ H6.out | with_reducible refine Rel.trans ?_ H5.out | with_reducible refine Rel.trans ?_ H4.out | with_reducible exact HA.out))
      · go_wp2_with fail
        with_reducible refine (RM.out _).mono ?_
        rintro e w7 ⟨rfl, h7⟩
        have q := keep2 h7 (b := w.heap.size + 2) (by first | (simp; done) | (simp; omega) | omega)
        have kc7_0_0 := q.1
        have kc7_0_1 := q.2.1
        have kf7_0_0 := q.2.2.1
        have kf7_0_1 := q.2.2.2.1
        have kl7_0 := q.2.2.2.2.1
        have kn7_0 := q.2.2.2.2.2.1
        have km7_0 := q.2.2.2.2.2.2
        clear q
        have q := keep2 h7 (b := b1) (by first | (simp; done) | (simp; omega) | omega)
        have kc7_1_0 := q.1
        have kc7_1_1 := q.2.1
        have kf7_1_0 := q.2.2.1
        have kf7_1_1 := q.2.2.2.1
        have kl7_1 := q.2.2.2.2.1
        have kn7_1 := q.2.2.2.2.2.1
        have km7_1 := q.2.2.2.2.2.2
        clear q
        have kz7 := h7.size
        (try simp only [World.size_alloc, World.size_setCell, World.size_drew] at kz7)
        have H7 := Lib.hid h7
        clear h7
        go_wp2_with fail
        with_reducible refine (G.out _).mono ?_
        rintro e w8 ⟨rfl, h8⟩
        have q := keep2 h8 (b := w.heap.size + 2) (by first | (simp; done) | (simp; omega) | omega)
        have kc8_0_0 := q.1
        have kc8_0_1 := q.2.1
        have kf8_0_0 := q.2.2.1
        have kf8_0_1 := q.2.2.2.1
        have kl8_0 := q.2.2.2.2.1
        have kn8_0 := q.2.2.2.2.2.1
        have km8_0 := q.2.2.2.2.2.2
        clear q
        have q := keep2 h8 (b := b1) (by first | (simp; done) | (simp; omega) | omega)
        have kc8_1_0 := q.1
        have kc8_1_1 := q.2.1
        have kf8_1_0 := q.2.2.1
        have kf8_1_1 := q.2.2.2.1
        have kl8_1 := q.2.2.2.2.1
        have kn8_1 := q.2.2.2.2.2.1
        have km8_1 := q.2.2.2.2.2.2
        clear q
        have kz8 := h8.size
        (try simp only [World.size_alloc, World.size_setCell, World.size_drew] at kz8)
        have H8 := Lib.hid h8
        clear h8
        go_wp2_with fail
        refine wp_region_calm (fun _ w' => w'.cell? { block := b1, off := 0 } = some (.int .u64 Xh) ∧ w'.cell? { block := b1, off := 1 } = some (.int .u64 Xl)) (fun _ => false) [0, 1, 2, 3, 4, 5, 6, 7, 8, 9, 10] 2 (by kernel_rfl) (by kernel_rfl) ?hst ?hS0 (fun w0 h0 => ?_)
        case hst => exact fun _ _ _ h r => ⟨r.cell h.1, r.cell h.2⟩
        case hS0 => exact ⟨by go_simp, by go_simp⟩
        iterate 3
          refine wpCalm_go rfl (by kernel_rfl) (fun K hK => ?_)
          apply Exists.intro
          refine ⟨fun M w hM hS => ?_, hK _ ?_⟩
          · have c1 := hS.1
            have c2 := hS.2
            unfold calmAt
            go_simp
            exact ⟨rfl, Rel.refl _⟩
          clear hK K
        refine wpCalm_go rfl (by kernel_rfl) (fun K hK => ?_)
        apply Exists.intro
        refine ⟨fun M w hM hS => ?_, hK _ ?_⟩
        · unfold calmAt
          go_simp
          with_reducible refine (OV.out _).mono ?_
          rintro e w1 ⟨rfl, hb⟩
          exact ⟨rfl, hb⟩
        clear hK K
        iterate 4
          refine wpCalm_go rfl (by kernel_rfl) (fun K hK => ?_)
          apply Exists.intro
          refine ⟨fun M w hM hS => ?_, hK _ ?_⟩
          · have c1 := hS.1
            have c2 := hS.2
            unfold calmAt
            go_simp
            exact ⟨rfl, Rel.refl _⟩
          clear hK K
        refine wpCalm_go rfl (by kernel_rfl) (fun K hK => ?_)
        apply Exists.intro
        refine ⟨fun M w hM hS => ?_, hK _ ?_⟩
        · unfold calmAt
          go_simp
          with_reducible refine (WI.out _).mono ?_
          rintro e w1 ⟨rfl, hb⟩
          exact ⟨rfl, hb⟩
        clear hK K
        iterate 2
          refine wpCalm_go rfl (by kernel_rfl) (fun K hK => ?_)
          apply Exists.intro
          refine ⟨fun M w hM hS => ?_, hK _ ?_⟩
          · unfold calmAt
            go_simp
            exact ⟨rfl, Rel.refl _⟩
          clear hK K
        refine wpCalm_nil ?_
        have h9 := h0
        clear h0
        have q := keep2 h9 (b := w.heap.size + 2) (by first | (simp; done) | (simp; omega) | omega)
        have kc9_0_0 := q.1
        have kc9_0_1 := q.2.1
        have kf9_0_0 := q.2.2.1
        have kf9_0_1 := q.2.2.2.1
        have kl9_0 := q.2.2.2.2.1
        have kn9_0 := q.2.2.2.2.2.1
        have km9_0 := q.2.2.2.2.2.2
        clear q
        have q := keep2 h9 (b := b1) (by first | (simp; done) | (simp; omega) | omega)
        have kc9_1_0 := q.1
        have kc9_1_1 := q.2.1
        have kf9_1_0 := q.2.2.1
        have kf9_1_1 := q.2.2.2.1
        have kl9_1 := q.2.2.2.2.1
        have kn9_1 := q.2.2.2.2.2.1
        have km9_1 := q.2.2.2.2.2.2
        clear q
        have kz9 := h9.size
        (try simp only [World.size_alloc, World.size_setCell, World.size_drew] at kz9)
        have H9 := Lib.hid h9
        clear h9
        refine wpAnyR_ready (rs := [11]) (by kernel_rfl) (by simp) (AllR.cons rfl (fun w10 h10 K' hK' => ?_) AllR.nil)
        have q := keep2 h10 (b := w.heap.size + 2) (by first | (simp; done) | (simp; omega) | omega)
        have kc10_0_0 := q.1
        have kc10_0_1 := q.2.1
        have kf10_0_0 := q.2.2.1
        have kf10_0_1 := q.2.2.2.1
        have kl10_0 := q.2.2.2.2.1
        have kn10_0 := q.2.2.2.2.2.1
        have km10_0 := q.2.2.2.2.2.2
        clear q
        have q := keep2 h10 (b := b1) (by first | (simp; done) | (simp; omega) | omega)
        have kc10_1_0 := q.1
        have kc10_1_1 := q.2.1
        have kf10_1_0 := q.2.2.1
        have kf10_1_1 := q.2.2.2.1
        have kl10_1 := q.2.2.2.2.1
        have kn10_1 := q.2.2.2.2.2.1
        have km10_1 := q.2.2.2.2.2.2
        clear q
        have kz10 := h10.size
        (try simp only [World.size_alloc, World.size_setCell, World.size_drew] at kz10)
        have H10 := Lib.hid h10
        clear h10
        go_simp
        refine hK'.out _ _ ⟨by go_simp, by go_simp⟩ ?_
        clear hK' K'
        refine wpAnyR_ready (rs := [12]) (by kernel_rfl) (by simp) (AllR.cons rfl (fun w11 h11 K' hK' => ?_) AllR.nil)
        have q := keep2 h11 (b := w.heap.size + 2) (by first | (simp; done) | (simp; omega) | omega)
        have kc11_0_0 := q.1
        have kc11_0_1 := q.2.1
        have kf11_0_0 := q.2.2.1
        have kf11_0_1 := q.2.2.2.1
        have kl11_0 := q.2.2.2.2.1
        have kn11_0 := q.2.2.2.2.2.1
        have km11_0 := q.2.2.2.2.2.2
        clear q
        have q := keep2 h11 (b := b1) (by first | (simp; done) | (simp; omega) | omega)
        have kc11_1_0 := q.1
        have kc11_1_1 := q.2.1
        have kf11_1_0 := q.2.2.1
        have kf11_1_1 := q.2.2.2.1
        have kl11_1 := q.2.2.2.2.1
        have kn11_1 := q.2.2.2.2.2.1
        have km11_1 := q.2.2.2.2.2.2
        clear q
        have kz11 := h11.size
        (try simp only [World.size_alloc, World.size_setCell, World.size_drew] at kz11)
        have H11 := Lib.hid h11
        clear h11
        go_simp
        refine hK'.out _ _ ⟨by go_simp, by go_simp⟩ ?_
        clear hK' K'
        refine wpAnyR_end (by kernel_rfl) (fun w12 h12 => ?_)
        (try simp only [Act.put, List.setIfInBounds_toArray, List.set_cons_zero, List.set_cons_succ])
        have q := keep2 h12 (b := w.heap.size + 2) (by first | (simp; done) | (simp; omega) | omega)
        have kc12_0_0 := q.1
        have kc12_0_1 := q.2.1
        have kf12_0_0 := q.2.2.1
        have kf12_0_1 := q.2.2.2.1
        have kl12_0 := q.2.2.2.2.1
        have kn12_0 := q.2.2.2.2.2.1
        have km12_0 := q.2.2.2.2.2.2
        clear q
        have kz12 := h12.size
        (try simp only [World.size_alloc, World.size_setCell, World.size_drew] at kz12)
        have H12 := Lib.hid h12
        clear h12
        go_wp2
        refine bodyPost_ret ?_ rfl ⟨rfl, ?_⟩
        · simp [results, Try.results33, go_sem, kc12_0_0, kc12_0_1, kl12_0, kc11_0_0, kc11_0_1, kl11_0, kc10_0_0, kc10_0_1, kl10_0, kc9_0_0, kc9_0_1, kl9_0, kc8_0_0, kc8_0_1, kl8_0, kc7_0_0, kc7_0_1, kl7_0, kc6_2_0, kc6_2_1, kl6_2, kc5_2_0, kc5_2_1, kl5_2, e20, e21, j1, j2, j3, j4, l2, kc4_2_0, kc4_2_1, kl4_2]
        · (show Rel _ _; repeat (first | with_reducible exact Rel.refl _ | with_reducible refine Rel.alloc ?_ _ | with_reducible refine Rel.setCell ?_ (by first | (simp; done) | (simp; omega) | omega) _ | with_reducible refine Rel.trans ?_ H12.out | with_reducible refine Rel.trans ?_ H11.out | with_reducible refine Rel.trans ?_ H10.out | with_reducible refine Rel.trans ?_ H9.out | with_reducible refine Rel.trans ?_ H8.out | with_reducible refine Rel.trans ?_ H7.out | with_reducible refine Rel.trans ?_ H6.out | with_reducible refine Rel.trans ?_ H5.out | with_reducible refine Rel.trans ?_ H4.out | with_reducible exact HA.out))

end Go.Proofs.Ytdhfecaoadnogaa


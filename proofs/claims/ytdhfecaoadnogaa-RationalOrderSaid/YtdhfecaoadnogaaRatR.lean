/- Contracts of Compare on both sides and of order. No conditions but those printed. -/
import Derived.Test.YtdhfecaoadnogaaRatL
namespace Go.Proofs.Ytdhfecaoadnogaa
open Go.RowKit Frac

attribute [local go_sem] calmUpon
set_option linter.unusedSimpArgs false
set_option linter.unusedVariables false

set_option maxHeartbeats 12800000 in
theorem cmp_core (a b c d R : Int) (r1 r2 : Bool) (A B C D xh xl yh yl : Nat) (w : World)
    (V1 : Hid (∀ w, Calls Try.prog 18 #[.agg #[.int .i64 a, .int .i64 b]] w fun e w' => e = .returned (.bool true) ∧ Rel w w'))
    (V2 : Hid (∀ w, Calls Try.prog 18 #[.agg #[.int .i64 c, .int .i64 d]] w fun e w' => e = .returned (.bool true) ∧ Rel w w'))
    (S1 : Hid (∀ w, Calls Try.prog 37 #[.int .i64 a] w fun e w' => e = .returned (.int .u64 A) ∧ w = w'))
    (S2 : Hid (∀ w, Calls Try.prog 37 #[.int .i64 b] w fun e w' => e = .returned (.int .u64 B) ∧ w = w'))
    (S3 : Hid (∀ w, Calls Try.prog 37 #[.int .i64 c] w fun e w' => e = .returned (.int .u64 C) ∧ w = w'))
    (S4 : Hid (∀ w, Calls Try.prog 37 #[.int .i64 d] w fun e w' => e = .returned (.int .u64 D) ∧ w = w'))
    (T1 : Hid (∀ w, Calls Try.prog 46 #[.int .u64 A, .int .u64 D] w fun e w' => e = .returned (.agg #[.int .u64 xh, .int .u64 xl]) ∧ Rel w w'))
    (T2 : Hid (∀ w, Calls Try.prog 46 #[.int .u64 C, .int .u64 B] w fun e w' => e = .returned (.agg #[.int .u64 yh, .int .u64 yl]) ∧ Rel w w'))
    (hway : (decide (a < 0) = true ∧ decide (c < 0) = true ∧ Hid (∀ w, Calls Try.prog 47 #[.agg #[.int .u64 yh, .int .u64 yl], .agg #[.int .u64 xh, .int .u64 xl]] w fun e w' => e = .returned (.bool r1) ∧ Rel w w') ∧ Hid (∀ w, Calls Try.prog 47 #[.agg #[.int .u64 xh, .int .u64 xl], .agg #[.int .u64 yh, .int .u64 yl]] w fun e w' => e = .returned (.bool r2) ∧ Rel w w')) ∨
      (decide (a < 0) = false ∧ decide (c < 0) = false ∧ Hid (∀ w, Calls Try.prog 47 #[.agg #[.int .u64 xh, .int .u64 xl], .agg #[.int .u64 yh, .int .u64 yl]] w fun e w' => e = .returned (.bool r1) ∧ Rel w w') ∧ Hid (∀ w, Calls Try.prog 47 #[.agg #[.int .u64 yh, .int .u64 yl], .agg #[.int .u64 xh, .int .u64 xl]] w fun e w' => e = .returned (.bool r2) ∧ Rel w w')))
    (hres : (r1 = true ∧ R = -1) ∨ (r1 = false ∧ r2 = true ∧ R = 1) ∨ (r1 = false ∧ r2 = false ∧ R = 0)) :
    Calls Try.prog 31 #[.agg #[.int .i64 a, .int .i64 b], .agg #[.int .i64 c, .int .i64 d]] w (ZRes R 0 w) := by
  unfold ZRes
  have HR := Lib.hid hres
  clear hres
  rcases hway with ⟨z1, z2, L1, L2⟩ | ⟨z1, z2, L1, L2⟩
  · go_enter Try.func31, Try.ntmps31
    go_wp2_with fail
    with_reducible refine (V1.out _).mono ?_
    rintro e w1 ⟨rfl, h1⟩
    have q := keep2 h1 (b := w.heap.size) (by first | (simp; done) | (simp; omega) | omega)
    have kc1_0_0 := q.1
    have kc1_0_1 := q.2.1
    have kf1_0_0 := q.2.2.1
    have kf1_0_1 := q.2.2.2.1
    have kl1_0 := q.2.2.2.2.1
    have kn1_0 := q.2.2.2.2.2.1
    have km1_0 := q.2.2.2.2.2.2
    clear q
    have q := keep2 h1 (b := w.heap.size + 1) (by first | (simp; done) | (simp; omega) | omega)
    have kc1_1_0 := q.1
    have kc1_1_1 := q.2.1
    have kf1_1_0 := q.2.2.1
    have kf1_1_1 := q.2.2.2.1
    have kl1_1 := q.2.2.2.2.1
    have kn1_1 := q.2.2.2.2.2.1
    have km1_1 := q.2.2.2.2.2.2
    clear q
    have kz1 := h1.size
    (try simp only [World.size_alloc, World.size_setCell, World.size_drew] at kz1)
    have H1 := Lib.hid h1
    clear h1
    go_wp2_with fail
    with_reducible refine (V2.out _).mono ?_
    rintro e w2 ⟨rfl, h2⟩
    have q := keep2 h2 (b := w.heap.size) (by first | (simp; done) | (simp; omega) | omega)
    have kc2_0_0 := q.1
    have kc2_0_1 := q.2.1
    have kf2_0_0 := q.2.2.1
    have kf2_0_1 := q.2.2.2.1
    have kl2_0 := q.2.2.2.2.1
    have kn2_0 := q.2.2.2.2.2.1
    have km2_0 := q.2.2.2.2.2.2
    clear q
    have q := keep2 h2 (b := w.heap.size + 1) (by first | (simp; done) | (simp; omega) | omega)
    have kc2_1_0 := q.1
    have kc2_1_1 := q.2.1
    have kf2_1_0 := q.2.2.1
    have kf2_1_1 := q.2.2.2.1
    have kl2_1 := q.2.2.2.2.1
    have kn2_1 := q.2.2.2.2.2.1
    have km2_1 := q.2.2.2.2.2.2
    clear q
    have kz2 := h2.size
    (try simp only [World.size_alloc, World.size_setCell, World.size_drew] at kz2)
    have H2 := Lib.hid h2
    clear h2
    go_wp2_with fail
    refine wp_region_calm (fun _ w' => w'.cell? { block := w.heap.size, off := 0 } = some (.int .i64 a) ∧ w'.cell? { block := w.heap.size, off := 1 } = some (.int .i64 b) ∧ w'.cell? { block := w.heap.size + 1, off := 0 } = some (.int .i64 c) ∧ w'.cell? { block := w.heap.size + 1, off := 1 } = some (.int .i64 d)) (fun _ => false) [0, 1, 2, 3, 4, 5, 6, 7, 8, 9, 10, 11, 12, 13] 4 (by kernel_rfl) (by kernel_rfl) ?hst ?hS0 (fun w0 h0 => ?_)
    case hst => exact fun _ _ _ h r => ⟨r.cell h.1, r.cell h.2.1, r.cell h.2.2.1, r.cell h.2.2.2⟩
    case hS0 => exact ⟨by go_simp, by go_simp, by go_simp, by go_simp⟩
    iterate 2
      refine wpCalm_go rfl (by kernel_rfl) (fun K hK => ?_)
      apply Exists.intro
      refine ⟨fun M w hM hS => ?_, hK _ ?_⟩
      · have c1 := hS.1
        have c2 := hS.2.1
        have c3 := hS.2.2.1
        have c4 := hS.2.2.2
        unfold calmAt
        go_simp
        exact ⟨rfl, Rel.refl _⟩
      clear hK K
    refine wpCalm_go rfl (by kernel_rfl) (fun K hK => ?_)
    apply Exists.intro
    refine ⟨fun M w hM hS => ?_, hK _ ?_⟩
    · have c1 := hS.1
      have c2 := hS.2.1
      have c3 := hS.2.2.1
      have c4 := hS.2.2.2
      unfold calmAt
      go_simp
      with_reducible refine (S1.out _).mono ?_
      rintro e w1 ⟨rfl, rfl⟩
      exact ⟨rfl, Rel.refl _⟩
    clear hK K
    iterate 2
      refine wpCalm_go rfl (by kernel_rfl) (fun K hK => ?_)
      apply Exists.intro
      refine ⟨fun M w hM hS => ?_, hK _ ?_⟩
      · have c1 := hS.1
        have c2 := hS.2.1
        have c3 := hS.2.2.1
        have c4 := hS.2.2.2
        unfold calmAt
        go_simp
        exact ⟨rfl, Rel.refl _⟩
      clear hK K
    refine wpCalm_go rfl (by kernel_rfl) (fun K hK => ?_)
    apply Exists.intro
    refine ⟨fun M w hM hS => ?_, hK _ ?_⟩
    · have c1 := hS.1
      have c2 := hS.2.1
      have c3 := hS.2.2.1
      have c4 := hS.2.2.2
      unfold calmAt
      go_simp
      with_reducible refine (S4.out _).mono ?_
      rintro e w1 ⟨rfl, rfl⟩
      exact ⟨rfl, Rel.refl _⟩
    clear hK K
    refine wpCalm_go rfl (by kernel_rfl) (fun K hK => ?_)
    apply Exists.intro
    refine ⟨fun M w hM hS => ?_, hK _ ?_⟩
    · unfold calmAt
      go_simp
      with_reducible refine (T1.out _).mono ?_
      rintro e w1 ⟨rfl, hb⟩
      exact ⟨rfl, hb⟩
    clear hK K
    iterate 2
      refine wpCalm_go rfl (by kernel_rfl) (fun K hK => ?_)
      apply Exists.intro
      refine ⟨fun M w hM hS => ?_, hK _ ?_⟩
      · have c1 := hS.1
        have c2 := hS.2.1
        have c3 := hS.2.2.1
        have c4 := hS.2.2.2
        unfold calmAt
        go_simp
        exact ⟨rfl, Rel.refl _⟩
      clear hK K
    refine wpCalm_go rfl (by kernel_rfl) (fun K hK => ?_)
    apply Exists.intro
    refine ⟨fun M w hM hS => ?_, hK _ ?_⟩
    · have c1 := hS.1
      have c2 := hS.2.1
      have c3 := hS.2.2.1
      have c4 := hS.2.2.2
      unfold calmAt
      go_simp
      with_reducible refine (S3.out _).mono ?_
      rintro e w1 ⟨rfl, rfl⟩
      exact ⟨rfl, Rel.refl _⟩
    clear hK K
    iterate 2
      refine wpCalm_go rfl (by kernel_rfl) (fun K hK => ?_)
      apply Exists.intro
      refine ⟨fun M w hM hS => ?_, hK _ ?_⟩
      · have c1 := hS.1
        have c2 := hS.2.1
        have c3 := hS.2.2.1
        have c4 := hS.2.2.2
        unfold calmAt
        go_simp
        exact ⟨rfl, Rel.refl _⟩
      clear hK K
    refine wpCalm_go rfl (by kernel_rfl) (fun K hK => ?_)
    apply Exists.intro
    refine ⟨fun M w hM hS => ?_, hK _ ?_⟩
    · have c1 := hS.1
      have c2 := hS.2.1
      have c3 := hS.2.2.1
      have c4 := hS.2.2.2
      unfold calmAt
      go_simp
      with_reducible refine (S2.out _).mono ?_
      rintro e w1 ⟨rfl, rfl⟩
      exact ⟨rfl, Rel.refl _⟩
    clear hK K
    refine wpCalm_go rfl (by kernel_rfl) (fun K hK => ?_)
    apply Exists.intro
    refine ⟨fun M w hM hS => ?_, hK _ ?_⟩
    · unfold calmAt
      go_simp
      with_reducible refine (T2.out _).mono ?_
      rintro e w1 ⟨rfl, hb⟩
      exact ⟨rfl, hb⟩
    clear hK K
    refine wpCalm_nil ?_
    have q := keep2 h0 (b := w.heap.size) (by first | (simp; done) | (simp; omega) | omega)
    have kc0_0_0 := q.1
    have kc0_0_1 := q.2.1
    have kf0_0_0 := q.2.2.1
    have kf0_0_1 := q.2.2.2.1
    have kl0_0 := q.2.2.2.2.1
    have kn0_0 := q.2.2.2.2.2.1
    have km0_0 := q.2.2.2.2.2.2
    clear q
    have q := keep2 h0 (b := w.heap.size + 1) (by first | (simp; done) | (simp; omega) | omega)
    have kc0_1_0 := q.1
    have kc0_1_1 := q.2.1
    have kf0_1_0 := q.2.2.1
    have kf0_1_1 := q.2.2.2.1
    have kl0_1 := q.2.2.2.2.1
    have kn0_1 := q.2.2.2.2.2.1
    have km0_1 := q.2.2.2.2.2.2
    clear q
    have kz0 := h0.size
    (try simp only [World.size_alloc, World.size_setCell, World.size_drew] at kz0)
    have H0 := Lib.hid h0
    clear h0
    (try simp only [Act.put, List.setIfInBounds_toArray, List.set_cons_zero, List.set_cons_succ])
    refine wpAnyR_two (d1 := 6) (d2 := 7) (W := w2) (u0 := .int .u64 xh) (u1 := .int .u64 xl) (v0 := .int .u64 yh) (v1 := .int .u64 yl) ?_ ?_
    · refine wpAnyR_ready (rs := [14, 15]) (by kernel_rfl) (by simp) (AllR.cons rfl (fun w81 h81 K' hK' => ?_) (AllR.cons rfl (fun w81 h81 K' hK' => ?_) AllR.nil))
      · have q := keep2 h81 (b := w.heap.size) (by first | (simp; done) | (simp; omega) | omega)
        have kc81_0_0 := q.1
        have kc81_0_1 := q.2.1
        have kf81_0_0 := q.2.2.1
        have kf81_0_1 := q.2.2.2.1
        have kl81_0 := q.2.2.2.2.1
        have kn81_0 := q.2.2.2.2.2.1
        have km81_0 := q.2.2.2.2.2.2
        clear q
        have q := keep2 h81 (b := w.heap.size + 1) (by first | (simp; done) | (simp; omega) | omega)
        have kc81_1_0 := q.1
        have kc81_1_1 := q.2.1
        have kf81_1_0 := q.2.2.1
        have kf81_1_1 := q.2.2.2.1
        have kl81_1 := q.2.2.2.2.1
        have kn81_1 := q.2.2.2.2.2.1
        have km81_1 := q.2.2.2.2.2.2
        clear q
        have kz81 := h81.size
        (try simp only [World.size_alloc, World.size_setCell, World.size_drew] at kz81)
        have H81 := Lib.hid h81
        clear h81
        go_simp
        refine hK'.out _ _ (by first | trivial | exact ⟨by go_simp, by go_simp, by go_simp, by go_simp⟩) ?_
        clear hK' K'
        refine wpAnyR_ready (rs := [15]) (by kernel_rfl) (by simp) (AllR.cons rfl (fun w82 h82 K' hK' => ?_) AllR.nil)
        have q := keep2 h82 (b := w81.heap.size) (by first | (simp; done) | (simp; omega) | omega)
        have kc82_0_0 := q.1
        have kc82_0_1 := q.2.1
        have kf82_0_0 := q.2.2.1
        have kf82_0_1 := q.2.2.2.1
        have kl82_0 := q.2.2.2.2.1
        have kn82_0 := q.2.2.2.2.2.1
        have km82_0 := q.2.2.2.2.2.2
        clear q
        have q := keep2 h82 (b := w.heap.size) (by first | (simp; done) | (simp; omega) | omega)
        have kc82_1_0 := q.1
        have kc82_1_1 := q.2.1
        have kf82_1_0 := q.2.2.1
        have kf82_1_1 := q.2.2.2.1
        have kl82_1 := q.2.2.2.2.1
        have kn82_1 := q.2.2.2.2.2.1
        have km82_1 := q.2.2.2.2.2.2
        clear q
        have q := keep2 h82 (b := w.heap.size + 1) (by first | (simp; done) | (simp; omega) | omega)
        have kc82_2_0 := q.1
        have kc82_2_1 := q.2.1
        have kf82_2_0 := q.2.2.1
        have kf82_2_1 := q.2.2.2.1
        have kl82_2 := q.2.2.2.2.1
        have kn82_2 := q.2.2.2.2.2.1
        have km82_2 := q.2.2.2.2.2.2
        clear q
        have kz82 := h82.size
        (try simp only [World.size_alloc, World.size_setCell, World.size_drew] at kz82)
        have H82 := Lib.hid h82
        clear h82
        go_simp
        refine hK'.out _ _ (by first | trivial | exact ⟨by go_simp, by go_simp, by go_simp, by go_simp⟩) ?_
        clear hK' K'
        refine wpAnyR_ready (rs := [16]) (by kernel_rfl) (by simp) (AllR.cons rfl (fun w83 h83 K' hK' => ?_) AllR.nil)
        have q := keep2 h83 (b := w81.heap.size) (by first | (simp; done) | (simp; omega) | omega)
        have kc83_0_0 := q.1
        have kc83_0_1 := q.2.1
        have kf83_0_0 := q.2.2.1
        have kf83_0_1 := q.2.2.2.1
        have kl83_0 := q.2.2.2.2.1
        have kn83_0 := q.2.2.2.2.2.1
        have km83_0 := q.2.2.2.2.2.2
        clear q
        have q := keep2 h83 (b := w82.heap.size) (by first | (simp; done) | (simp; omega) | omega)
        have kc83_1_0 := q.1
        have kc83_1_1 := q.2.1
        have kf83_1_0 := q.2.2.1
        have kf83_1_1 := q.2.2.2.1
        have kl83_1 := q.2.2.2.2.1
        have kn83_1 := q.2.2.2.2.2.1
        have km83_1 := q.2.2.2.2.2.2
        clear q
        have q := keep2 h83 (b := w.heap.size) (by first | (simp; done) | (simp; omega) | omega)
        have kc83_2_0 := q.1
        have kc83_2_1 := q.2.1
        have kf83_2_0 := q.2.2.1
        have kf83_2_1 := q.2.2.2.1
        have kl83_2 := q.2.2.2.2.1
        have kn83_2 := q.2.2.2.2.2.1
        have km83_2 := q.2.2.2.2.2.2
        clear q
        have q := keep2 h83 (b := w.heap.size + 1) (by first | (simp; done) | (simp; omega) | omega)
        have kc83_3_0 := q.1
        have kc83_3_1 := q.2.1
        have kf83_3_0 := q.2.2.1
        have kf83_3_1 := q.2.2.2.1
        have kl83_3 := q.2.2.2.2.1
        have kn83_3 := q.2.2.2.2.2.1
        have km83_3 := q.2.2.2.2.2.2
        clear q
        have kz83 := h83.size
        (try simp only [World.size_alloc, World.size_setCell, World.size_drew] at kz83)
        have H83 := Lib.hid h83
        clear h83
        go_simp
        refine hK'.out _ _ (by first | trivial | exact ⟨by go_simp, by go_simp, by go_simp, by go_simp⟩) ?_
        clear hK' K'
        refine wpAnyR_ready (rs := [17]) (by kernel_rfl) (by simp) (AllR.cons rfl (fun w84 h84 K' hK' => ?_) AllR.nil)
        have q := keep2 h84 (b := w81.heap.size) (by first | (simp; done) | (simp; omega) | omega)
        have kc84_0_0 := q.1
        have kc84_0_1 := q.2.1
        have kf84_0_0 := q.2.2.1
        have kf84_0_1 := q.2.2.2.1
        have kl84_0 := q.2.2.2.2.1
        have kn84_0 := q.2.2.2.2.2.1
        have km84_0 := q.2.2.2.2.2.2
        clear q
        have q := keep2 h84 (b := w82.heap.size) (by first | (simp; done) | (simp; omega) | omega)
        have kc84_1_0 := q.1
        have kc84_1_1 := q.2.1
        have kf84_1_0 := q.2.2.1
        have kf84_1_1 := q.2.2.2.1
        have kl84_1 := q.2.2.2.2.1
        have kn84_1 := q.2.2.2.2.2.1
        have km84_1 := q.2.2.2.2.2.2
        clear q
        have q := keep2 h84 (b := w.heap.size) (by first | (simp; done) | (simp; omega) | omega)
        have kc84_2_0 := q.1
        have kc84_2_1 := q.2.1
        have kf84_2_0 := q.2.2.1
        have kf84_2_1 := q.2.2.2.1
        have kl84_2 := q.2.2.2.2.1
        have kn84_2 := q.2.2.2.2.2.1
        have km84_2 := q.2.2.2.2.2.2
        clear q
        have q := keep2 h84 (b := w.heap.size + 1) (by first | (simp; done) | (simp; omega) | omega)
        have kc84_3_0 := q.1
        have kc84_3_1 := q.2.1
        have kf84_3_0 := q.2.2.1
        have kf84_3_1 := q.2.2.2.1
        have kl84_3 := q.2.2.2.2.1
        have kn84_3 := q.2.2.2.2.2.1
        have km84_3 := q.2.2.2.2.2.2
        clear q
        have kz84 := h84.size
        (try simp only [World.size_alloc, World.size_setCell, World.size_drew] at kz84)
        have H84 := Lib.hid h84
        clear h84
        go_simp
        refine hK'.out _ _ (by first | trivial | exact ⟨by go_simp, by go_simp, by go_simp, by go_simp⟩) ?_
        clear hK' K'
        refine wpAnyR_end (by kernel_rfl) (fun w85 h85 => ?_)
        have q := keep2 h85 (b := w81.heap.size) (by first | (simp; done) | (simp; omega) | omega)
        have kc85_0_0 := q.1
        have kc85_0_1 := q.2.1
        have kf85_0_0 := q.2.2.1
        have kf85_0_1 := q.2.2.2.1
        have kl85_0 := q.2.2.2.2.1
        have kn85_0 := q.2.2.2.2.2.1
        have km85_0 := q.2.2.2.2.2.2
        clear q
        have q := keep2 h85 (b := w82.heap.size) (by first | (simp; done) | (simp; omega) | omega)
        have kc85_1_0 := q.1
        have kc85_1_1 := q.2.1
        have kf85_1_0 := q.2.2.1
        have kf85_1_1 := q.2.2.2.1
        have kl85_1 := q.2.2.2.2.1
        have kn85_1 := q.2.2.2.2.2.1
        have km85_1 := q.2.2.2.2.2.2
        clear q
        have kz85 := h85.size
        (try simp only [World.size_alloc, World.size_setCell, World.size_drew] at kz85)
        have H85 := Lib.hid h85
        clear h85
        exact ⟨rfl, w81.heap.size, w82.heap.size, by first | rfl | simp only [Act.put, List.setIfInBounds_toArray, List.set_cons_zero, List.set_cons_succ], by (repeat (first | with_reducible exact Rel.refl _ | with_reducible refine Rel.alloc ?_ _ | with_reducible refine Rel.setCell ?_ (by first | (simp; done) | (simp; omega) | omega) _ | with_reducible refine Rel.drew ?_ | with_reducible refine Rel.trans ?_ H85.out | with_reducible refine Rel.trans ?_ H84.out | with_reducible refine Rel.trans ?_ H83.out | with_reducible refine Rel.trans ?_ H82.out | with_reducible refine Rel.trans ?_ H81.out | with_reducible exact H0.out)), by first | (simp; done) | (simp; omega) | omega, by first | (simp; done) | (simp; omega) | omega, by first | (simp; done) | (simp; omega) | omega, by first | assumption | (simp; omega), by first | assumption | (simp; omega), by go_simp, by go_simp, by go_simp, by go_simp, by go_simp, by go_simp, by go_simp, by go_simp⟩
      · have q := keep2 h81 (b := w.heap.size) (by first | (simp; done) | (simp; omega) | omega)
        have kc81_0_0 := q.1
        have kc81_0_1 := q.2.1
        have kf81_0_0 := q.2.2.1
        have kf81_0_1 := q.2.2.2.1
        have kl81_0 := q.2.2.2.2.1
        have kn81_0 := q.2.2.2.2.2.1
        have km81_0 := q.2.2.2.2.2.2
        clear q
        have q := keep2 h81 (b := w.heap.size + 1) (by first | (simp; done) | (simp; omega) | omega)
        have kc81_1_0 := q.1
        have kc81_1_1 := q.2.1
        have kf81_1_0 := q.2.2.1
        have kf81_1_1 := q.2.2.2.1
        have kl81_1 := q.2.2.2.2.1
        have kn81_1 := q.2.2.2.2.2.1
        have km81_1 := q.2.2.2.2.2.2
        clear q
        have kz81 := h81.size
        (try simp only [World.size_alloc, World.size_setCell, World.size_drew] at kz81)
        have H81 := Lib.hid h81
        clear h81
        go_simp
        refine hK'.out _ _ (by first | trivial | exact ⟨by go_simp, by go_simp, by go_simp, by go_simp⟩) ?_
        clear hK' K'
        refine wpAnyR_ready (rs := [14]) (by kernel_rfl) (by simp) (AllR.cons rfl (fun w82 h82 K' hK' => ?_) AllR.nil)
        have q := keep2 h82 (b := w81.heap.size) (by first | (simp; done) | (simp; omega) | omega)
        have kc82_0_0 := q.1
        have kc82_0_1 := q.2.1
        have kf82_0_0 := q.2.2.1
        have kf82_0_1 := q.2.2.2.1
        have kl82_0 := q.2.2.2.2.1
        have kn82_0 := q.2.2.2.2.2.1
        have km82_0 := q.2.2.2.2.2.2
        clear q
        have q := keep2 h82 (b := w.heap.size) (by first | (simp; done) | (simp; omega) | omega)
        have kc82_1_0 := q.1
        have kc82_1_1 := q.2.1
        have kf82_1_0 := q.2.2.1
        have kf82_1_1 := q.2.2.2.1
        have kl82_1 := q.2.2.2.2.1
        have kn82_1 := q.2.2.2.2.2.1
        have km82_1 := q.2.2.2.2.2.2
        clear q
        have q := keep2 h82 (b := w.heap.size + 1) (by first | (simp; done) | (simp; omega) | omega)
        have kc82_2_0 := q.1
        have kc82_2_1 := q.2.1
        have kf82_2_0 := q.2.2.1
        have kf82_2_1 := q.2.2.2.1
        have kl82_2 := q.2.2.2.2.1
        have kn82_2 := q.2.2.2.2.2.1
        have km82_2 := q.2.2.2.2.2.2
        clear q
        have kz82 := h82.size
        (try simp only [World.size_alloc, World.size_setCell, World.size_drew] at kz82)
        have H82 := Lib.hid h82
        clear h82
        go_simp
        refine hK'.out _ _ (by first | trivial | exact ⟨by go_simp, by go_simp, by go_simp, by go_simp⟩) ?_
        clear hK' K'
        refine wpAnyR_ready (rs := [16]) (by kernel_rfl) (by simp) (AllR.cons rfl (fun w83 h83 K' hK' => ?_) AllR.nil)
        have q := keep2 h83 (b := w81.heap.size) (by first | (simp; done) | (simp; omega) | omega)
        have kc83_0_0 := q.1
        have kc83_0_1 := q.2.1
        have kf83_0_0 := q.2.2.1
        have kf83_0_1 := q.2.2.2.1
        have kl83_0 := q.2.2.2.2.1
        have kn83_0 := q.2.2.2.2.2.1
        have km83_0 := q.2.2.2.2.2.2
        clear q
        have q := keep2 h83 (b := w82.heap.size) (by first | (simp; done) | (simp; omega) | omega)
        have kc83_1_0 := q.1
        have kc83_1_1 := q.2.1
        have kf83_1_0 := q.2.2.1
        have kf83_1_1 := q.2.2.2.1
        have kl83_1 := q.2.2.2.2.1
        have kn83_1 := q.2.2.2.2.2.1
        have km83_1 := q.2.2.2.2.2.2
        clear q
        have q := keep2 h83 (b := w.heap.size) (by first | (simp; done) | (simp; omega) | omega)
        have kc83_2_0 := q.1
        have kc83_2_1 := q.2.1
        have kf83_2_0 := q.2.2.1
        have kf83_2_1 := q.2.2.2.1
        have kl83_2 := q.2.2.2.2.1
        have kn83_2 := q.2.2.2.2.2.1
        have km83_2 := q.2.2.2.2.2.2
        clear q
        have q := keep2 h83 (b := w.heap.size + 1) (by first | (simp; done) | (simp; omega) | omega)
        have kc83_3_0 := q.1
        have kc83_3_1 := q.2.1
        have kf83_3_0 := q.2.2.1
        have kf83_3_1 := q.2.2.2.1
        have kl83_3 := q.2.2.2.2.1
        have kn83_3 := q.2.2.2.2.2.1
        have km83_3 := q.2.2.2.2.2.2
        clear q
        have kz83 := h83.size
        (try simp only [World.size_alloc, World.size_setCell, World.size_drew] at kz83)
        have H83 := Lib.hid h83
        clear h83
        go_simp
        refine hK'.out _ _ (by first | trivial | exact ⟨by go_simp, by go_simp, by go_simp, by go_simp⟩) ?_
        clear hK' K'
        refine wpAnyR_ready (rs := [17]) (by kernel_rfl) (by simp) (AllR.cons rfl (fun w84 h84 K' hK' => ?_) AllR.nil)
        have q := keep2 h84 (b := w81.heap.size) (by first | (simp; done) | (simp; omega) | omega)
        have kc84_0_0 := q.1
        have kc84_0_1 := q.2.1
        have kf84_0_0 := q.2.2.1
        have kf84_0_1 := q.2.2.2.1
        have kl84_0 := q.2.2.2.2.1
        have kn84_0 := q.2.2.2.2.2.1
        have km84_0 := q.2.2.2.2.2.2
        clear q
        have q := keep2 h84 (b := w82.heap.size) (by first | (simp; done) | (simp; omega) | omega)
        have kc84_1_0 := q.1
        have kc84_1_1 := q.2.1
        have kf84_1_0 := q.2.2.1
        have kf84_1_1 := q.2.2.2.1
        have kl84_1 := q.2.2.2.2.1
        have kn84_1 := q.2.2.2.2.2.1
        have km84_1 := q.2.2.2.2.2.2
        clear q
        have q := keep2 h84 (b := w.heap.size) (by first | (simp; done) | (simp; omega) | omega)
        have kc84_2_0 := q.1
        have kc84_2_1 := q.2.1
        have kf84_2_0 := q.2.2.1
        have kf84_2_1 := q.2.2.2.1
        have kl84_2 := q.2.2.2.2.1
        have kn84_2 := q.2.2.2.2.2.1
        have km84_2 := q.2.2.2.2.2.2
        clear q
        have q := keep2 h84 (b := w.heap.size + 1) (by first | (simp; done) | (simp; omega) | omega)
        have kc84_3_0 := q.1
        have kc84_3_1 := q.2.1
        have kf84_3_0 := q.2.2.1
        have kf84_3_1 := q.2.2.2.1
        have kl84_3 := q.2.2.2.2.1
        have kn84_3 := q.2.2.2.2.2.1
        have km84_3 := q.2.2.2.2.2.2
        clear q
        have kz84 := h84.size
        (try simp only [World.size_alloc, World.size_setCell, World.size_drew] at kz84)
        have H84 := Lib.hid h84
        clear h84
        go_simp
        refine hK'.out _ _ (by first | trivial | exact ⟨by go_simp, by go_simp, by go_simp, by go_simp⟩) ?_
        clear hK' K'
        refine wpAnyR_end (by kernel_rfl) (fun w85 h85 => ?_)
        have q := keep2 h85 (b := w82.heap.size) (by first | (simp; done) | (simp; omega) | omega)
        have kc85_0_0 := q.1
        have kc85_0_1 := q.2.1
        have kf85_0_0 := q.2.2.1
        have kf85_0_1 := q.2.2.2.1
        have kl85_0 := q.2.2.2.2.1
        have kn85_0 := q.2.2.2.2.2.1
        have km85_0 := q.2.2.2.2.2.2
        clear q
        have q := keep2 h85 (b := w81.heap.size) (by first | (simp; done) | (simp; omega) | omega)
        have kc85_1_0 := q.1
        have kc85_1_1 := q.2.1
        have kf85_1_0 := q.2.2.1
        have kf85_1_1 := q.2.2.2.1
        have kl85_1 := q.2.2.2.2.1
        have kn85_1 := q.2.2.2.2.2.1
        have km85_1 := q.2.2.2.2.2.2
        clear q
        have kz85 := h85.size
        (try simp only [World.size_alloc, World.size_setCell, World.size_drew] at kz85)
        have H85 := Lib.hid h85
        clear h85
        exact ⟨rfl, w82.heap.size, w81.heap.size, by first | rfl | simp only [Act.put, List.setIfInBounds_toArray, List.set_cons_zero, List.set_cons_succ], by (repeat (first | with_reducible exact Rel.refl _ | with_reducible refine Rel.alloc ?_ _ | with_reducible refine Rel.setCell ?_ (by first | (simp; done) | (simp; omega) | omega) _ | with_reducible refine Rel.drew ?_ | with_reducible refine Rel.trans ?_ H85.out | with_reducible refine Rel.trans ?_ H84.out | with_reducible refine Rel.trans ?_ H83.out | with_reducible refine Rel.trans ?_ H82.out | with_reducible refine Rel.trans ?_ H81.out | with_reducible exact H0.out)), by first | (simp; done) | (simp; omega) | omega, by first | (simp; done) | (simp; omega) | omega, by first | (simp; done) | (simp; omega) | omega, by first | assumption | (simp; omega), by first | assumption | (simp; omega), by go_simp, by go_simp, by go_simp, by go_simp, by go_simp, by go_simp, by go_simp, by go_simp⟩
    intro b1 b2 wt ht
    (try simp only [Act.put, List.setIfInBounds_toArray, List.set_cons_zero, List.set_cons_succ])
    have tr := ht.rel
    have tl1 := ht.lo1
    have tl2 := ht.lo2
    have tn := ht.ne
    have ti1 := ht.in1
    have ti2 := ht.in2
    have tc1 := ht.c10
    have tc2 := ht.c11
    have tc3 := ht.c20
    have tc4 := ht.c21
    have tf1 := ht.f10
    have tf2 := ht.f11
    have tf3 := ht.f20
    have tf4 := ht.f21
    have tn' := Ne.symm tn
    have q := keep2 tr (b := w.heap.size) (by first | (simp; done) | (simp; omega) | omega)
    have kc3_0_0 := q.1
    have kc3_0_1 := q.2.1
    have kf3_0_0 := q.2.2.1
    have kf3_0_1 := q.2.2.2.1
    have kl3_0 := q.2.2.2.2.1
    have kn3_0 := q.2.2.2.2.2.1
    have km3_0 := q.2.2.2.2.2.2
    clear q
    have q := keep2 tr (b := w.heap.size + 1) (by first | (simp; done) | (simp; omega) | omega)
    have kc3_1_0 := q.1
    have kc3_1_1 := q.2.1
    have kf3_1_0 := q.2.2.1
    have kf3_1_1 := q.2.2.2.1
    have kl3_1 := q.2.2.2.2.1
    have kn3_1 := q.2.2.2.2.2.1
    have km3_1 := q.2.2.2.2.2.2
    clear q
    have kz3 := tr.size
    (try simp only [World.size_alloc, World.size_setCell, World.size_drew] at kz3)
    have H3 := Lib.hid tr
    clear tr
    have tm1 : w.heap.size + 1 < b1 := by omega
    have tm2 : w.heap.size + 1 < b2 := by omega
    have e00 : wt.cell? ⟨w.heap.size, 0, none⟩ = some (.int .i64 a) := by go_simp
    have l0 : w.heap.size < wt.heap.size := by omega
    have l1 : w.heap.size + 1 < wt.heap.size := by omega
    have m1 : w.heap.size ≤ b1 := by omega
    have m2 : w.heap.size ≤ b2 := by omega
    have j6 : b1 ≠ w.heap.size := by omega
    have j10 : b2 ≠ w.heap.size := by omega
    have HA : Hid (Rel w wt) := by
      show Rel w wt
      (repeat (first | with_reducible exact Rel.refl _ | with_reducible refine Rel.alloc ?_ _ | with_reducible refine Rel.trans ?_ H3.out | with_reducible refine Rel.trans ?_ H2.out | with_reducible refine Rel.trans ?_ H1.out))
    clear H0 H3 kc1_0_0 kc1_0_1 kf1_0_0 kf1_0_1 kl1_0 kn1_0 km1_0 kc1_1_0 kc1_1_1 kf1_1_0 kf1_1_1 kl1_1 kn1_1 km1_1 kz1 kc2_0_0 kc2_0_1 kf2_0_0 kf2_0_1 kl2_0 kn2_0 km2_0 kc2_1_0 kc2_1_1 kf2_1_0 kf2_1_1 kl2_1 kn2_1 km2_1 kz2 kc0_0_0 kc0_0_1 kf0_0_0 kf0_0_1 kl0_0 kn0_0 km0_0 kc0_1_0 kc0_1_1 kf0_1_0 kf0_1_1 kl0_1 kn0_1 km0_1 kz0 kc3_0_0 kc3_0_1 kf3_0_0 kf3_0_1 kl3_0 kn3_0 km3_0 kc3_1_0 kc3_1_1 kf3_1_0 kf3_1_1 kl3_1 kn3_1 km3_1 kz3 H1 H2
    rcases HR.out with ⟨rfl, rfl⟩ | ⟨rfl, rfl, rfl⟩ | ⟨rfl, rfl, rfl⟩
    · clear HR
      go_wp2_with fail
      with_reducible refine (L1.out _).mono ?_
      rintro e w4 ⟨rfl, h4⟩
      have q := keep2 h4 (b := b1) (by first | (simp; done) | (simp; omega) | omega)
      have kc4_0_0 := q.1
      have kc4_0_1 := q.2.1
      have kf4_0_0 := q.2.2.1
      have kf4_0_1 := q.2.2.2.1
      have kl4_0 := q.2.2.2.2.1
      have kn4_0 := q.2.2.2.2.2.1
      have km4_0 := q.2.2.2.2.2.2
      clear q
      have q := keep2 h4 (b := b2) (by first | (simp; done) | (simp; omega) | omega)
      have kc4_1_0 := q.1
      have kc4_1_1 := q.2.1
      have kf4_1_0 := q.2.2.1
      have kf4_1_1 := q.2.2.2.1
      have kl4_1 := q.2.2.2.2.1
      have kn4_1 := q.2.2.2.2.2.1
      have km4_1 := q.2.2.2.2.2.2
      clear q
      have kz4 := h4.size
      (try simp only [World.size_alloc, World.size_setCell, World.size_drew] at kz4)
      have H4 := Lib.hid h4
      clear h4
      go_wp2
      go_ret2
      exact ⟨rfl, by (show Rel _ _; repeat (first | with_reducible exact Rel.refl _ | with_reducible refine Rel.alloc ?_ _ | with_reducible refine Rel.setCell ?_ (by first | (simp; done) | (simp; omega) | omega) _ | with_reducible refine Rel.trans ?_ H4.out | with_reducible exact HA.out))⟩
    · clear HR
      go_wp2_with fail
      with_reducible refine (L1.out _).mono ?_
      rintro e w4 ⟨rfl, h4⟩
      have q := keep2 h4 (b := b1) (by first | (simp; done) | (simp; omega) | omega)
      have kc4_0_0 := q.1
      have kc4_0_1 := q.2.1
      have kf4_0_0 := q.2.2.1
      have kf4_0_1 := q.2.2.2.1
      have kl4_0 := q.2.2.2.2.1
      have kn4_0 := q.2.2.2.2.2.1
      have km4_0 := q.2.2.2.2.2.2
      clear q
      have q := keep2 h4 (b := b2) (by first | (simp; done) | (simp; omega) | omega)
      have kc4_1_0 := q.1
      have kc4_1_1 := q.2.1
      have kf4_1_0 := q.2.2.1
      have kf4_1_1 := q.2.2.2.1
      have kl4_1 := q.2.2.2.2.1
      have kn4_1 := q.2.2.2.2.2.1
      have km4_1 := q.2.2.2.2.2.2
      clear q
      have kz4 := h4.size
      (try simp only [World.size_alloc, World.size_setCell, World.size_drew] at kz4)
      have H4 := Lib.hid h4
      clear h4
      go_wp2_with fail
      with_reducible refine (L2.out _).mono ?_
      rintro e w5 ⟨rfl, h5⟩
      have q := keep2 h5 (b := b1) (by first | (simp; done) | (simp; omega) | omega)
      have kc5_0_0 := q.1
      have kc5_0_1 := q.2.1
      have kf5_0_0 := q.2.2.1
      have kf5_0_1 := q.2.2.2.1
      have kl5_0 := q.2.2.2.2.1
      have kn5_0 := q.2.2.2.2.2.1
      have km5_0 := q.2.2.2.2.2.2
      clear q
      have q := keep2 h5 (b := b2) (by first | (simp; done) | (simp; omega) | omega)
      have kc5_1_0 := q.1
      have kc5_1_1 := q.2.1
      have kf5_1_0 := q.2.2.1
      have kf5_1_1 := q.2.2.2.1
      have kl5_1 := q.2.2.2.2.1
      have kn5_1 := q.2.2.2.2.2.1
      have km5_1 := q.2.2.2.2.2.2
      clear q
      have kz5 := h5.size
      (try simp only [World.size_alloc, World.size_setCell, World.size_drew] at kz5)
      have H5 := Lib.hid h5
      clear h5
      go_wp2
      go_ret2
      exact ⟨rfl, by (show Rel _ _; repeat (first | with_reducible exact Rel.refl _ | with_reducible refine Rel.alloc ?_ _ | with_reducible refine Rel.setCell ?_ (by first | (simp; done) | (simp; omega) | omega) _ | with_reducible refine Rel.trans ?_ H5.out | with_reducible refine Rel.trans ?_ H4.out | with_reducible exact HA.out))⟩
    · clear HR
      go_wp2_with fail
      with_reducible refine (L1.out _).mono ?_
      rintro e w4 ⟨rfl, h4⟩
      have q := keep2 h4 (b := b1) (by first | (simp; done) | (simp; omega) | omega)
      have kc4_0_0 := q.1
      have kc4_0_1 := q.2.1
      have kf4_0_0 := q.2.2.1
      have kf4_0_1 := q.2.2.2.1
      have kl4_0 := q.2.2.2.2.1
      have kn4_0 := q.2.2.2.2.2.1
      have km4_0 := q.2.2.2.2.2.2
      clear q
      have q := keep2 h4 (b := b2) (by first | (simp; done) | (simp; omega) | omega)
      have kc4_1_0 := q.1
      have kc4_1_1 := q.2.1
      have kf4_1_0 := q.2.2.1
      have kf4_1_1 := q.2.2.2.1
      have kl4_1 := q.2.2.2.2.1
      have kn4_1 := q.2.2.2.2.2.1
      have km4_1 := q.2.2.2.2.2.2
      clear q
      have kz4 := h4.size
      (try simp only [World.size_alloc, World.size_setCell, World.size_drew] at kz4)
      have H4 := Lib.hid h4
      clear h4
      go_wp2_with fail
      with_reducible refine (L2.out _).mono ?_
      rintro e w5 ⟨rfl, h5⟩
      have q := keep2 h5 (b := b1) (by first | (simp; done) | (simp; omega) | omega)
      have kc5_0_0 := q.1
      have kc5_0_1 := q.2.1
      have kf5_0_0 := q.2.2.1
      have kf5_0_1 := q.2.2.2.1
      have kl5_0 := q.2.2.2.2.1
      have kn5_0 := q.2.2.2.2.2.1
      have km5_0 := q.2.2.2.2.2.2
      clear q
      have q := keep2 h5 (b := b2) (by first | (simp; done) | (simp; omega) | omega)
      have kc5_1_0 := q.1
      have kc5_1_1 := q.2.1
      have kf5_1_0 := q.2.2.1
      have kf5_1_1 := q.2.2.2.1
      have kl5_1 := q.2.2.2.2.1
      have kn5_1 := q.2.2.2.2.2.1
      have km5_1 := q.2.2.2.2.2.2
      clear q
      have kz5 := h5.size
      (try simp only [World.size_alloc, World.size_setCell, World.size_drew] at kz5)
      have H5 := Lib.hid h5
      clear h5
      go_wp2
      go_ret2
      exact ⟨rfl, by (show Rel _ _; repeat (first | with_reducible exact Rel.refl _ | with_reducible refine Rel.alloc ?_ _ | with_reducible refine Rel.setCell ?_ (by first | (simp; done) | (simp; omega) | omega) _ | with_reducible refine Rel.trans ?_ H5.out | with_reducible refine Rel.trans ?_ H4.out | with_reducible exact HA.out))⟩
  · go_enter Try.func31, Try.ntmps31
    go_wp2_with fail
    with_reducible refine (V1.out _).mono ?_
    rintro e w1 ⟨rfl, h1⟩
    have q := keep2 h1 (b := w.heap.size) (by first | (simp; done) | (simp; omega) | omega)
    have kc1_0_0 := q.1
    have kc1_0_1 := q.2.1
    have kf1_0_0 := q.2.2.1
    have kf1_0_1 := q.2.2.2.1
    have kl1_0 := q.2.2.2.2.1
    have kn1_0 := q.2.2.2.2.2.1
    have km1_0 := q.2.2.2.2.2.2
    clear q
    have q := keep2 h1 (b := w.heap.size + 1) (by first | (simp; done) | (simp; omega) | omega)
    have kc1_1_0 := q.1
    have kc1_1_1 := q.2.1
    have kf1_1_0 := q.2.2.1
    have kf1_1_1 := q.2.2.2.1
    have kl1_1 := q.2.2.2.2.1
    have kn1_1 := q.2.2.2.2.2.1
    have km1_1 := q.2.2.2.2.2.2
    clear q
    have kz1 := h1.size
    (try simp only [World.size_alloc, World.size_setCell, World.size_drew] at kz1)
    have H1 := Lib.hid h1
    clear h1
    go_wp2_with fail
    with_reducible refine (V2.out _).mono ?_
    rintro e w2 ⟨rfl, h2⟩
    have q := keep2 h2 (b := w.heap.size) (by first | (simp; done) | (simp; omega) | omega)
    have kc2_0_0 := q.1
    have kc2_0_1 := q.2.1
    have kf2_0_0 := q.2.2.1
    have kf2_0_1 := q.2.2.2.1
    have kl2_0 := q.2.2.2.2.1
    have kn2_0 := q.2.2.2.2.2.1
    have km2_0 := q.2.2.2.2.2.2
    clear q
    have q := keep2 h2 (b := w.heap.size + 1) (by first | (simp; done) | (simp; omega) | omega)
    have kc2_1_0 := q.1
    have kc2_1_1 := q.2.1
    have kf2_1_0 := q.2.2.1
    have kf2_1_1 := q.2.2.2.1
    have kl2_1 := q.2.2.2.2.1
    have kn2_1 := q.2.2.2.2.2.1
    have km2_1 := q.2.2.2.2.2.2
    clear q
    have kz2 := h2.size
    (try simp only [World.size_alloc, World.size_setCell, World.size_drew] at kz2)
    have H2 := Lib.hid h2
    clear h2
    go_wp2_with fail
    refine wp_region_calm (fun _ w' => w'.cell? { block := w.heap.size, off := 0 } = some (.int .i64 a) ∧ w'.cell? { block := w.heap.size, off := 1 } = some (.int .i64 b) ∧ w'.cell? { block := w.heap.size + 1, off := 0 } = some (.int .i64 c) ∧ w'.cell? { block := w.heap.size + 1, off := 1 } = some (.int .i64 d)) (fun _ => false) [0, 1, 2, 3, 4, 5, 6, 7, 8, 9, 10, 11, 12, 13] 4 (by kernel_rfl) (by kernel_rfl) ?hst ?hS0 (fun w0 h0 => ?_)
    case hst => exact fun _ _ _ h r => ⟨r.cell h.1, r.cell h.2.1, r.cell h.2.2.1, r.cell h.2.2.2⟩
    case hS0 => exact ⟨by go_simp, by go_simp, by go_simp, by go_simp⟩
    iterate 2
      refine wpCalm_go rfl (by kernel_rfl) (fun K hK => ?_)
      apply Exists.intro
      refine ⟨fun M w hM hS => ?_, hK _ ?_⟩
      · have c1 := hS.1
        have c2 := hS.2.1
        have c3 := hS.2.2.1
        have c4 := hS.2.2.2
        unfold calmAt
        go_simp
        exact ⟨rfl, Rel.refl _⟩
      clear hK K
    refine wpCalm_go rfl (by kernel_rfl) (fun K hK => ?_)
    apply Exists.intro
    refine ⟨fun M w hM hS => ?_, hK _ ?_⟩
    · have c1 := hS.1
      have c2 := hS.2.1
      have c3 := hS.2.2.1
      have c4 := hS.2.2.2
      unfold calmAt
      go_simp
      with_reducible refine (S1.out _).mono ?_
      rintro e w1 ⟨rfl, rfl⟩
      exact ⟨rfl, Rel.refl _⟩
    clear hK K
    iterate 2
      refine wpCalm_go rfl (by kernel_rfl) (fun K hK => ?_)
      apply Exists.intro
      refine ⟨fun M w hM hS => ?_, hK _ ?_⟩
      · have c1 := hS.1
        have c2 := hS.2.1
        have c3 := hS.2.2.1
        have c4 := hS.2.2.2
        unfold calmAt
        go_simp
        exact ⟨rfl, Rel.refl _⟩
      clear hK K
    refine wpCalm_go rfl (by kernel_rfl) (fun K hK => ?_)
    apply Exists.intro
    refine ⟨fun M w hM hS => ?_, hK _ ?_⟩
    · have c1 := hS.1
      have c2 := hS.2.1
      have c3 := hS.2.2.1
      have c4 := hS.2.2.2
      unfold calmAt
      go_simp
      with_reducible refine (S4.out _).mono ?_
      rintro e w1 ⟨rfl, rfl⟩
      exact ⟨rfl, Rel.refl _⟩
    clear hK K
    refine wpCalm_go rfl (by kernel_rfl) (fun K hK => ?_)
    apply Exists.intro
    refine ⟨fun M w hM hS => ?_, hK _ ?_⟩
    · unfold calmAt
      go_simp
      with_reducible refine (T1.out _).mono ?_
      rintro e w1 ⟨rfl, hb⟩
      exact ⟨rfl, hb⟩
    clear hK K
    iterate 2
      refine wpCalm_go rfl (by kernel_rfl) (fun K hK => ?_)
      apply Exists.intro
      refine ⟨fun M w hM hS => ?_, hK _ ?_⟩
      · have c1 := hS.1
        have c2 := hS.2.1
        have c3 := hS.2.2.1
        have c4 := hS.2.2.2
        unfold calmAt
        go_simp
        exact ⟨rfl, Rel.refl _⟩
      clear hK K
    refine wpCalm_go rfl (by kernel_rfl) (fun K hK => ?_)
    apply Exists.intro
    refine ⟨fun M w hM hS => ?_, hK _ ?_⟩
    · have c1 := hS.1
      have c2 := hS.2.1
      have c3 := hS.2.2.1
      have c4 := hS.2.2.2
      unfold calmAt
      go_simp
      with_reducible refine (S3.out _).mono ?_
      rintro e w1 ⟨rfl, rfl⟩
      exact ⟨rfl, Rel.refl _⟩
    clear hK K
    iterate 2
      refine wpCalm_go rfl (by kernel_rfl) (fun K hK => ?_)
      apply Exists.intro
      refine ⟨fun M w hM hS => ?_, hK _ ?_⟩
      · have c1 := hS.1
        have c2 := hS.2.1
        have c3 := hS.2.2.1
        have c4 := hS.2.2.2
        unfold calmAt
        go_simp
        exact ⟨rfl, Rel.refl _⟩
      clear hK K
    refine wpCalm_go rfl (by kernel_rfl) (fun K hK => ?_)
    apply Exists.intro
    refine ⟨fun M w hM hS => ?_, hK _ ?_⟩
    · have c1 := hS.1
      have c2 := hS.2.1
      have c3 := hS.2.2.1
      have c4 := hS.2.2.2
      unfold calmAt
      go_simp
      with_reducible refine (S2.out _).mono ?_
      rintro e w1 ⟨rfl, rfl⟩
      exact ⟨rfl, Rel.refl _⟩
    clear hK K
    refine wpCalm_go rfl (by kernel_rfl) (fun K hK => ?_)
    apply Exists.intro
    refine ⟨fun M w hM hS => ?_, hK _ ?_⟩
    · unfold calmAt
      go_simp
      with_reducible refine (T2.out _).mono ?_
      rintro e w1 ⟨rfl, hb⟩
      exact ⟨rfl, hb⟩
    clear hK K
    refine wpCalm_nil ?_
    have q := keep2 h0 (b := w.heap.size) (by first | (simp; done) | (simp; omega) | omega)
    have kc0_0_0 := q.1
    have kc0_0_1 := q.2.1
    have kf0_0_0 := q.2.2.1
    have kf0_0_1 := q.2.2.2.1
    have kl0_0 := q.2.2.2.2.1
    have kn0_0 := q.2.2.2.2.2.1
    have km0_0 := q.2.2.2.2.2.2
    clear q
    have q := keep2 h0 (b := w.heap.size + 1) (by first | (simp; done) | (simp; omega) | omega)
    have kc0_1_0 := q.1
    have kc0_1_1 := q.2.1
    have kf0_1_0 := q.2.2.1
    have kf0_1_1 := q.2.2.2.1
    have kl0_1 := q.2.2.2.2.1
    have kn0_1 := q.2.2.2.2.2.1
    have km0_1 := q.2.2.2.2.2.2
    clear q
    have kz0 := h0.size
    (try simp only [World.size_alloc, World.size_setCell, World.size_drew] at kz0)
    have H0 := Lib.hid h0
    clear h0
    (try simp only [Act.put, List.setIfInBounds_toArray, List.set_cons_zero, List.set_cons_succ])
    refine wpAnyR_two (d1 := 6) (d2 := 7) (W := w2) (u0 := .int .u64 xh) (u1 := .int .u64 xl) (v0 := .int .u64 yh) (v1 := .int .u64 yl) ?_ ?_
    · refine wpAnyR_ready (rs := [14, 15]) (by kernel_rfl) (by simp) (AllR.cons rfl (fun w81 h81 K' hK' => ?_) (AllR.cons rfl (fun w81 h81 K' hK' => ?_) AllR.nil))
      · have q := keep2 h81 (b := w.heap.size) (by first | (simp; done) | (simp; omega) | omega)
        have kc81_0_0 := q.1
        have kc81_0_1 := q.2.1
        have kf81_0_0 := q.2.2.1
        have kf81_0_1 := q.2.2.2.1
        have kl81_0 := q.2.2.2.2.1
        have kn81_0 := q.2.2.2.2.2.1
        have km81_0 := q.2.2.2.2.2.2
        clear q
        have q := keep2 h81 (b := w.heap.size + 1) (by first | (simp; done) | (simp; omega) | omega)
        have kc81_1_0 := q.1
        have kc81_1_1 := q.2.1
        have kf81_1_0 := q.2.2.1
        have kf81_1_1 := q.2.2.2.1
        have kl81_1 := q.2.2.2.2.1
        have kn81_1 := q.2.2.2.2.2.1
        have km81_1 := q.2.2.2.2.2.2
        clear q
        have kz81 := h81.size
        (try simp only [World.size_alloc, World.size_setCell, World.size_drew] at kz81)
        have H81 := Lib.hid h81
        clear h81
        go_simp
        refine hK'.out _ _ (by first | trivial | exact ⟨by go_simp, by go_simp, by go_simp, by go_simp⟩) ?_
        clear hK' K'
        refine wpAnyR_ready (rs := [15]) (by kernel_rfl) (by simp) (AllR.cons rfl (fun w82 h82 K' hK' => ?_) AllR.nil)
        have q := keep2 h82 (b := w81.heap.size) (by first | (simp; done) | (simp; omega) | omega)
        have kc82_0_0 := q.1
        have kc82_0_1 := q.2.1
        have kf82_0_0 := q.2.2.1
        have kf82_0_1 := q.2.2.2.1
        have kl82_0 := q.2.2.2.2.1
        have kn82_0 := q.2.2.2.2.2.1
        have km82_0 := q.2.2.2.2.2.2
        clear q
        have q := keep2 h82 (b := w.heap.size) (by first | (simp; done) | (simp; omega) | omega)
        have kc82_1_0 := q.1
        have kc82_1_1 := q.2.1
        have kf82_1_0 := q.2.2.1
        have kf82_1_1 := q.2.2.2.1
        have kl82_1 := q.2.2.2.2.1
        have kn82_1 := q.2.2.2.2.2.1
        have km82_1 := q.2.2.2.2.2.2
        clear q
        have q := keep2 h82 (b := w.heap.size + 1) (by first | (simp; done) | (simp; omega) | omega)
        have kc82_2_0 := q.1
        have kc82_2_1 := q.2.1
        have kf82_2_0 := q.2.2.1
        have kf82_2_1 := q.2.2.2.1
        have kl82_2 := q.2.2.2.2.1
        have kn82_2 := q.2.2.2.2.2.1
        have km82_2 := q.2.2.2.2.2.2
        clear q
        have kz82 := h82.size
        (try simp only [World.size_alloc, World.size_setCell, World.size_drew] at kz82)
        have H82 := Lib.hid h82
        clear h82
        go_simp
        refine hK'.out _ _ (by first | trivial | exact ⟨by go_simp, by go_simp, by go_simp, by go_simp⟩) ?_
        clear hK' K'
        refine wpAnyR_ready (rs := [16]) (by kernel_rfl) (by simp) (AllR.cons rfl (fun w83 h83 K' hK' => ?_) AllR.nil)
        have q := keep2 h83 (b := w81.heap.size) (by first | (simp; done) | (simp; omega) | omega)
        have kc83_0_0 := q.1
        have kc83_0_1 := q.2.1
        have kf83_0_0 := q.2.2.1
        have kf83_0_1 := q.2.2.2.1
        have kl83_0 := q.2.2.2.2.1
        have kn83_0 := q.2.2.2.2.2.1
        have km83_0 := q.2.2.2.2.2.2
        clear q
        have q := keep2 h83 (b := w82.heap.size) (by first | (simp; done) | (simp; omega) | omega)
        have kc83_1_0 := q.1
        have kc83_1_1 := q.2.1
        have kf83_1_0 := q.2.2.1
        have kf83_1_1 := q.2.2.2.1
        have kl83_1 := q.2.2.2.2.1
        have kn83_1 := q.2.2.2.2.2.1
        have km83_1 := q.2.2.2.2.2.2
        clear q
        have q := keep2 h83 (b := w.heap.size) (by first | (simp; done) | (simp; omega) | omega)
        have kc83_2_0 := q.1
        have kc83_2_1 := q.2.1
        have kf83_2_0 := q.2.2.1
        have kf83_2_1 := q.2.2.2.1
        have kl83_2 := q.2.2.2.2.1
        have kn83_2 := q.2.2.2.2.2.1
        have km83_2 := q.2.2.2.2.2.2
        clear q
        have q := keep2 h83 (b := w.heap.size + 1) (by first | (simp; done) | (simp; omega) | omega)
        have kc83_3_0 := q.1
        have kc83_3_1 := q.2.1
        have kf83_3_0 := q.2.2.1
        have kf83_3_1 := q.2.2.2.1
        have kl83_3 := q.2.2.2.2.1
        have kn83_3 := q.2.2.2.2.2.1
        have km83_3 := q.2.2.2.2.2.2
        clear q
        have kz83 := h83.size
        (try simp only [World.size_alloc, World.size_setCell, World.size_drew] at kz83)
        have H83 := Lib.hid h83
        clear h83
        go_simp
        refine hK'.out _ _ (by first | trivial | exact ⟨by go_simp, by go_simp, by go_simp, by go_simp⟩) ?_
        clear hK' K'
        refine wpAnyR_ready (rs := [17]) (by kernel_rfl) (by simp) (AllR.cons rfl (fun w84 h84 K' hK' => ?_) AllR.nil)
        have q := keep2 h84 (b := w81.heap.size) (by first | (simp; done) | (simp; omega) | omega)
        have kc84_0_0 := q.1
        have kc84_0_1 := q.2.1
        have kf84_0_0 := q.2.2.1
        have kf84_0_1 := q.2.2.2.1
        have kl84_0 := q.2.2.2.2.1
        have kn84_0 := q.2.2.2.2.2.1
        have km84_0 := q.2.2.2.2.2.2
        clear q
        have q := keep2 h84 (b := w82.heap.size) (by first | (simp; done) | (simp; omega) | omega)
        have kc84_1_0 := q.1
        have kc84_1_1 := q.2.1
        have kf84_1_0 := q.2.2.1
        have kf84_1_1 := q.2.2.2.1
        have kl84_1 := q.2.2.2.2.1
        have kn84_1 := q.2.2.2.2.2.1
        have km84_1 := q.2.2.2.2.2.2
        clear q
        have q := keep2 h84 (b := w.heap.size) (by first | (simp; done) | (simp; omega) | omega)
        have kc84_2_0 := q.1
        have kc84_2_1 := q.2.1
        have kf84_2_0 := q.2.2.1
        have kf84_2_1 := q.2.2.2.1
        have kl84_2 := q.2.2.2.2.1
        have kn84_2 := q.2.2.2.2.2.1
        have km84_2 := q.2.2.2.2.2.2
        clear q
        have q := keep2 h84 (b := w.heap.size + 1) (by first | (simp; done) | (simp; omega) | omega)
        have kc84_3_0 := q.1
        have kc84_3_1 := q.2.1
        have kf84_3_0 := q.2.2.1
        have kf84_3_1 := q.2.2.2.1
        have kl84_3 := q.2.2.2.2.1
        have kn84_3 := q.2.2.2.2.2.1
        have km84_3 := q.2.2.2.2.2.2
        clear q
        have kz84 := h84.size
        (try simp only [World.size_alloc, World.size_setCell, World.size_drew] at kz84)
        have H84 := Lib.hid h84
        clear h84
        go_simp
        refine hK'.out _ _ (by first | trivial | exact ⟨by go_simp, by go_simp, by go_simp, by go_simp⟩) ?_
        clear hK' K'
        refine wpAnyR_end (by kernel_rfl) (fun w85 h85 => ?_)
        have q := keep2 h85 (b := w81.heap.size) (by first | (simp; done) | (simp; omega) | omega)
        have kc85_0_0 := q.1
        have kc85_0_1 := q.2.1
        have kf85_0_0 := q.2.2.1
        have kf85_0_1 := q.2.2.2.1
        have kl85_0 := q.2.2.2.2.1
        have kn85_0 := q.2.2.2.2.2.1
        have km85_0 := q.2.2.2.2.2.2
        clear q
        have q := keep2 h85 (b := w82.heap.size) (by first | (simp; done) | (simp; omega) | omega)
        have kc85_1_0 := q.1
        have kc85_1_1 := q.2.1
        have kf85_1_0 := q.2.2.1
        have kf85_1_1 := q.2.2.2.1
        have kl85_1 := q.2.2.2.2.1
        have kn85_1 := q.2.2.2.2.2.1
        have km85_1 := q.2.2.2.2.2.2
        clear q
        have kz85 := h85.size
        (try simp only [World.size_alloc, World.size_setCell, World.size_drew] at kz85)
        have H85 := Lib.hid h85
        clear h85
        exact ⟨rfl, w81.heap.size, w82.heap.size, by first | rfl | simp only [Act.put, List.setIfInBounds_toArray, List.set_cons_zero, List.set_cons_succ], by (repeat (first | with_reducible exact Rel.refl _ | with_reducible refine Rel.alloc ?_ _ | with_reducible refine Rel.setCell ?_ (by first | (simp; done) | (simp; omega) | omega) _ | with_reducible refine Rel.drew ?_ | with_reducible refine Rel.trans ?_ H85.out | with_reducible refine Rel.trans ?_ H84.out | with_reducible refine Rel.trans ?_ H83.out | with_reducible refine Rel.trans ?_ H82.out | with_reducible refine Rel.trans ?_ H81.out | with_reducible exact H0.out)), by first | (simp; done) | (simp; omega) | omega, by first | (simp; done) | (simp; omega) | omega, by first | (simp; done) | (simp; omega) | omega, by first | assumption | (simp; omega), by first | assumption | (simp; omega), by go_simp, by go_simp, by go_simp, by go_simp, by go_simp, by go_simp, by go_simp, by go_simp⟩
      · have q := keep2 h81 (b := w.heap.size) (by first | (simp; done) | (simp; omega) | omega)
        have kc81_0_0 := q.1
        have kc81_0_1 := q.2.1
        have kf81_0_0 := q.2.2.1
        have kf81_0_1 := q.2.2.2.1
        have kl81_0 := q.2.2.2.2.1
        have kn81_0 := q.2.2.2.2.2.1
        have km81_0 := q.2.2.2.2.2.2
        clear q
        have q := keep2 h81 (b := w.heap.size + 1) (by first | (simp; done) | (simp; omega) | omega)
        have kc81_1_0 := q.1
        have kc81_1_1 := q.2.1
        have kf81_1_0 := q.2.2.1
        have kf81_1_1 := q.2.2.2.1
        have kl81_1 := q.2.2.2.2.1
        have kn81_1 := q.2.2.2.2.2.1
        have km81_1 := q.2.2.2.2.2.2
        clear q
        have kz81 := h81.size
        (try simp only [World.size_alloc, World.size_setCell, World.size_drew] at kz81)
        have H81 := Lib.hid h81
        clear h81
        go_simp
        refine hK'.out _ _ (by first | trivial | exact ⟨by go_simp, by go_simp, by go_simp, by go_simp⟩) ?_
        clear hK' K'
        refine wpAnyR_ready (rs := [14]) (by kernel_rfl) (by simp) (AllR.cons rfl (fun w82 h82 K' hK' => ?_) AllR.nil)
        have q := keep2 h82 (b := w81.heap.size) (by first | (simp; done) | (simp; omega) | omega)
        have kc82_0_0 := q.1
        have kc82_0_1 := q.2.1
        have kf82_0_0 := q.2.2.1
        have kf82_0_1 := q.2.2.2.1
        have kl82_0 := q.2.2.2.2.1
        have kn82_0 := q.2.2.2.2.2.1
        have km82_0 := q.2.2.2.2.2.2
        clear q
        have q := keep2 h82 (b := w.heap.size) (by first | (simp; done) | (simp; omega) | omega)
        have kc82_1_0 := q.1
        have kc82_1_1 := q.2.1
        have kf82_1_0 := q.2.2.1
        have kf82_1_1 := q.2.2.2.1
        have kl82_1 := q.2.2.2.2.1
        have kn82_1 := q.2.2.2.2.2.1
        have km82_1 := q.2.2.2.2.2.2
        clear q
        have q := keep2 h82 (b := w.heap.size + 1) (by first | (simp; done) | (simp; omega) | omega)
        have kc82_2_0 := q.1
        have kc82_2_1 := q.2.1
        have kf82_2_0 := q.2.2.1
        have kf82_2_1 := q.2.2.2.1
        have kl82_2 := q.2.2.2.2.1
        have kn82_2 := q.2.2.2.2.2.1
        have km82_2 := q.2.2.2.2.2.2
        clear q
        have kz82 := h82.size
        (try simp only [World.size_alloc, World.size_setCell, World.size_drew] at kz82)
        have H82 := Lib.hid h82
        clear h82
        go_simp
        refine hK'.out _ _ (by first | trivial | exact ⟨by go_simp, by go_simp, by go_simp, by go_simp⟩) ?_
        clear hK' K'
        refine wpAnyR_ready (rs := [16]) (by kernel_rfl) (by simp) (AllR.cons rfl (fun w83 h83 K' hK' => ?_) AllR.nil)
        have q := keep2 h83 (b := w81.heap.size) (by first | (simp; done) | (simp; omega) | omega)
        have kc83_0_0 := q.1
        have kc83_0_1 := q.2.1
        have kf83_0_0 := q.2.2.1
        have kf83_0_1 := q.2.2.2.1
        have kl83_0 := q.2.2.2.2.1
        have kn83_0 := q.2.2.2.2.2.1
        have km83_0 := q.2.2.2.2.2.2
        clear q
        have q := keep2 h83 (b := w82.heap.size) (by first | (simp; done) | (simp; omega) | omega)
        have kc83_1_0 := q.1
        have kc83_1_1 := q.2.1
        have kf83_1_0 := q.2.2.1
        have kf83_1_1 := q.2.2.2.1
        have kl83_1 := q.2.2.2.2.1
        have kn83_1 := q.2.2.2.2.2.1
        have km83_1 := q.2.2.2.2.2.2
        clear q
        have q := keep2 h83 (b := w.heap.size) (by first | (simp; done) | (simp; omega) | omega)
        have kc83_2_0 := q.1
        have kc83_2_1 := q.2.1
        have kf83_2_0 := q.2.2.1
        have kf83_2_1 := q.2.2.2.1
        have kl83_2 := q.2.2.2.2.1
        have kn83_2 := q.2.2.2.2.2.1
        have km83_2 := q.2.2.2.2.2.2
        clear q
        have q := keep2 h83 (b := w.heap.size + 1) (by first | (simp; done) | (simp; omega) | omega)
        have kc83_3_0 := q.1
        have kc83_3_1 := q.2.1
        have kf83_3_0 := q.2.2.1
        have kf83_3_1 := q.2.2.2.1
        have kl83_3 := q.2.2.2.2.1
        have kn83_3 := q.2.2.2.2.2.1
        have km83_3 := q.2.2.2.2.2.2
        clear q
        have kz83 := h83.size
        (try simp only [World.size_alloc, World.size_setCell, World.size_drew] at kz83)
        have H83 := Lib.hid h83
        clear h83
        go_simp
        refine hK'.out _ _ (by first | trivial | exact ⟨by go_simp, by go_simp, by go_simp, by go_simp⟩) ?_
        clear hK' K'
        refine wpAnyR_ready (rs := [17]) (by kernel_rfl) (by simp) (AllR.cons rfl (fun w84 h84 K' hK' => ?_) AllR.nil)
        have q := keep2 h84 (b := w81.heap.size) (by first | (simp; done) | (simp; omega) | omega)
        have kc84_0_0 := q.1
        have kc84_0_1 := q.2.1
        have kf84_0_0 := q.2.2.1
        have kf84_0_1 := q.2.2.2.1
        have kl84_0 := q.2.2.2.2.1
        have kn84_0 := q.2.2.2.2.2.1
        have km84_0 := q.2.2.2.2.2.2
        clear q
        have q := keep2 h84 (b := w82.heap.size) (by first | (simp; done) | (simp; omega) | omega)
        have kc84_1_0 := q.1
        have kc84_1_1 := q.2.1
        have kf84_1_0 := q.2.2.1
        have kf84_1_1 := q.2.2.2.1
        have kl84_1 := q.2.2.2.2.1
        have kn84_1 := q.2.2.2.2.2.1
        have km84_1 := q.2.2.2.2.2.2
        clear q
        have q := keep2 h84 (b := w.heap.size) (by first | (simp; done) | (simp; omega) | omega)
        have kc84_2_0 := q.1
        have kc84_2_1 := q.2.1
        have kf84_2_0 := q.2.2.1
        have kf84_2_1 := q.2.2.2.1
        have kl84_2 := q.2.2.2.2.1
        have kn84_2 := q.2.2.2.2.2.1
        have km84_2 := q.2.2.2.2.2.2
        clear q
        have q := keep2 h84 (b := w.heap.size + 1) (by first | (simp; done) | (simp; omega) | omega)
        have kc84_3_0 := q.1
        have kc84_3_1 := q.2.1
        have kf84_3_0 := q.2.2.1
        have kf84_3_1 := q.2.2.2.1
        have kl84_3 := q.2.2.2.2.1
        have kn84_3 := q.2.2.2.2.2.1
        have km84_3 := q.2.2.2.2.2.2
        clear q
        have kz84 := h84.size
        (try simp only [World.size_alloc, World.size_setCell, World.size_drew] at kz84)
        have H84 := Lib.hid h84
        clear h84
        go_simp
        refine hK'.out _ _ (by first | trivial | exact ⟨by go_simp, by go_simp, by go_simp, by go_simp⟩) ?_
        clear hK' K'
        refine wpAnyR_end (by kernel_rfl) (fun w85 h85 => ?_)
        have q := keep2 h85 (b := w82.heap.size) (by first | (simp; done) | (simp; omega) | omega)
        have kc85_0_0 := q.1
        have kc85_0_1 := q.2.1
        have kf85_0_0 := q.2.2.1
        have kf85_0_1 := q.2.2.2.1
        have kl85_0 := q.2.2.2.2.1
        have kn85_0 := q.2.2.2.2.2.1
        have km85_0 := q.2.2.2.2.2.2
        clear q
        have q := keep2 h85 (b := w81.heap.size) (by first | (simp; done) | (simp; omega) | omega)
        have kc85_1_0 := q.1
        have kc85_1_1 := q.2.1
        have kf85_1_0 := q.2.2.1
        have kf85_1_1 := q.2.2.2.1
        have kl85_1 := q.2.2.2.2.1
        have kn85_1 := q.2.2.2.2.2.1
        have km85_1 := q.2.2.2.2.2.2
        clear q
        have kz85 := h85.size
        (try simp only [World.size_alloc, World.size_setCell, World.size_drew] at kz85)
        have H85 := Lib.hid h85
        clear h85
        exact ⟨rfl, w82.heap.size, w81.heap.size, by first | rfl | simp only [Act.put, List.setIfInBounds_toArray, List.set_cons_zero, List.set_cons_succ], by (repeat (first | with_reducible exact Rel.refl _ | with_reducible refine Rel.alloc ?_ _ | with_reducible refine Rel.setCell ?_ (by first | (simp; done) | (simp; omega) | omega) _ | with_reducible refine Rel.drew ?_ | with_reducible refine Rel.trans ?_ H85.out | with_reducible refine Rel.trans ?_ H84.out | with_reducible refine Rel.trans ?_ H83.out | with_reducible refine Rel.trans ?_ H82.out | with_reducible refine Rel.trans ?_ H81.out | with_reducible exact H0.out)), by first | (simp; done) | (simp; omega) | omega, by first | (simp; done) | (simp; omega) | omega, by first | (simp; done) | (simp; omega) | omega, by first | assumption | (simp; omega), by first | assumption | (simp; omega), by go_simp, by go_simp, by go_simp, by go_simp, by go_simp, by go_simp, by go_simp, by go_simp⟩
    intro b1 b2 wt ht
    (try simp only [Act.put, List.setIfInBounds_toArray, List.set_cons_zero, List.set_cons_succ])
    have tr := ht.rel
    have tl1 := ht.lo1
    have tl2 := ht.lo2
    have tn := ht.ne
    have ti1 := ht.in1
    have ti2 := ht.in2
    have tc1 := ht.c10
    have tc2 := ht.c11
    have tc3 := ht.c20
    have tc4 := ht.c21
    have tf1 := ht.f10
    have tf2 := ht.f11
    have tf3 := ht.f20
    have tf4 := ht.f21
    have tn' := Ne.symm tn
    have q := keep2 tr (b := w.heap.size) (by first | (simp; done) | (simp; omega) | omega)
    have kc3_0_0 := q.1
    have kc3_0_1 := q.2.1
    have kf3_0_0 := q.2.2.1
    have kf3_0_1 := q.2.2.2.1
    have kl3_0 := q.2.2.2.2.1
    have kn3_0 := q.2.2.2.2.2.1
    have km3_0 := q.2.2.2.2.2.2
    clear q
    have q := keep2 tr (b := w.heap.size + 1) (by first | (simp; done) | (simp; omega) | omega)
    have kc3_1_0 := q.1
    have kc3_1_1 := q.2.1
    have kf3_1_0 := q.2.2.1
    have kf3_1_1 := q.2.2.2.1
    have kl3_1 := q.2.2.2.2.1
    have kn3_1 := q.2.2.2.2.2.1
    have km3_1 := q.2.2.2.2.2.2
    clear q
    have kz3 := tr.size
    (try simp only [World.size_alloc, World.size_setCell, World.size_drew] at kz3)
    have H3 := Lib.hid tr
    clear tr
    have tm1 : w.heap.size + 1 < b1 := by omega
    have tm2 : w.heap.size + 1 < b2 := by omega
    have e00 : wt.cell? ⟨w.heap.size, 0, none⟩ = some (.int .i64 a) := by go_simp
    have l0 : w.heap.size < wt.heap.size := by omega
    have l1 : w.heap.size + 1 < wt.heap.size := by omega
    have m1 : w.heap.size ≤ b1 := by omega
    have m2 : w.heap.size ≤ b2 := by omega
    have j6 : b1 ≠ w.heap.size := by omega
    have j10 : b2 ≠ w.heap.size := by omega
    have HA : Hid (Rel w wt) := by
      show Rel w wt
      (repeat (first | with_reducible exact Rel.refl _ | with_reducible refine Rel.alloc ?_ _ | with_reducible refine Rel.trans ?_ H3.out | with_reducible refine Rel.trans ?_ H2.out | with_reducible refine Rel.trans ?_ H1.out))
    clear H0 H3 kc1_0_0 kc1_0_1 kf1_0_0 kf1_0_1 kl1_0 kn1_0 km1_0 kc1_1_0 kc1_1_1 kf1_1_0 kf1_1_1 kl1_1 kn1_1 km1_1 kz1 kc2_0_0 kc2_0_1 kf2_0_0 kf2_0_1 kl2_0 kn2_0 km2_0 kc2_1_0 kc2_1_1 kf2_1_0 kf2_1_1 kl2_1 kn2_1 km2_1 kz2 kc0_0_0 kc0_0_1 kf0_0_0 kf0_0_1 kl0_0 kn0_0 km0_0 kc0_1_0 kc0_1_1 kf0_1_0 kf0_1_1 kl0_1 kn0_1 km0_1 kz0 kc3_0_0 kc3_0_1 kf3_0_0 kf3_0_1 kl3_0 kn3_0 km3_0 kc3_1_0 kc3_1_1 kf3_1_0 kf3_1_1 kl3_1 kn3_1 km3_1 kz3 H1 H2
    rcases HR.out with ⟨rfl, rfl⟩ | ⟨rfl, rfl, rfl⟩ | ⟨rfl, rfl, rfl⟩
    · clear HR
      go_wp2_with fail
      with_reducible refine (L1.out _).mono ?_
      rintro e w4 ⟨rfl, h4⟩
      have q := keep2 h4 (b := b1) (by first | (simp; done) | (simp; omega) | omega)
      have kc4_0_0 := q.1
      have kc4_0_1 := q.2.1
      have kf4_0_0 := q.2.2.1
      have kf4_0_1 := q.2.2.2.1
      have kl4_0 := q.2.2.2.2.1
      have kn4_0 := q.2.2.2.2.2.1
      have km4_0 := q.2.2.2.2.2.2
      clear q
      have q := keep2 h4 (b := b2) (by first | (simp; done) | (simp; omega) | omega)
      have kc4_1_0 := q.1
      have kc4_1_1 := q.2.1
      have kf4_1_0 := q.2.2.1
      have kf4_1_1 := q.2.2.2.1
      have kl4_1 := q.2.2.2.2.1
      have kn4_1 := q.2.2.2.2.2.1
      have km4_1 := q.2.2.2.2.2.2
      clear q
      have kz4 := h4.size
      (try simp only [World.size_alloc, World.size_setCell, World.size_drew] at kz4)
      have H4 := Lib.hid h4
      clear h4
      go_wp2
      go_ret2
      exact ⟨rfl, by (show Rel _ _; repeat (first | with_reducible exact Rel.refl _ | with_reducible refine Rel.alloc ?_ _ | with_reducible refine Rel.setCell ?_ (by first | (simp; done) | (simp; omega) | omega) _ | with_reducible refine Rel.trans ?_ H4.out | with_reducible exact HA.out))⟩
    · clear HR
      go_wp2_with fail
      with_reducible refine (L1.out _).mono ?_
      rintro e w4 ⟨rfl, h4⟩
      have q := keep2 h4 (b := b1) (by first | (simp; done) | (simp; omega) | omega)
      have kc4_0_0 := q.1
      have kc4_0_1 := q.2.1
      have kf4_0_0 := q.2.2.1
      have kf4_0_1 := q.2.2.2.1
      have kl4_0 := q.2.2.2.2.1
      have kn4_0 := q.2.2.2.2.2.1
      have km4_0 := q.2.2.2.2.2.2
      clear q
      have q := keep2 h4 (b := b2) (by first | (simp; done) | (simp; omega) | omega)
      have kc4_1_0 := q.1
      have kc4_1_1 := q.2.1
      have kf4_1_0 := q.2.2.1
      have kf4_1_1 := q.2.2.2.1
      have kl4_1 := q.2.2.2.2.1
      have kn4_1 := q.2.2.2.2.2.1
      have km4_1 := q.2.2.2.2.2.2
      clear q
      have kz4 := h4.size
      (try simp only [World.size_alloc, World.size_setCell, World.size_drew] at kz4)
      have H4 := Lib.hid h4
      clear h4
      go_wp2_with fail
      with_reducible refine (L2.out _).mono ?_
      rintro e w5 ⟨rfl, h5⟩
      have q := keep2 h5 (b := b1) (by first | (simp; done) | (simp; omega) | omega)
      have kc5_0_0 := q.1
      have kc5_0_1 := q.2.1
      have kf5_0_0 := q.2.2.1
      have kf5_0_1 := q.2.2.2.1
      have kl5_0 := q.2.2.2.2.1
      have kn5_0 := q.2.2.2.2.2.1
      have km5_0 := q.2.2.2.2.2.2
      clear q
      have q := keep2 h5 (b := b2) (by first | (simp; done) | (simp; omega) | omega)
      have kc5_1_0 := q.1
      have kc5_1_1 := q.2.1
      have kf5_1_0 := q.2.2.1
      have kf5_1_1 := q.2.2.2.1
      have kl5_1 := q.2.2.2.2.1
      have kn5_1 := q.2.2.2.2.2.1
      have km5_1 := q.2.2.2.2.2.2
      clear q
      have kz5 := h5.size
      (try simp only [World.size_alloc, World.size_setCell, World.size_drew] at kz5)
      have H5 := Lib.hid h5
      clear h5
      go_wp2
      go_ret2
      exact ⟨rfl, by (show Rel _ _; repeat (first | with_reducible exact Rel.refl _ | with_reducible refine Rel.alloc ?_ _ | with_reducible refine Rel.setCell ?_ (by first | (simp; done) | (simp; omega) | omega) _ | with_reducible refine Rel.trans ?_ H5.out | with_reducible refine Rel.trans ?_ H4.out | with_reducible exact HA.out))⟩
    · clear HR
      go_wp2_with fail
      with_reducible refine (L1.out _).mono ?_
      rintro e w4 ⟨rfl, h4⟩
      have q := keep2 h4 (b := b1) (by first | (simp; done) | (simp; omega) | omega)
      have kc4_0_0 := q.1
      have kc4_0_1 := q.2.1
      have kf4_0_0 := q.2.2.1
      have kf4_0_1 := q.2.2.2.1
      have kl4_0 := q.2.2.2.2.1
      have kn4_0 := q.2.2.2.2.2.1
      have km4_0 := q.2.2.2.2.2.2
      clear q
      have q := keep2 h4 (b := b2) (by first | (simp; done) | (simp; omega) | omega)
      have kc4_1_0 := q.1
      have kc4_1_1 := q.2.1
      have kf4_1_0 := q.2.2.1
      have kf4_1_1 := q.2.2.2.1
      have kl4_1 := q.2.2.2.2.1
      have kn4_1 := q.2.2.2.2.2.1
      have km4_1 := q.2.2.2.2.2.2
      clear q
      have kz4 := h4.size
      (try simp only [World.size_alloc, World.size_setCell, World.size_drew] at kz4)
      have H4 := Lib.hid h4
      clear h4
      go_wp2_with fail
      with_reducible refine (L2.out _).mono ?_
      rintro e w5 ⟨rfl, h5⟩
      have q := keep2 h5 (b := b1) (by first | (simp; done) | (simp; omega) | omega)
      have kc5_0_0 := q.1
      have kc5_0_1 := q.2.1
      have kf5_0_0 := q.2.2.1
      have kf5_0_1 := q.2.2.2.1
      have kl5_0 := q.2.2.2.2.1
      have kn5_0 := q.2.2.2.2.2.1
      have km5_0 := q.2.2.2.2.2.2
      clear q
      have q := keep2 h5 (b := b2) (by first | (simp; done) | (simp; omega) | omega)
      have kc5_1_0 := q.1
      have kc5_1_1 := q.2.1
      have kf5_1_0 := q.2.2.1
      have kf5_1_1 := q.2.2.2.1
      have kl5_1 := q.2.2.2.2.1
      have kn5_1 := q.2.2.2.2.2.1
      have km5_1 := q.2.2.2.2.2.2
      clear q
      have kz5 := h5.size
      (try simp only [World.size_alloc, World.size_setCell, World.size_drew] at kz5)
      have H5 := Lib.hid h5
      clear h5
      go_wp2
      go_ret2
      exact ⟨rfl, by (show Rel _ _; repeat (first | with_reducible exact Rel.refl _ | with_reducible refine Rel.alloc ?_ _ | with_reducible refine Rel.setCell ?_ (by first | (simp; done) | (simp; omega) | omega) _ | with_reducible refine Rel.trans ?_ H5.out | with_reducible refine Rel.trans ?_ H4.out | with_reducible exact HA.out))⟩

set_option maxHeartbeats 1600000 in
theorem cmp_signs (a b c d R : Int) (w : World) (h : (decide (a < 0) = true ∧ decide (c < 0) = false ∧ R = -1) ∨ (decide (a < 0) = false ∧ decide (c < 0) = true ∧ R = 1))
    (V1 : Hid (∀ w, Calls Try.prog 18 #[.agg #[.int .i64 a, .int .i64 b]] w fun e w' => e = .returned (.bool true) ∧ Rel w w'))
    (V2 : Hid (∀ w, Calls Try.prog 18 #[.agg #[.int .i64 c, .int .i64 d]] w fun e w' => e = .returned (.bool true) ∧ Rel w w')) :
    Calls Try.prog 31 #[.agg #[.int .i64 a, .int .i64 b], .agg #[.int .i64 c, .int .i64 d]] w (ZRes R 0 w) := by
  unfold ZRes
  rcases h with ⟨z1, z2, rfl⟩ | ⟨z1, z2, rfl⟩
  all_goals
    go_enter Try.func31, Try.ntmps31
    go_wp2_with fail
    with_reducible refine (V1.out _).mono ?_
    rintro e w1 ⟨rfl, h1⟩
    have q := keep2 h1 (b := w.heap.size) (by first | (simp; done) | (simp; omega) | omega)
    have kc1_0_0 := q.1
    have kc1_0_1 := q.2.1
    have kf1_0_0 := q.2.2.1
    have kf1_0_1 := q.2.2.2.1
    have kl1_0 := q.2.2.2.2.1
    have kn1_0 := q.2.2.2.2.2.1
    have km1_0 := q.2.2.2.2.2.2
    clear q
    have q := keep2 h1 (b := w.heap.size + 1) (by first | (simp; done) | (simp; omega) | omega)
    have kc1_1_0 := q.1
    have kc1_1_1 := q.2.1
    have kf1_1_0 := q.2.2.1
    have kf1_1_1 := q.2.2.2.1
    have kl1_1 := q.2.2.2.2.1
    have kn1_1 := q.2.2.2.2.2.1
    have km1_1 := q.2.2.2.2.2.2
    clear q
    have kz1 := h1.size
    (try simp only [World.size_alloc, World.size_setCell, World.size_drew] at kz1)
    have H1 := Lib.hid h1
    clear h1
    go_wp2_with fail
    with_reducible refine (V2.out _).mono ?_
    rintro e w2 ⟨rfl, h2⟩
    have q := keep2 h2 (b := w.heap.size) (by first | (simp; done) | (simp; omega) | omega)
    have kc2_0_0 := q.1
    have kc2_0_1 := q.2.1
    have kf2_0_0 := q.2.2.1
    have kf2_0_1 := q.2.2.2.1
    have kl2_0 := q.2.2.2.2.1
    have kn2_0 := q.2.2.2.2.2.1
    have km2_0 := q.2.2.2.2.2.2
    clear q
    have q := keep2 h2 (b := w.heap.size + 1) (by first | (simp; done) | (simp; omega) | omega)
    have kc2_1_0 := q.1
    have kc2_1_1 := q.2.1
    have kf2_1_0 := q.2.2.1
    have kf2_1_1 := q.2.2.2.1
    have kl2_1 := q.2.2.2.2.1
    have kn2_1 := q.2.2.2.2.2.1
    have km2_1 := q.2.2.2.2.2.2
    clear q
    have kz2 := h2.size
    (try simp only [World.size_alloc, World.size_setCell, World.size_drew] at kz2)
    have H2 := Lib.hid h2
    clear h2
    go_wp2
    go_ret2
    exact ⟨rfl, by (show Rel _ _; repeat (first | with_reducible exact Rel.refl _ | with_reducible refine Rel.alloc ?_ _ | with_reducible refine Rel.setCell ?_ (by first | (simp; done) | (simp; omega)) _ | with_reducible refine Rel.drew ?_ | with_reducible refine Rel.trans ?_ H2.out | with_reducible refine Rel.trans ?_ H1.out | with_reducible refine Rel.trans ?_ H0.out))⟩

set_option maxHeartbeats 12800000 in
theorem order_core (a c R : Int) (r : Bool) (A B C D xh xl yh yl : Nat) (w : World) (hB : B < 18446744073709551616) (hD : D < 18446744073709551616)
    (hne : (¬ a = c ∧ (a == c) = false) ∨ (a = c ∧ ¬ (B : Int) = D ∧ ((B : Int) == D) = false))
    (S1 : Hid (∀ w, Calls Try.prog 41 #[.int .i64 a] w fun e w' => e = .returned (.int .u64 A) ∧ w = w'))
    (S3 : Hid (∀ w, Calls Try.prog 41 #[.int .i64 c] w fun e w' => e = .returned (.int .u64 C) ∧ w = w'))
    (T1 : Hid (∀ w, Calls Try.prog 53 #[.int .u64 A, .int .u64 D] w fun e w' => e = .returned (.agg #[.int .u64 xh, .int .u64 xl]) ∧ Rel w w'))
    (T2 : Hid (∀ w, Calls Try.prog 53 #[.int .u64 C, .int .u64 B] w fun e w' => e = .returned (.agg #[.int .u64 yh, .int .u64 yl]) ∧ Rel w w'))
    (L : Hid (∀ w, Calls Try.prog 55 #[.agg #[.int .u64 xh, .int .u64 xl], .agg #[.int .u64 yh, .int .u64 yl]] w fun e w' => e = .returned (.bool r) ∧ Rel w w'))
    (hway : (decide (a < 0) = true ∧ decide (c < 0) = true ∧ R = if r = true then 1 else -1) ∨ (decide (a < 0) = false ∧ decide (c < 0) = false ∧ R = if r = true then -1 else 1)) :
    Calls Try.prog 48 #[.agg #[.int .i64 a, .int .i64 B], .agg #[.int .i64 c, .int .i64 D]] w fun e w' => e = .returned (.int .i64 R) ∧ Rel w w' := by
  have q1 := u64_nat hB
  have q2 := u64_nat hD
  have HW := Lib.hid hway
  clear hway
  rcases hne with ⟨n1, n2⟩ | ⟨rfl, n1, n2⟩
  · rcases HW.out with ⟨z1, z2, hR⟩ | ⟨z1, z2, hR⟩
    · have HRR := Lib.hid hR
      clear HW hR
      go_enter Try.func48, Try.ntmps48
      go_wp2_with fail
      refine wp_region_calm (fun _ w' => w'.cell? { block := w.heap.size, off := 0 } = some (.int .i64 a) ∧ w'.cell? { block := w.heap.size, off := 1 } = some (.int .i64 B) ∧ w'.cell? { block := w.heap.size + 1, off := 0 } = some (.int .i64 c) ∧ w'.cell? { block := w.heap.size + 1, off := 1 } = some (.int .i64 D)) (fun _ => false) [0, 1, 2, 3, 4, 5, 6, 7, 8, 9, 10, 11, 12, 13] 4 (by kernel_rfl) (by kernel_rfl) ?hst ?hS0 (fun w0 h0 => ?_)
      case hst => exact fun _ _ _ h r => ⟨r.cell h.1, r.cell h.2.1, r.cell h.2.2.1, r.cell h.2.2.2⟩
      case hS0 => exact ⟨by go_simp, by go_simp, by go_simp, by go_simp⟩
      iterate 2
        refine wpCalm_go rfl (by kernel_rfl) (fun K hK => ?_)
        apply Exists.intro
        refine ⟨fun M w hM hS => ?_, hK _ ?_⟩
        · have c1 := hS.1
          have c2 := hS.2.1
          have c3 := hS.2.2.1
          have c4 := hS.2.2.2
          unfold calmAt
          go_simp
          exact ⟨rfl, Rel.refl _⟩
        clear hK K
      refine wpCalm_go rfl (by kernel_rfl) (fun K hK => ?_)
      apply Exists.intro
      refine ⟨fun M w hM hS => ?_, hK _ ?_⟩
      · have c1 := hS.1
        have c2 := hS.2.1
        have c3 := hS.2.2.1
        have c4 := hS.2.2.2
        unfold calmAt
        go_simp
        with_reducible refine (S1.out _).mono ?_
        rintro e w1 ⟨rfl, rfl⟩
        exact ⟨rfl, Rel.refl _⟩
      clear hK K
      iterate 3
        refine wpCalm_go rfl (by kernel_rfl) (fun K hK => ?_)
        apply Exists.intro
        refine ⟨fun M w hM hS => ?_, hK _ ?_⟩
        · have c1 := hS.1
          have c2 := hS.2.1
          have c3 := hS.2.2.1
          have c4 := hS.2.2.2
          unfold calmAt
          go_simp
          exact ⟨rfl, Rel.refl _⟩
        clear hK K
      refine wpCalm_go rfl (by kernel_rfl) (fun K hK => ?_)
      apply Exists.intro
      refine ⟨fun M w hM hS => ?_, hK _ ?_⟩
      · unfold calmAt
        go_simp
        with_reducible refine (T1.out _).mono ?_
        rintro e w1 ⟨rfl, hb⟩
        exact ⟨rfl, hb⟩
      clear hK K
      iterate 2
        refine wpCalm_go rfl (by kernel_rfl) (fun K hK => ?_)
        apply Exists.intro
        refine ⟨fun M w hM hS => ?_, hK _ ?_⟩
        · have c1 := hS.1
          have c2 := hS.2.1
          have c3 := hS.2.2.1
          have c4 := hS.2.2.2
          unfold calmAt
          go_simp
          exact ⟨rfl, Rel.refl _⟩
        clear hK K
      refine wpCalm_go rfl (by kernel_rfl) (fun K hK => ?_)
      apply Exists.intro
      refine ⟨fun M w hM hS => ?_, hK _ ?_⟩
      · have c1 := hS.1
        have c2 := hS.2.1
        have c3 := hS.2.2.1
        have c4 := hS.2.2.2
        unfold calmAt
        go_simp
        with_reducible refine (S3.out _).mono ?_
        rintro e w1 ⟨rfl, rfl⟩
        exact ⟨rfl, Rel.refl _⟩
      clear hK K
      iterate 3
        refine wpCalm_go rfl (by kernel_rfl) (fun K hK => ?_)
        apply Exists.intro
        refine ⟨fun M w hM hS => ?_, hK _ ?_⟩
        · have c1 := hS.1
          have c2 := hS.2.1
          have c3 := hS.2.2.1
          have c4 := hS.2.2.2
          unfold calmAt
          go_simp
          exact ⟨rfl, Rel.refl _⟩
        clear hK K
      refine wpCalm_go rfl (by kernel_rfl) (fun K hK => ?_)
      apply Exists.intro
      refine ⟨fun M w hM hS => ?_, hK _ ?_⟩
      · unfold calmAt
        go_simp
        with_reducible refine (T2.out _).mono ?_
        rintro e w1 ⟨rfl, hb⟩
        exact ⟨rfl, hb⟩
      clear hK K
      refine wpCalm_nil ?_
      have hq := ((Rel.refl w).alloc (.cells #[.int .i64 a, .int .i64 B] 23)).alloc (.cells #[.int .i64 c, .int .i64 D] 23)
      have h2 := h0
      clear h0
      have q := keep2 h2 (b := w.heap.size) (by first | (simp; done) | (simp; omega) | omega)
      have kc2_0_0 := q.1
      have kc2_0_1 := q.2.1
      have kf2_0_0 := q.2.2.1
      have kf2_0_1 := q.2.2.2.1
      have kl2_0 := q.2.2.2.2.1
      have kn2_0 := q.2.2.2.2.2.1
      have km2_0 := q.2.2.2.2.2.2
      clear q
      have q := keep2 h2 (b := w.heap.size + 1) (by first | (simp; done) | (simp; omega) | omega)
      have kc2_1_0 := q.1
      have kc2_1_1 := q.2.1
      have kf2_1_0 := q.2.2.1
      have kf2_1_1 := q.2.2.2.1
      have kl2_1 := q.2.2.2.2.1
      have kn2_1 := q.2.2.2.2.2.1
      have km2_1 := q.2.2.2.2.2.2
      clear q
      have kz2 := h2.size
      (try simp only [World.size_alloc, World.size_setCell, World.size_drew] at kz2)
      have H2 := Lib.hid h2
      clear h2
      have h0 := Rel.refl w0
      have q := keep2 h0 (b := w.heap.size) (by first | (simp; done) | (simp; omega) | omega)
      have kc0_0_0 := q.1
      have kc0_0_1 := q.2.1
      have kf0_0_0 := q.2.2.1
      have kf0_0_1 := q.2.2.2.1
      have kl0_0 := q.2.2.2.2.1
      have kn0_0 := q.2.2.2.2.2.1
      have km0_0 := q.2.2.2.2.2.2
      clear q
      have q := keep2 h0 (b := w.heap.size + 1) (by first | (simp; done) | (simp; omega) | omega)
      have kc0_1_0 := q.1
      have kc0_1_1 := q.2.1
      have kf0_1_0 := q.2.2.1
      have kf0_1_1 := q.2.2.2.1
      have kl0_1 := q.2.2.2.2.1
      have kn0_1 := q.2.2.2.2.2.1
      have km0_1 := q.2.2.2.2.2.2
      clear q
      have kz0 := h0.size
      (try simp only [World.size_alloc, World.size_setCell, World.size_drew] at kz0)
      have H0 := Lib.hid h0
      clear h0
      (try simp only [Act.put, List.setIfInBounds_toArray, List.set_cons_zero, List.set_cons_succ])
      refine wpAnyR_two (d1 := 5) (d2 := 6) (W := w0) (u0 := .int .u64 xh) (u1 := .int .u64 xl) (v0 := .int .u64 yh) (v1 := .int .u64 yl) ?_ ?_
      · refine wpAnyR_ready (rs := [14, 15]) (by kernel_rfl) (by simp) (AllR.cons rfl (fun w81 h81 K' hK' => ?_) (AllR.cons rfl (fun w81 h81 K' hK' => ?_) AllR.nil))
        · have q := keep2 h81 (b := w.heap.size) (by first | (simp; done) | (simp; omega) | omega)
          have kc81_0_0 := q.1
          have kc81_0_1 := q.2.1
          have kf81_0_0 := q.2.2.1
          have kf81_0_1 := q.2.2.2.1
          have kl81_0 := q.2.2.2.2.1
          have kn81_0 := q.2.2.2.2.2.1
          have km81_0 := q.2.2.2.2.2.2
          clear q
          have q := keep2 h81 (b := w.heap.size + 1) (by first | (simp; done) | (simp; omega) | omega)
          have kc81_1_0 := q.1
          have kc81_1_1 := q.2.1
          have kf81_1_0 := q.2.2.1
          have kf81_1_1 := q.2.2.2.1
          have kl81_1 := q.2.2.2.2.1
          have kn81_1 := q.2.2.2.2.2.1
          have km81_1 := q.2.2.2.2.2.2
          clear q
          have kz81 := h81.size
          (try simp only [World.size_alloc, World.size_setCell, World.size_drew] at kz81)
          have H81 := Lib.hid h81
          clear h81
          go_simp
          refine hK'.out _ _ (by first | trivial | exact ⟨by go_simp, by go_simp, by go_simp, by go_simp⟩) ?_
          clear hK' K'
          refine wpAnyR_ready (rs := [15]) (by kernel_rfl) (by simp) (AllR.cons rfl (fun w82 h82 K' hK' => ?_) AllR.nil)
          have q := keep2 h82 (b := w81.heap.size) (by first | (simp; done) | (simp; omega) | omega)
          have kc82_0_0 := q.1
          have kc82_0_1 := q.2.1
          have kf82_0_0 := q.2.2.1
          have kf82_0_1 := q.2.2.2.1
          have kl82_0 := q.2.2.2.2.1
          have kn82_0 := q.2.2.2.2.2.1
          have km82_0 := q.2.2.2.2.2.2
          clear q
          have q := keep2 h82 (b := w.heap.size) (by first | (simp; done) | (simp; omega) | omega)
          have kc82_1_0 := q.1
          have kc82_1_1 := q.2.1
          have kf82_1_0 := q.2.2.1
          have kf82_1_1 := q.2.2.2.1
          have kl82_1 := q.2.2.2.2.1
          have kn82_1 := q.2.2.2.2.2.1
          have km82_1 := q.2.2.2.2.2.2
          clear q
          have q := keep2 h82 (b := w.heap.size + 1) (by first | (simp; done) | (simp; omega) | omega)
          have kc82_2_0 := q.1
          have kc82_2_1 := q.2.1
          have kf82_2_0 := q.2.2.1
          have kf82_2_1 := q.2.2.2.1
          have kl82_2 := q.2.2.2.2.1
          have kn82_2 := q.2.2.2.2.2.1
          have km82_2 := q.2.2.2.2.2.2
          clear q
          have kz82 := h82.size
          (try simp only [World.size_alloc, World.size_setCell, World.size_drew] at kz82)
          have H82 := Lib.hid h82
          clear h82
          go_simp
          refine hK'.out _ _ (by first | trivial | exact ⟨by go_simp, by go_simp, by go_simp, by go_simp⟩) ?_
          clear hK' K'
          refine wpAnyR_ready (rs := [16]) (by kernel_rfl) (by simp) (AllR.cons rfl (fun w83 h83 K' hK' => ?_) AllR.nil)
          have q := keep2 h83 (b := w81.heap.size) (by first | (simp; done) | (simp; omega) | omega)
          have kc83_0_0 := q.1
          have kc83_0_1 := q.2.1
          have kf83_0_0 := q.2.2.1
          have kf83_0_1 := q.2.2.2.1
          have kl83_0 := q.2.2.2.2.1
          have kn83_0 := q.2.2.2.2.2.1
          have km83_0 := q.2.2.2.2.2.2
          clear q
          have q := keep2 h83 (b := w82.heap.size) (by first | (simp; done) | (simp; omega) | omega)
          have kc83_1_0 := q.1
          have kc83_1_1 := q.2.1
          have kf83_1_0 := q.2.2.1
          have kf83_1_1 := q.2.2.2.1
          have kl83_1 := q.2.2.2.2.1
          have kn83_1 := q.2.2.2.2.2.1
          have km83_1 := q.2.2.2.2.2.2
          clear q
          have q := keep2 h83 (b := w.heap.size) (by first | (simp; done) | (simp; omega) | omega)
          have kc83_2_0 := q.1
          have kc83_2_1 := q.2.1
          have kf83_2_0 := q.2.2.1
          have kf83_2_1 := q.2.2.2.1
          have kl83_2 := q.2.2.2.2.1
          have kn83_2 := q.2.2.2.2.2.1
          have km83_2 := q.2.2.2.2.2.2
          clear q
          have q := keep2 h83 (b := w.heap.size + 1) (by first | (simp; done) | (simp; omega) | omega)
          have kc83_3_0 := q.1
          have kc83_3_1 := q.2.1
          have kf83_3_0 := q.2.2.1
          have kf83_3_1 := q.2.2.2.1
          have kl83_3 := q.2.2.2.2.1
          have kn83_3 := q.2.2.2.2.2.1
          have km83_3 := q.2.2.2.2.2.2
          clear q
          have kz83 := h83.size
          (try simp only [World.size_alloc, World.size_setCell, World.size_drew] at kz83)
          have H83 := Lib.hid h83
          clear h83
          go_simp
          refine hK'.out _ _ (by first | trivial | exact ⟨by go_simp, by go_simp, by go_simp, by go_simp⟩) ?_
          clear hK' K'
          refine wpAnyR_ready (rs := [17]) (by kernel_rfl) (by simp) (AllR.cons rfl (fun w84 h84 K' hK' => ?_) AllR.nil)
          have q := keep2 h84 (b := w81.heap.size) (by first | (simp; done) | (simp; omega) | omega)
          have kc84_0_0 := q.1
          have kc84_0_1 := q.2.1
          have kf84_0_0 := q.2.2.1
          have kf84_0_1 := q.2.2.2.1
          have kl84_0 := q.2.2.2.2.1
          have kn84_0 := q.2.2.2.2.2.1
          have km84_0 := q.2.2.2.2.2.2
          clear q
          have q := keep2 h84 (b := w82.heap.size) (by first | (simp; done) | (simp; omega) | omega)
          have kc84_1_0 := q.1
          have kc84_1_1 := q.2.1
          have kf84_1_0 := q.2.2.1
          have kf84_1_1 := q.2.2.2.1
          have kl84_1 := q.2.2.2.2.1
          have kn84_1 := q.2.2.2.2.2.1
          have km84_1 := q.2.2.2.2.2.2
          clear q
          have q := keep2 h84 (b := w.heap.size) (by first | (simp; done) | (simp; omega) | omega)
          have kc84_2_0 := q.1
          have kc84_2_1 := q.2.1
          have kf84_2_0 := q.2.2.1
          have kf84_2_1 := q.2.2.2.1
          have kl84_2 := q.2.2.2.2.1
          have kn84_2 := q.2.2.2.2.2.1
          have km84_2 := q.2.2.2.2.2.2
          clear q
          have q := keep2 h84 (b := w.heap.size + 1) (by first | (simp; done) | (simp; omega) | omega)
          have kc84_3_0 := q.1
          have kc84_3_1 := q.2.1
          have kf84_3_0 := q.2.2.1
          have kf84_3_1 := q.2.2.2.1
          have kl84_3 := q.2.2.2.2.1
          have kn84_3 := q.2.2.2.2.2.1
          have km84_3 := q.2.2.2.2.2.2
          clear q
          have kz84 := h84.size
          (try simp only [World.size_alloc, World.size_setCell, World.size_drew] at kz84)
          have H84 := Lib.hid h84
          clear h84
          go_simp
          refine hK'.out _ _ (by first | trivial | exact ⟨by go_simp, by go_simp, by go_simp, by go_simp⟩) ?_
          clear hK' K'
          refine wpAnyR_end (by kernel_rfl) (fun w85 h85 => ?_)
          have q := keep2 h85 (b := w81.heap.size) (by first | (simp; done) | (simp; omega) | omega)
          have kc85_0_0 := q.1
          have kc85_0_1 := q.2.1
          have kf85_0_0 := q.2.2.1
          have kf85_0_1 := q.2.2.2.1
          have kl85_0 := q.2.2.2.2.1
          have kn85_0 := q.2.2.2.2.2.1
          have km85_0 := q.2.2.2.2.2.2
          clear q
          have q := keep2 h85 (b := w82.heap.size) (by first | (simp; done) | (simp; omega) | omega)
          have kc85_1_0 := q.1
          have kc85_1_1 := q.2.1
          have kf85_1_0 := q.2.2.1
          have kf85_1_1 := q.2.2.2.1
          have kl85_1 := q.2.2.2.2.1
          have kn85_1 := q.2.2.2.2.2.1
          have km85_1 := q.2.2.2.2.2.2
          clear q
          have kz85 := h85.size
          (try simp only [World.size_alloc, World.size_setCell, World.size_drew] at kz85)
          have H85 := Lib.hid h85
          clear h85
          exact ⟨rfl, w81.heap.size, w82.heap.size, by first | rfl | simp only [Act.put, List.setIfInBounds_toArray, List.set_cons_zero, List.set_cons_succ], by (repeat (first | with_reducible exact Rel.refl _ | with_reducible refine Rel.alloc ?_ _ | with_reducible refine Rel.setCell ?_ (by first | (simp; done) | (simp; omega) | omega) _ | with_reducible refine Rel.drew ?_ | with_reducible refine Rel.trans ?_ H85.out | with_reducible refine Rel.trans ?_ H84.out | with_reducible refine Rel.trans ?_ H83.out | with_reducible refine Rel.trans ?_ H82.out | with_reducible refine Rel.trans ?_ H81.out | with_reducible exact H0.out)), by first | (simp; done) | (simp; omega) | omega, by first | (simp; done) | (simp; omega) | omega, by first | (simp; done) | (simp; omega) | omega, by first | assumption | (simp; omega), by first | assumption | (simp; omega), by go_simp, by go_simp, by go_simp, by go_simp, by go_simp, by go_simp, by go_simp, by go_simp⟩
        · have q := keep2 h81 (b := w.heap.size) (by first | (simp; done) | (simp; omega) | omega)
          have kc81_0_0 := q.1
          have kc81_0_1 := q.2.1
          have kf81_0_0 := q.2.2.1
          have kf81_0_1 := q.2.2.2.1
          have kl81_0 := q.2.2.2.2.1
          have kn81_0 := q.2.2.2.2.2.1
          have km81_0 := q.2.2.2.2.2.2
          clear q
          have q := keep2 h81 (b := w.heap.size + 1) (by first | (simp; done) | (simp; omega) | omega)
          have kc81_1_0 := q.1
          have kc81_1_1 := q.2.1
          have kf81_1_0 := q.2.2.1
          have kf81_1_1 := q.2.2.2.1
          have kl81_1 := q.2.2.2.2.1
          have kn81_1 := q.2.2.2.2.2.1
          have km81_1 := q.2.2.2.2.2.2
          clear q
          have kz81 := h81.size
          (try simp only [World.size_alloc, World.size_setCell, World.size_drew] at kz81)
          have H81 := Lib.hid h81
          clear h81
          go_simp
          refine hK'.out _ _ (by first | trivial | exact ⟨by go_simp, by go_simp, by go_simp, by go_simp⟩) ?_
          clear hK' K'
          refine wpAnyR_ready (rs := [14]) (by kernel_rfl) (by simp) (AllR.cons rfl (fun w82 h82 K' hK' => ?_) AllR.nil)
          have q := keep2 h82 (b := w81.heap.size) (by first | (simp; done) | (simp; omega) | omega)
          have kc82_0_0 := q.1
          have kc82_0_1 := q.2.1
          have kf82_0_0 := q.2.2.1
          have kf82_0_1 := q.2.2.2.1
          have kl82_0 := q.2.2.2.2.1
          have kn82_0 := q.2.2.2.2.2.1
          have km82_0 := q.2.2.2.2.2.2
          clear q
          have q := keep2 h82 (b := w.heap.size) (by first | (simp; done) | (simp; omega) | omega)
          have kc82_1_0 := q.1
          have kc82_1_1 := q.2.1
          have kf82_1_0 := q.2.2.1
          have kf82_1_1 := q.2.2.2.1
          have kl82_1 := q.2.2.2.2.1
          have kn82_1 := q.2.2.2.2.2.1
          have km82_1 := q.2.2.2.2.2.2
          clear q
          have q := keep2 h82 (b := w.heap.size + 1) (by first | (simp; done) | (simp; omega) | omega)
          have kc82_2_0 := q.1
          have kc82_2_1 := q.2.1
          have kf82_2_0 := q.2.2.1
          have kf82_2_1 := q.2.2.2.1
          have kl82_2 := q.2.2.2.2.1
          have kn82_2 := q.2.2.2.2.2.1
          have km82_2 := q.2.2.2.2.2.2
          clear q
          have kz82 := h82.size
          (try simp only [World.size_alloc, World.size_setCell, World.size_drew] at kz82)
          have H82 := Lib.hid h82
          clear h82
          go_simp
          refine hK'.out _ _ (by first | trivial | exact ⟨by go_simp, by go_simp, by go_simp, by go_simp⟩) ?_
          clear hK' K'
          refine wpAnyR_ready (rs := [16]) (by kernel_rfl) (by simp) (AllR.cons rfl (fun w83 h83 K' hK' => ?_) AllR.nil)
          have q := keep2 h83 (b := w81.heap.size) (by first | (simp; done) | (simp; omega) | omega)
          have kc83_0_0 := q.1
          have kc83_0_1 := q.2.1
          have kf83_0_0 := q.2.2.1
          have kf83_0_1 := q.2.2.2.1
          have kl83_0 := q.2.2.2.2.1
          have kn83_0 := q.2.2.2.2.2.1
          have km83_0 := q.2.2.2.2.2.2
          clear q
          have q := keep2 h83 (b := w82.heap.size) (by first | (simp; done) | (simp; omega) | omega)
          have kc83_1_0 := q.1
          have kc83_1_1 := q.2.1
          have kf83_1_0 := q.2.2.1
          have kf83_1_1 := q.2.2.2.1
          have kl83_1 := q.2.2.2.2.1
          have kn83_1 := q.2.2.2.2.2.1
          have km83_1 := q.2.2.2.2.2.2
          clear q
          have q := keep2 h83 (b := w.heap.size) (by first | (simp; done) | (simp; omega) | omega)
          have kc83_2_0 := q.1
          have kc83_2_1 := q.2.1
          have kf83_2_0 := q.2.2.1
          have kf83_2_1 := q.2.2.2.1
          have kl83_2 := q.2.2.2.2.1
          have kn83_2 := q.2.2.2.2.2.1
          have km83_2 := q.2.2.2.2.2.2
          clear q
          have q := keep2 h83 (b := w.heap.size + 1) (by first | (simp; done) | (simp; omega) | omega)
          have kc83_3_0 := q.1
          have kc83_3_1 := q.2.1
          have kf83_3_0 := q.2.2.1
          have kf83_3_1 := q.2.2.2.1
          have kl83_3 := q.2.2.2.2.1
          have kn83_3 := q.2.2.2.2.2.1
          have km83_3 := q.2.2.2.2.2.2
          clear q
          have kz83 := h83.size
          (try simp only [World.size_alloc, World.size_setCell, World.size_drew] at kz83)
          have H83 := Lib.hid h83
          clear h83
          go_simp
          refine hK'.out _ _ (by first | trivial | exact ⟨by go_simp, by go_simp, by go_simp, by go_simp⟩) ?_
          clear hK' K'
          refine wpAnyR_ready (rs := [17]) (by kernel_rfl) (by simp) (AllR.cons rfl (fun w84 h84 K' hK' => ?_) AllR.nil)
          have q := keep2 h84 (b := w81.heap.size) (by first | (simp; done) | (simp; omega) | omega)
          have kc84_0_0 := q.1
          have kc84_0_1 := q.2.1
          have kf84_0_0 := q.2.2.1
          have kf84_0_1 := q.2.2.2.1
          have kl84_0 := q.2.2.2.2.1
          have kn84_0 := q.2.2.2.2.2.1
          have km84_0 := q.2.2.2.2.2.2
          clear q
          have q := keep2 h84 (b := w82.heap.size) (by first | (simp; done) | (simp; omega) | omega)
          have kc84_1_0 := q.1
          have kc84_1_1 := q.2.1
          have kf84_1_0 := q.2.2.1
          have kf84_1_1 := q.2.2.2.1
          have kl84_1 := q.2.2.2.2.1
          have kn84_1 := q.2.2.2.2.2.1
          have km84_1 := q.2.2.2.2.2.2
          clear q
          have q := keep2 h84 (b := w.heap.size) (by first | (simp; done) | (simp; omega) | omega)
          have kc84_2_0 := q.1
          have kc84_2_1 := q.2.1
          have kf84_2_0 := q.2.2.1
          have kf84_2_1 := q.2.2.2.1
          have kl84_2 := q.2.2.2.2.1
          have kn84_2 := q.2.2.2.2.2.1
          have km84_2 := q.2.2.2.2.2.2
          clear q
          have q := keep2 h84 (b := w.heap.size + 1) (by first | (simp; done) | (simp; omega) | omega)
          have kc84_3_0 := q.1
          have kc84_3_1 := q.2.1
          have kf84_3_0 := q.2.2.1
          have kf84_3_1 := q.2.2.2.1
          have kl84_3 := q.2.2.2.2.1
          have kn84_3 := q.2.2.2.2.2.1
          have km84_3 := q.2.2.2.2.2.2
          clear q
          have kz84 := h84.size
          (try simp only [World.size_alloc, World.size_setCell, World.size_drew] at kz84)
          have H84 := Lib.hid h84
          clear h84
          go_simp
          refine hK'.out _ _ (by first | trivial | exact ⟨by go_simp, by go_simp, by go_simp, by go_simp⟩) ?_
          clear hK' K'
          refine wpAnyR_end (by kernel_rfl) (fun w85 h85 => ?_)
          have q := keep2 h85 (b := w82.heap.size) (by first | (simp; done) | (simp; omega) | omega)
          have kc85_0_0 := q.1
          have kc85_0_1 := q.2.1
          have kf85_0_0 := q.2.2.1
          have kf85_0_1 := q.2.2.2.1
          have kl85_0 := q.2.2.2.2.1
          have kn85_0 := q.2.2.2.2.2.1
          have km85_0 := q.2.2.2.2.2.2
          clear q
          have q := keep2 h85 (b := w81.heap.size) (by first | (simp; done) | (simp; omega) | omega)
          have kc85_1_0 := q.1
          have kc85_1_1 := q.2.1
          have kf85_1_0 := q.2.2.1
          have kf85_1_1 := q.2.2.2.1
          have kl85_1 := q.2.2.2.2.1
          have kn85_1 := q.2.2.2.2.2.1
          have km85_1 := q.2.2.2.2.2.2
          clear q
          have kz85 := h85.size
          (try simp only [World.size_alloc, World.size_setCell, World.size_drew] at kz85)
          have H85 := Lib.hid h85
          clear h85
          exact ⟨rfl, w82.heap.size, w81.heap.size, by first | rfl | simp only [Act.put, List.setIfInBounds_toArray, List.set_cons_zero, List.set_cons_succ], by (repeat (first | with_reducible exact Rel.refl _ | with_reducible refine Rel.alloc ?_ _ | with_reducible refine Rel.setCell ?_ (by first | (simp; done) | (simp; omega) | omega) _ | with_reducible refine Rel.drew ?_ | with_reducible refine Rel.trans ?_ H85.out | with_reducible refine Rel.trans ?_ H84.out | with_reducible refine Rel.trans ?_ H83.out | with_reducible refine Rel.trans ?_ H82.out | with_reducible refine Rel.trans ?_ H81.out | with_reducible exact H0.out)), by first | (simp; done) | (simp; omega) | omega, by first | (simp; done) | (simp; omega) | omega, by first | (simp; done) | (simp; omega) | omega, by first | assumption | (simp; omega), by first | assumption | (simp; omega), by go_simp, by go_simp, by go_simp, by go_simp, by go_simp, by go_simp, by go_simp, by go_simp⟩
      intro b1 b2 wt ht
      (try simp only [Act.put, List.setIfInBounds_toArray, List.set_cons_zero, List.set_cons_succ])
      have tr := ht.rel
      have tl1 := ht.lo1
      have tl2 := ht.lo2
      have tn := ht.ne
      have ti1 := ht.in1
      have ti2 := ht.in2
      have tc1 := ht.c10
      have tc2 := ht.c11
      have tc3 := ht.c20
      have tc4 := ht.c21
      have tf1 := ht.f10
      have tf2 := ht.f11
      have tf3 := ht.f20
      have tf4 := ht.f21
      have tn' := Ne.symm tn
      have q := keep2 tr (b := w.heap.size) (by first | (simp; done) | (simp; omega) | omega)
      have kc3_0_0 := q.1
      have kc3_0_1 := q.2.1
      have kf3_0_0 := q.2.2.1
      have kf3_0_1 := q.2.2.2.1
      have kl3_0 := q.2.2.2.2.1
      have kn3_0 := q.2.2.2.2.2.1
      have km3_0 := q.2.2.2.2.2.2
      clear q
      have q := keep2 tr (b := w.heap.size + 1) (by first | (simp; done) | (simp; omega) | omega)
      have kc3_1_0 := q.1
      have kc3_1_1 := q.2.1
      have kf3_1_0 := q.2.2.1
      have kf3_1_1 := q.2.2.2.1
      have kl3_1 := q.2.2.2.2.1
      have kn3_1 := q.2.2.2.2.2.1
      have km3_1 := q.2.2.2.2.2.2
      clear q
      have kz3 := tr.size
      (try simp only [World.size_alloc, World.size_setCell, World.size_drew] at kz3)
      have H3 := Lib.hid tr
      clear tr
      have tm1 : w.heap.size + 1 < b1 := by omega
      have tm2 : w.heap.size + 1 < b2 := by omega
      have e00 : wt.cell? ⟨w.heap.size, 0, none⟩ = some (.int .i64 a) := by go_simp
      have l0 : w.heap.size < wt.heap.size := by omega
      have l1 : w.heap.size + 1 < wt.heap.size := by omega
      have m1 : w.heap.size ≤ b1 := by omega
      have m2 : w.heap.size ≤ b2 := by omega
      have j6 : b1 ≠ w.heap.size := by omega
      have j10 : b2 ≠ w.heap.size := by omega
      have HA : Hid (Rel w wt) := by
        show Rel w wt
        (repeat (first | with_reducible exact Rel.refl _ | with_reducible refine Rel.alloc ?_ _ | with_reducible refine Rel.trans ?_ H3.out | with_reducible refine Rel.trans ?_ H2.out))
      clear H0 H3 kc2_0_0 kc2_0_1 kf2_0_0 kf2_0_1 kl2_0 kn2_0 km2_0 kc2_1_0 kc2_1_1 kf2_1_0 kf2_1_1 kl2_1 kn2_1 km2_1 kz2 kc0_0_0 kc0_0_1 kf0_0_0 kf0_0_1 kl0_0 kn0_0 km0_0 kc0_1_0 kc0_1_1 kf0_1_0 kf0_1_1 kl0_1 kn0_1 km0_1 kz0 kc3_0_0 kc3_0_1 kf3_0_0 kf3_0_1 kl3_0 kn3_0 km3_0 kc3_1_0 kc3_1_1 kf3_1_0 kf3_1_1 kl3_1 kn3_1 km3_1 kz3 H2
      go_wp2_with fail
      refine wp_region_calm (fun _ w' => w'.cell? { block := w.heap.size, off := 0 } = some (.int .i64 a) ∧ w'.cell? { block := b1, off := 0 } = some (.int .u64 xh) ∧ w'.cell? { block := b1, off := 1 } = some (.int .u64 xl) ∧ w'.cell? { block := b2, off := 0 } = some (.int .u64 yh) ∧ w'.cell? { block := b2, off := 1 } = some (.int .u64 yl)) (fun _ => false) [0, 1, 2, 3, 4, 5, 6] 0 (by kernel_rfl) (by kernel_rfl) ?hst ?hS0 (fun w0 h0 => ?_)
      case hst => exact fun _ _ _ h r => ⟨r.cell h.1, r.cell h.2.1, r.cell h.2.2.1, r.cell h.2.2.2.1, r.cell h.2.2.2.2⟩
      case hS0 => exact ⟨by go_simp, by go_simp, by go_simp, by go_simp, by go_simp⟩
      iterate 2
        refine wpCalm_go rfl (by kernel_rfl) (fun K hK => ?_)
        apply Exists.intro
        refine ⟨fun M w hM hS => ?_, hK _ ?_⟩
        · have c1 := hS.1
          have c2 := hS.2.1
          have c3 := hS.2.2.1
          have c4 := hS.2.2.2.1
          have c5 := hS.2.2.2.2
          unfold calmAt
          go_simp
          exact ⟨rfl, Rel.refl _⟩
        clear hK K
      refine wpCalm_go rfl (by kernel_rfl) (fun K hK => ?_)
      apply Exists.intro
      refine ⟨fun M w hM hS => ?_, hK _ ?_⟩
      · unfold calmAt
        go_simp
        with_reducible refine (L.out _).mono ?_
        rintro e w1 ⟨rfl, hb⟩
        exact ⟨rfl, hb⟩
      clear hK K
      iterate 4
        refine wpCalm_go rfl (by kernel_rfl) (fun K hK => ?_)
        apply Exists.intro
        refine ⟨fun M w hM hS => ?_, hK _ ?_⟩
        · have c1 := hS.1
          have c2 := hS.2.1
          have c3 := hS.2.2.1
          have c4 := hS.2.2.2.1
          have c5 := hS.2.2.2.2
          unfold calmAt
          go_simp
          exact ⟨rfl, Rel.refl _⟩
        clear hK K
      refine wpAnyR_end (by kernel_rfl) (fun w4 h4' => ?_)
      (try simp only [Act.put, List.setIfInBounds_toArray, List.set_cons_zero, List.set_cons_succ])
      have h4 := h0.trans h4'
      clear h0 h4'
      have kz4 := h4.size
      (try simp only [World.size_alloc, World.size_setCell, World.size_drew] at kz4)
      have H4 := Lib.hid h4
      clear h4
      obtain rfl := HRR.out
      cases r
      all_goals
        go_wp2
        go_ret
        exact ⟨rfl, by (show Rel _ _; repeat (first | with_reducible exact Rel.refl _ | with_reducible refine Rel.alloc ?_ _ | with_reducible refine Rel.setCell ?_ (by first | (simp; done) | (simp; omega) | omega) _ | with_reducible refine Rel.trans ?_ H4.out | with_reducible exact HA.out))⟩
    · have HRR := Lib.hid hR
      clear HW hR
      go_enter Try.func48, Try.ntmps48
      go_wp2_with fail
      refine wp_region_calm (fun _ w' => w'.cell? { block := w.heap.size, off := 0 } = some (.int .i64 a) ∧ w'.cell? { block := w.heap.size, off := 1 } = some (.int .i64 B) ∧ w'.cell? { block := w.heap.size + 1, off := 0 } = some (.int .i64 c) ∧ w'.cell? { block := w.heap.size + 1, off := 1 } = some (.int .i64 D)) (fun _ => false) [0, 1, 2, 3, 4, 5, 6, 7, 8, 9, 10, 11, 12, 13] 4 (by kernel_rfl) (by kernel_rfl) ?hst ?hS0 (fun w0 h0 => ?_)
      case hst => exact fun _ _ _ h r => ⟨r.cell h.1, r.cell h.2.1, r.cell h.2.2.1, r.cell h.2.2.2⟩
      case hS0 => exact ⟨by go_simp, by go_simp, by go_simp, by go_simp⟩
      iterate 2
        refine wpCalm_go rfl (by kernel_rfl) (fun K hK => ?_)
        apply Exists.intro
        refine ⟨fun M w hM hS => ?_, hK _ ?_⟩
        · have c1 := hS.1
          have c2 := hS.2.1
          have c3 := hS.2.2.1
          have c4 := hS.2.2.2
          unfold calmAt
          go_simp
          exact ⟨rfl, Rel.refl _⟩
        clear hK K
      refine wpCalm_go rfl (by kernel_rfl) (fun K hK => ?_)
      apply Exists.intro
      refine ⟨fun M w hM hS => ?_, hK _ ?_⟩
      · have c1 := hS.1
        have c2 := hS.2.1
        have c3 := hS.2.2.1
        have c4 := hS.2.2.2
        unfold calmAt
        go_simp
        with_reducible refine (S1.out _).mono ?_
        rintro e w1 ⟨rfl, rfl⟩
        exact ⟨rfl, Rel.refl _⟩
      clear hK K
      iterate 3
        refine wpCalm_go rfl (by kernel_rfl) (fun K hK => ?_)
        apply Exists.intro
        refine ⟨fun M w hM hS => ?_, hK _ ?_⟩
        · have c1 := hS.1
          have c2 := hS.2.1
          have c3 := hS.2.2.1
          have c4 := hS.2.2.2
          unfold calmAt
          go_simp
          exact ⟨rfl, Rel.refl _⟩
        clear hK K
      refine wpCalm_go rfl (by kernel_rfl) (fun K hK => ?_)
      apply Exists.intro
      refine ⟨fun M w hM hS => ?_, hK _ ?_⟩
      · unfold calmAt
        go_simp
        with_reducible refine (T1.out _).mono ?_
        rintro e w1 ⟨rfl, hb⟩
        exact ⟨rfl, hb⟩
      clear hK K
      iterate 2
        refine wpCalm_go rfl (by kernel_rfl) (fun K hK => ?_)
        apply Exists.intro
        refine ⟨fun M w hM hS => ?_, hK _ ?_⟩
        · have c1 := hS.1
          have c2 := hS.2.1
          have c3 := hS.2.2.1
          have c4 := hS.2.2.2
          unfold calmAt
          go_simp
          exact ⟨rfl, Rel.refl _⟩
        clear hK K
      refine wpCalm_go rfl (by kernel_rfl) (fun K hK => ?_)
      apply Exists.intro
      refine ⟨fun M w hM hS => ?_, hK _ ?_⟩
      · have c1 := hS.1
        have c2 := hS.2.1
        have c3 := hS.2.2.1
        have c4 := hS.2.2.2
        unfold calmAt
        go_simp
        with_reducible refine (S3.out _).mono ?_
        rintro e w1 ⟨rfl, rfl⟩
        exact ⟨rfl, Rel.refl _⟩
      clear hK K
      iterate 3
        refine wpCalm_go rfl (by kernel_rfl) (fun K hK => ?_)
        apply Exists.intro
        refine ⟨fun M w hM hS => ?_, hK _ ?_⟩
        · have c1 := hS.1
          have c2 := hS.2.1
          have c3 := hS.2.2.1
          have c4 := hS.2.2.2
          unfold calmAt
          go_simp
          exact ⟨rfl, Rel.refl _⟩
        clear hK K
      refine wpCalm_go rfl (by kernel_rfl) (fun K hK => ?_)
      apply Exists.intro
      refine ⟨fun M w hM hS => ?_, hK _ ?_⟩
      · unfold calmAt
        go_simp
        with_reducible refine (T2.out _).mono ?_
        rintro e w1 ⟨rfl, hb⟩
        exact ⟨rfl, hb⟩
      clear hK K
      refine wpCalm_nil ?_
      have hq := ((Rel.refl w).alloc (.cells #[.int .i64 a, .int .i64 B] 23)).alloc (.cells #[.int .i64 c, .int .i64 D] 23)
      have h2 := h0
      clear h0
      have q := keep2 h2 (b := w.heap.size) (by first | (simp; done) | (simp; omega) | omega)
      have kc2_0_0 := q.1
      have kc2_0_1 := q.2.1
      have kf2_0_0 := q.2.2.1
      have kf2_0_1 := q.2.2.2.1
      have kl2_0 := q.2.2.2.2.1
      have kn2_0 := q.2.2.2.2.2.1
      have km2_0 := q.2.2.2.2.2.2
      clear q
      have q := keep2 h2 (b := w.heap.size + 1) (by first | (simp; done) | (simp; omega) | omega)
      have kc2_1_0 := q.1
      have kc2_1_1 := q.2.1
      have kf2_1_0 := q.2.2.1
      have kf2_1_1 := q.2.2.2.1
      have kl2_1 := q.2.2.2.2.1
      have kn2_1 := q.2.2.2.2.2.1
      have km2_1 := q.2.2.2.2.2.2
      clear q
      have kz2 := h2.size
      (try simp only [World.size_alloc, World.size_setCell, World.size_drew] at kz2)
      have H2 := Lib.hid h2
      clear h2
      have h0 := Rel.refl w0
      have q := keep2 h0 (b := w.heap.size) (by first | (simp; done) | (simp; omega) | omega)
      have kc0_0_0 := q.1
      have kc0_0_1 := q.2.1
      have kf0_0_0 := q.2.2.1
      have kf0_0_1 := q.2.2.2.1
      have kl0_0 := q.2.2.2.2.1
      have kn0_0 := q.2.2.2.2.2.1
      have km0_0 := q.2.2.2.2.2.2
      clear q
      have q := keep2 h0 (b := w.heap.size + 1) (by first | (simp; done) | (simp; omega) | omega)
      have kc0_1_0 := q.1
      have kc0_1_1 := q.2.1
      have kf0_1_0 := q.2.2.1
      have kf0_1_1 := q.2.2.2.1
      have kl0_1 := q.2.2.2.2.1
      have kn0_1 := q.2.2.2.2.2.1
      have km0_1 := q.2.2.2.2.2.2
      clear q
      have kz0 := h0.size
      (try simp only [World.size_alloc, World.size_setCell, World.size_drew] at kz0)
      have H0 := Lib.hid h0
      clear h0
      (try simp only [Act.put, List.setIfInBounds_toArray, List.set_cons_zero, List.set_cons_succ])
      refine wpAnyR_two (d1 := 5) (d2 := 6) (W := w0) (u0 := .int .u64 xh) (u1 := .int .u64 xl) (v0 := .int .u64 yh) (v1 := .int .u64 yl) ?_ ?_
      · refine wpAnyR_ready (rs := [14, 15]) (by kernel_rfl) (by simp) (AllR.cons rfl (fun w81 h81 K' hK' => ?_) (AllR.cons rfl (fun w81 h81 K' hK' => ?_) AllR.nil))
        · have q := keep2 h81 (b := w.heap.size) (by first | (simp; done) | (simp; omega) | omega)
          have kc81_0_0 := q.1
          have kc81_0_1 := q.2.1
          have kf81_0_0 := q.2.2.1
          have kf81_0_1 := q.2.2.2.1
          have kl81_0 := q.2.2.2.2.1
          have kn81_0 := q.2.2.2.2.2.1
          have km81_0 := q.2.2.2.2.2.2
          clear q
          have q := keep2 h81 (b := w.heap.size + 1) (by first | (simp; done) | (simp; omega) | omega)
          have kc81_1_0 := q.1
          have kc81_1_1 := q.2.1
          have kf81_1_0 := q.2.2.1
          have kf81_1_1 := q.2.2.2.1
          have kl81_1 := q.2.2.2.2.1
          have kn81_1 := q.2.2.2.2.2.1
          have km81_1 := q.2.2.2.2.2.2
          clear q
          have kz81 := h81.size
          (try simp only [World.size_alloc, World.size_setCell, World.size_drew] at kz81)
          have H81 := Lib.hid h81
          clear h81
          go_simp
          refine hK'.out _ _ (by first | trivial | exact ⟨by go_simp, by go_simp, by go_simp, by go_simp⟩) ?_
          clear hK' K'
          refine wpAnyR_ready (rs := [15]) (by kernel_rfl) (by simp) (AllR.cons rfl (fun w82 h82 K' hK' => ?_) AllR.nil)
          have q := keep2 h82 (b := w81.heap.size) (by first | (simp; done) | (simp; omega) | omega)
          have kc82_0_0 := q.1
          have kc82_0_1 := q.2.1
          have kf82_0_0 := q.2.2.1
          have kf82_0_1 := q.2.2.2.1
          have kl82_0 := q.2.2.2.2.1
          have kn82_0 := q.2.2.2.2.2.1
          have km82_0 := q.2.2.2.2.2.2
          clear q
          have q := keep2 h82 (b := w.heap.size) (by first | (simp; done) | (simp; omega) | omega)
          have kc82_1_0 := q.1
          have kc82_1_1 := q.2.1
          have kf82_1_0 := q.2.2.1
          have kf82_1_1 := q.2.2.2.1
          have kl82_1 := q.2.2.2.2.1
          have kn82_1 := q.2.2.2.2.2.1
          have km82_1 := q.2.2.2.2.2.2
          clear q
          have q := keep2 h82 (b := w.heap.size + 1) (by first | (simp; done) | (simp; omega) | omega)
          have kc82_2_0 := q.1
          have kc82_2_1 := q.2.1
          have kf82_2_0 := q.2.2.1
          have kf82_2_1 := q.2.2.2.1
          have kl82_2 := q.2.2.2.2.1
          have kn82_2 := q.2.2.2.2.2.1
          have km82_2 := q.2.2.2.2.2.2
          clear q
          have kz82 := h82.size
          (try simp only [World.size_alloc, World.size_setCell, World.size_drew] at kz82)
          have H82 := Lib.hid h82
          clear h82
          go_simp
          refine hK'.out _ _ (by first | trivial | exact ⟨by go_simp, by go_simp, by go_simp, by go_simp⟩) ?_
          clear hK' K'
          refine wpAnyR_ready (rs := [16]) (by kernel_rfl) (by simp) (AllR.cons rfl (fun w83 h83 K' hK' => ?_) AllR.nil)
          have q := keep2 h83 (b := w81.heap.size) (by first | (simp; done) | (simp; omega) | omega)
          have kc83_0_0 := q.1
          have kc83_0_1 := q.2.1
          have kf83_0_0 := q.2.2.1
          have kf83_0_1 := q.2.2.2.1
          have kl83_0 := q.2.2.2.2.1
          have kn83_0 := q.2.2.2.2.2.1
          have km83_0 := q.2.2.2.2.2.2
          clear q
          have q := keep2 h83 (b := w82.heap.size) (by first | (simp; done) | (simp; omega) | omega)
          have kc83_1_0 := q.1
          have kc83_1_1 := q.2.1
          have kf83_1_0 := q.2.2.1
          have kf83_1_1 := q.2.2.2.1
          have kl83_1 := q.2.2.2.2.1
          have kn83_1 := q.2.2.2.2.2.1
          have km83_1 := q.2.2.2.2.2.2
          clear q
          have q := keep2 h83 (b := w.heap.size) (by first | (simp; done) | (simp; omega) | omega)
          have kc83_2_0 := q.1
          have kc83_2_1 := q.2.1
          have kf83_2_0 := q.2.2.1
          have kf83_2_1 := q.2.2.2.1
          have kl83_2 := q.2.2.2.2.1
          have kn83_2 := q.2.2.2.2.2.1
          have km83_2 := q.2.2.2.2.2.2
          clear q
          have q := keep2 h83 (b := w.heap.size + 1) (by first | (simp; done) | (simp; omega) | omega)
          have kc83_3_0 := q.1
          have kc83_3_1 := q.2.1
          have kf83_3_0 := q.2.2.1
          have kf83_3_1 := q.2.2.2.1
          have kl83_3 := q.2.2.2.2.1
          have kn83_3 := q.2.2.2.2.2.1
          have km83_3 := q.2.2.2.2.2.2
          clear q
          have kz83 := h83.size
          (try simp only [World.size_alloc, World.size_setCell, World.size_drew] at kz83)
          have H83 := Lib.hid h83
          clear h83
          go_simp
          refine hK'.out _ _ (by first | trivial | exact ⟨by go_simp, by go_simp, by go_simp, by go_simp⟩) ?_
          clear hK' K'
          refine wpAnyR_ready (rs := [17]) (by kernel_rfl) (by simp) (AllR.cons rfl (fun w84 h84 K' hK' => ?_) AllR.nil)
          have q := keep2 h84 (b := w81.heap.size) (by first | (simp; done) | (simp; omega) | omega)
          have kc84_0_0 := q.1
          have kc84_0_1 := q.2.1
          have kf84_0_0 := q.2.2.1
          have kf84_0_1 := q.2.2.2.1
          have kl84_0 := q.2.2.2.2.1
          have kn84_0 := q.2.2.2.2.2.1
          have km84_0 := q.2.2.2.2.2.2
          clear q
          have q := keep2 h84 (b := w82.heap.size) (by first | (simp; done) | (simp; omega) | omega)
          have kc84_1_0 := q.1
          have kc84_1_1 := q.2.1
          have kf84_1_0 := q.2.2.1
          have kf84_1_1 := q.2.2.2.1
          have kl84_1 := q.2.2.2.2.1
          have kn84_1 := q.2.2.2.2.2.1
          have km84_1 := q.2.2.2.2.2.2
          clear q
          have q := keep2 h84 (b := w.heap.size) (by first | (simp; done) | (simp; omega) | omega)
          have kc84_2_0 := q.1
          have kc84_2_1 := q.2.1
          have kf84_2_0 := q.2.2.1
          have kf84_2_1 := q.2.2.2.1
          have kl84_2 := q.2.2.2.2.1
          have kn84_2 := q.2.2.2.2.2.1
          have km84_2 := q.2.2.2.2.2.2
          clear q
          have q := keep2 h84 (b := w.heap.size + 1) (by first | (simp; done) | (simp; omega) | omega)
          have kc84_3_0 := q.1
          have kc84_3_1 := q.2.1
          have kf84_3_0 := q.2.2.1
          have kf84_3_1 := q.2.2.2.1
          have kl84_3 := q.2.2.2.2.1
          have kn84_3 := q.2.2.2.2.2.1
          have km84_3 := q.2.2.2.2.2.2
          clear q
          have kz84 := h84.size
          (try simp only [World.size_alloc, World.size_setCell, World.size_drew] at kz84)
          have H84 := Lib.hid h84
          clear h84
          go_simp
          refine hK'.out _ _ (by first | trivial | exact ⟨by go_simp, by go_simp, by go_simp, by go_simp⟩) ?_
          clear hK' K'
          refine wpAnyR_end (by kernel_rfl) (fun w85 h85 => ?_)
          have q := keep2 h85 (b := w81.heap.size) (by first | (simp; done) | (simp; omega) | omega)
          have kc85_0_0 := q.1
          have kc85_0_1 := q.2.1
          have kf85_0_0 := q.2.2.1
          have kf85_0_1 := q.2.2.2.1
          have kl85_0 := q.2.2.2.2.1
          have kn85_0 := q.2.2.2.2.2.1
          have km85_0 := q.2.2.2.2.2.2
          clear q
          have q := keep2 h85 (b := w82.heap.size) (by first | (simp; done) | (simp; omega) | omega)
          have kc85_1_0 := q.1
          have kc85_1_1 := q.2.1
          have kf85_1_0 := q.2.2.1
          have kf85_1_1 := q.2.2.2.1
          have kl85_1 := q.2.2.2.2.1
          have kn85_1 := q.2.2.2.2.2.1
          have km85_1 := q.2.2.2.2.2.2
          clear q
          have kz85 := h85.size
          (try simp only [World.size_alloc, World.size_setCell, World.size_drew] at kz85)
          have H85 := Lib.hid h85
          clear h85
          exact ⟨rfl, w81.heap.size, w82.heap.size, by first | rfl | simp only [Act.put, List.setIfInBounds_toArray, List.set_cons_zero, List.set_cons_succ], by (repeat (first | with_reducible exact Rel.refl _ | with_reducible refine Rel.alloc ?_ _ | with_reducible refine Rel.setCell ?_ (by first | (simp; done) | (simp; omega) | omega) _ | with_reducible refine Rel.drew ?_ | with_reducible refine Rel.trans ?_ H85.out | with_reducible refine Rel.trans ?_ H84.out | with_reducible refine Rel.trans ?_ H83.out | with_reducible refine Rel.trans ?_ H82.out | with_reducible refine Rel.trans ?_ H81.out | with_reducible exact H0.out)), by first | (simp; done) | (simp; omega) | omega, by first | (simp; done) | (simp; omega) | omega, by first | (simp; done) | (simp; omega) | omega, by first | assumption | (simp; omega), by first | assumption | (simp; omega), by go_simp, by go_simp, by go_simp, by go_simp, by go_simp, by go_simp, by go_simp, by go_simp⟩
        · have q := keep2 h81 (b := w.heap.size) (by first | (simp; done) | (simp; omega) | omega)
          have kc81_0_0 := q.1
          have kc81_0_1 := q.2.1
          have kf81_0_0 := q.2.2.1
          have kf81_0_1 := q.2.2.2.1
          have kl81_0 := q.2.2.2.2.1
          have kn81_0 := q.2.2.2.2.2.1
          have km81_0 := q.2.2.2.2.2.2
          clear q
          have q := keep2 h81 (b := w.heap.size + 1) (by first | (simp; done) | (simp; omega) | omega)
          have kc81_1_0 := q.1
          have kc81_1_1 := q.2.1
          have kf81_1_0 := q.2.2.1
          have kf81_1_1 := q.2.2.2.1
          have kl81_1 := q.2.2.2.2.1
          have kn81_1 := q.2.2.2.2.2.1
          have km81_1 := q.2.2.2.2.2.2
          clear q
          have kz81 := h81.size
          (try simp only [World.size_alloc, World.size_setCell, World.size_drew] at kz81)
          have H81 := Lib.hid h81
          clear h81
          go_simp
          refine hK'.out _ _ (by first | trivial | exact ⟨by go_simp, by go_simp, by go_simp, by go_simp⟩) ?_
          clear hK' K'
          refine wpAnyR_ready (rs := [14]) (by kernel_rfl) (by simp) (AllR.cons rfl (fun w82 h82 K' hK' => ?_) AllR.nil)
          have q := keep2 h82 (b := w81.heap.size) (by first | (simp; done) | (simp; omega) | omega)
          have kc82_0_0 := q.1
          have kc82_0_1 := q.2.1
          have kf82_0_0 := q.2.2.1
          have kf82_0_1 := q.2.2.2.1
          have kl82_0 := q.2.2.2.2.1
          have kn82_0 := q.2.2.2.2.2.1
          have km82_0 := q.2.2.2.2.2.2
          clear q
          have q := keep2 h82 (b := w.heap.size) (by first | (simp; done) | (simp; omega) | omega)
          have kc82_1_0 := q.1
          have kc82_1_1 := q.2.1
          have kf82_1_0 := q.2.2.1
          have kf82_1_1 := q.2.2.2.1
          have kl82_1 := q.2.2.2.2.1
          have kn82_1 := q.2.2.2.2.2.1
          have km82_1 := q.2.2.2.2.2.2
          clear q
          have q := keep2 h82 (b := w.heap.size + 1) (by first | (simp; done) | (simp; omega) | omega)
          have kc82_2_0 := q.1
          have kc82_2_1 := q.2.1
          have kf82_2_0 := q.2.2.1
          have kf82_2_1 := q.2.2.2.1
          have kl82_2 := q.2.2.2.2.1
          have kn82_2 := q.2.2.2.2.2.1
          have km82_2 := q.2.2.2.2.2.2
          clear q
          have kz82 := h82.size
          (try simp only [World.size_alloc, World.size_setCell, World.size_drew] at kz82)
          have H82 := Lib.hid h82
          clear h82
          go_simp
          refine hK'.out _ _ (by first | trivial | exact ⟨by go_simp, by go_simp, by go_simp, by go_simp⟩) ?_
          clear hK' K'
          refine wpAnyR_ready (rs := [16]) (by kernel_rfl) (by simp) (AllR.cons rfl (fun w83 h83 K' hK' => ?_) AllR.nil)
          have q := keep2 h83 (b := w81.heap.size) (by first | (simp; done) | (simp; omega) | omega)
          have kc83_0_0 := q.1
          have kc83_0_1 := q.2.1
          have kf83_0_0 := q.2.2.1
          have kf83_0_1 := q.2.2.2.1
          have kl83_0 := q.2.2.2.2.1
          have kn83_0 := q.2.2.2.2.2.1
          have km83_0 := q.2.2.2.2.2.2
          clear q
          have q := keep2 h83 (b := w82.heap.size) (by first | (simp; done) | (simp; omega) | omega)
          have kc83_1_0 := q.1
          have kc83_1_1 := q.2.1
          have kf83_1_0 := q.2.2.1
          have kf83_1_1 := q.2.2.2.1
          have kl83_1 := q.2.2.2.2.1
          have kn83_1 := q.2.2.2.2.2.1
          have km83_1 := q.2.2.2.2.2.2
          clear q
          have q := keep2 h83 (b := w.heap.size) (by first | (simp; done) | (simp; omega) | omega)
          have kc83_2_0 := q.1
          have kc83_2_1 := q.2.1
          have kf83_2_0 := q.2.2.1
          have kf83_2_1 := q.2.2.2.1
          have kl83_2 := q.2.2.2.2.1
          have kn83_2 := q.2.2.2.2.2.1
          have km83_2 := q.2.2.2.2.2.2
          clear q
          have q := keep2 h83 (b := w.heap.size + 1) (by first | (simp; done) | (simp; omega) | omega)
          have kc83_3_0 := q.1
          have kc83_3_1 := q.2.1
          have kf83_3_0 := q.2.2.1
          have kf83_3_1 := q.2.2.2.1
          have kl83_3 := q.2.2.2.2.1
          have kn83_3 := q.2.2.2.2.2.1
          have km83_3 := q.2.2.2.2.2.2
          clear q
          have kz83 := h83.size
          (try simp only [World.size_alloc, World.size_setCell, World.size_drew] at kz83)
          have H83 := Lib.hid h83
          clear h83
          go_simp
          refine hK'.out _ _ (by first | trivial | exact ⟨by go_simp, by go_simp, by go_simp, by go_simp⟩) ?_
          clear hK' K'
          refine wpAnyR_ready (rs := [17]) (by kernel_rfl) (by simp) (AllR.cons rfl (fun w84 h84 K' hK' => ?_) AllR.nil)
          have q := keep2 h84 (b := w81.heap.size) (by first | (simp; done) | (simp; omega) | omega)
          have kc84_0_0 := q.1
          have kc84_0_1 := q.2.1
          have kf84_0_0 := q.2.2.1
          have kf84_0_1 := q.2.2.2.1
          have kl84_0 := q.2.2.2.2.1
          have kn84_0 := q.2.2.2.2.2.1
          have km84_0 := q.2.2.2.2.2.2
          clear q
          have q := keep2 h84 (b := w82.heap.size) (by first | (simp; done) | (simp; omega) | omega)
          have kc84_1_0 := q.1
          have kc84_1_1 := q.2.1
          have kf84_1_0 := q.2.2.1
          have kf84_1_1 := q.2.2.2.1
          have kl84_1 := q.2.2.2.2.1
          have kn84_1 := q.2.2.2.2.2.1
          have km84_1 := q.2.2.2.2.2.2
          clear q
          have q := keep2 h84 (b := w.heap.size) (by first | (simp; done) | (simp; omega) | omega)
          have kc84_2_0 := q.1
          have kc84_2_1 := q.2.1
          have kf84_2_0 := q.2.2.1
          have kf84_2_1 := q.2.2.2.1
          have kl84_2 := q.2.2.2.2.1
          have kn84_2 := q.2.2.2.2.2.1
          have km84_2 := q.2.2.2.2.2.2
          clear q
          have q := keep2 h84 (b := w.heap.size + 1) (by first | (simp; done) | (simp; omega) | omega)
          have kc84_3_0 := q.1
          have kc84_3_1 := q.2.1
          have kf84_3_0 := q.2.2.1
          have kf84_3_1 := q.2.2.2.1
          have kl84_3 := q.2.2.2.2.1
          have kn84_3 := q.2.2.2.2.2.1
          have km84_3 := q.2.2.2.2.2.2
          clear q
          have kz84 := h84.size
          (try simp only [World.size_alloc, World.size_setCell, World.size_drew] at kz84)
          have H84 := Lib.hid h84
          clear h84
          go_simp
          refine hK'.out _ _ (by first | trivial | exact ⟨by go_simp, by go_simp, by go_simp, by go_simp⟩) ?_
          clear hK' K'
          refine wpAnyR_end (by kernel_rfl) (fun w85 h85 => ?_)
          have q := keep2 h85 (b := w82.heap.size) (by first | (simp; done) | (simp; omega) | omega)
          have kc85_0_0 := q.1
          have kc85_0_1 := q.2.1
          have kf85_0_0 := q.2.2.1
          have kf85_0_1 := q.2.2.2.1
          have kl85_0 := q.2.2.2.2.1
          have kn85_0 := q.2.2.2.2.2.1
          have km85_0 := q.2.2.2.2.2.2
          clear q
          have q := keep2 h85 (b := w81.heap.size) (by first | (simp; done) | (simp; omega) | omega)
          have kc85_1_0 := q.1
          have kc85_1_1 := q.2.1
          have kf85_1_0 := q.2.2.1
          have kf85_1_1 := q.2.2.2.1
          have kl85_1 := q.2.2.2.2.1
          have kn85_1 := q.2.2.2.2.2.1
          have km85_1 := q.2.2.2.2.2.2
          clear q
          have kz85 := h85.size
          (try simp only [World.size_alloc, World.size_setCell, World.size_drew] at kz85)
          have H85 := Lib.hid h85
          clear h85
          exact ⟨rfl, w82.heap.size, w81.heap.size, by first | rfl | simp only [Act.put, List.setIfInBounds_toArray, List.set_cons_zero, List.set_cons_succ], by (repeat (first | with_reducible exact Rel.refl _ | with_reducible refine Rel.alloc ?_ _ | with_reducible refine Rel.setCell ?_ (by first | (simp; done) | (simp; omega) | omega) _ | with_reducible refine Rel.drew ?_ | with_reducible refine Rel.trans ?_ H85.out | with_reducible refine Rel.trans ?_ H84.out | with_reducible refine Rel.trans ?_ H83.out | with_reducible refine Rel.trans ?_ H82.out | with_reducible refine Rel.trans ?_ H81.out | with_reducible exact H0.out)), by first | (simp; done) | (simp; omega) | omega, by first | (simp; done) | (simp; omega) | omega, by first | (simp; done) | (simp; omega) | omega, by first | assumption | (simp; omega), by first | assumption | (simp; omega), by go_simp, by go_simp, by go_simp, by go_simp, by go_simp, by go_simp, by go_simp, by go_simp⟩
      intro b1 b2 wt ht
      (try simp only [Act.put, List.setIfInBounds_toArray, List.set_cons_zero, List.set_cons_succ])
      have tr := ht.rel
      have tl1 := ht.lo1
      have tl2 := ht.lo2
      have tn := ht.ne
      have ti1 := ht.in1
      have ti2 := ht.in2
      have tc1 := ht.c10
      have tc2 := ht.c11
      have tc3 := ht.c20
      have tc4 := ht.c21
      have tf1 := ht.f10
      have tf2 := ht.f11
      have tf3 := ht.f20
      have tf4 := ht.f21
      have tn' := Ne.symm tn
      have q := keep2 tr (b := w.heap.size) (by first | (simp; done) | (simp; omega) | omega)
      have kc3_0_0 := q.1
      have kc3_0_1 := q.2.1
      have kf3_0_0 := q.2.2.1
      have kf3_0_1 := q.2.2.2.1
      have kl3_0 := q.2.2.2.2.1
      have kn3_0 := q.2.2.2.2.2.1
      have km3_0 := q.2.2.2.2.2.2
      clear q
      have q := keep2 tr (b := w.heap.size + 1) (by first | (simp; done) | (simp; omega) | omega)
      have kc3_1_0 := q.1
      have kc3_1_1 := q.2.1
      have kf3_1_0 := q.2.2.1
      have kf3_1_1 := q.2.2.2.1
      have kl3_1 := q.2.2.2.2.1
      have kn3_1 := q.2.2.2.2.2.1
      have km3_1 := q.2.2.2.2.2.2
      clear q
      have kz3 := tr.size
      (try simp only [World.size_alloc, World.size_setCell, World.size_drew] at kz3)
      have H3 := Lib.hid tr
      clear tr
      have tm1 : w.heap.size + 1 < b1 := by omega
      have tm2 : w.heap.size + 1 < b2 := by omega
      have e00 : wt.cell? ⟨w.heap.size, 0, none⟩ = some (.int .i64 a) := by go_simp
      have l0 : w.heap.size < wt.heap.size := by omega
      have l1 : w.heap.size + 1 < wt.heap.size := by omega
      have m1 : w.heap.size ≤ b1 := by omega
      have m2 : w.heap.size ≤ b2 := by omega
      have j6 : b1 ≠ w.heap.size := by omega
      have j10 : b2 ≠ w.heap.size := by omega
      have HA : Hid (Rel w wt) := by
        show Rel w wt
        (repeat (first | with_reducible exact Rel.refl _ | with_reducible refine Rel.alloc ?_ _ | with_reducible refine Rel.trans ?_ H3.out | with_reducible refine Rel.trans ?_ H2.out))
      clear H0 H3 kc2_0_0 kc2_0_1 kf2_0_0 kf2_0_1 kl2_0 kn2_0 km2_0 kc2_1_0 kc2_1_1 kf2_1_0 kf2_1_1 kl2_1 kn2_1 km2_1 kz2 kc0_0_0 kc0_0_1 kf0_0_0 kf0_0_1 kl0_0 kn0_0 km0_0 kc0_1_0 kc0_1_1 kf0_1_0 kf0_1_1 kl0_1 kn0_1 km0_1 kz0 kc3_0_0 kc3_0_1 kf3_0_0 kf3_0_1 kl3_0 kn3_0 km3_0 kc3_1_0 kc3_1_1 kf3_1_0 kf3_1_1 kl3_1 kn3_1 km3_1 kz3 H2
      go_wp2_with fail
      refine wp_region_calm (fun _ w' => w'.cell? { block := w.heap.size, off := 0 } = some (.int .i64 a) ∧ w'.cell? { block := b1, off := 0 } = some (.int .u64 xh) ∧ w'.cell? { block := b1, off := 1 } = some (.int .u64 xl) ∧ w'.cell? { block := b2, off := 0 } = some (.int .u64 yh) ∧ w'.cell? { block := b2, off := 1 } = some (.int .u64 yl)) (fun _ => false) [0, 1, 2, 3, 4, 5, 6] 0 (by kernel_rfl) (by kernel_rfl) ?hst ?hS0 (fun w0 h0 => ?_)
      case hst => exact fun _ _ _ h r => ⟨r.cell h.1, r.cell h.2.1, r.cell h.2.2.1, r.cell h.2.2.2.1, r.cell h.2.2.2.2⟩
      case hS0 => exact ⟨by go_simp, by go_simp, by go_simp, by go_simp, by go_simp⟩
      iterate 2
        refine wpCalm_go rfl (by kernel_rfl) (fun K hK => ?_)
        apply Exists.intro
        refine ⟨fun M w hM hS => ?_, hK _ ?_⟩
        · have c1 := hS.1
          have c2 := hS.2.1
          have c3 := hS.2.2.1
          have c4 := hS.2.2.2.1
          have c5 := hS.2.2.2.2
          unfold calmAt
          go_simp
          exact ⟨rfl, Rel.refl _⟩
        clear hK K
      refine wpCalm_go rfl (by kernel_rfl) (fun K hK => ?_)
      apply Exists.intro
      refine ⟨fun M w hM hS => ?_, hK _ ?_⟩
      · unfold calmAt
        go_simp
        with_reducible refine (L.out _).mono ?_
        rintro e w1 ⟨rfl, hb⟩
        exact ⟨rfl, hb⟩
      clear hK K
      iterate 4
        refine wpCalm_go rfl (by kernel_rfl) (fun K hK => ?_)
        apply Exists.intro
        refine ⟨fun M w hM hS => ?_, hK _ ?_⟩
        · have c1 := hS.1
          have c2 := hS.2.1
          have c3 := hS.2.2.1
          have c4 := hS.2.2.2.1
          have c5 := hS.2.2.2.2
          unfold calmAt
          go_simp
          exact ⟨rfl, Rel.refl _⟩
        clear hK K
      refine wpAnyR_end (by kernel_rfl) (fun w4 h4' => ?_)
      (try simp only [Act.put, List.setIfInBounds_toArray, List.set_cons_zero, List.set_cons_succ])
      have h4 := h0.trans h4'
      clear h0 h4'
      have kz4 := h4.size
      (try simp only [World.size_alloc, World.size_setCell, World.size_drew] at kz4)
      have H4 := Lib.hid h4
      clear h4
      obtain rfl := HRR.out
      cases r
      all_goals
        go_wp2
        go_ret
        exact ⟨rfl, by (show Rel _ _; repeat (first | with_reducible exact Rel.refl _ | with_reducible refine Rel.alloc ?_ _ | with_reducible refine Rel.setCell ?_ (by first | (simp; done) | (simp; omega) | omega) _ | with_reducible refine Rel.trans ?_ H4.out | with_reducible exact HA.out))⟩
  · rcases HW.out with ⟨z1, z2, hR⟩ | ⟨z1, z2, hR⟩
    · have HRR := Lib.hid hR
      clear HW hR
      go_enter Try.func48, Try.ntmps48
      go_wp2_with fail
      refine wp_region_calm (fun _ w' => w'.cell? { block := w.heap.size, off := 0 } = some (.int .i64 a) ∧ w'.cell? { block := w.heap.size, off := 1 } = some (.int .i64 B) ∧ w'.cell? { block := w.heap.size + 1, off := 0 } = some (.int .i64 a) ∧ w'.cell? { block := w.heap.size + 1, off := 1 } = some (.int .i64 D)) (fun _ => false) [0, 1, 2, 3, 4, 5, 6, 7, 8, 9, 10, 11, 12, 13] 4 (by kernel_rfl) (by kernel_rfl) ?hst ?hS0 (fun w0 h0 => ?_)
      case hst => exact fun _ _ _ h r => ⟨r.cell h.1, r.cell h.2.1, r.cell h.2.2.1, r.cell h.2.2.2⟩
      case hS0 => exact ⟨by go_simp, by go_simp, by go_simp, by go_simp⟩
      iterate 2
        refine wpCalm_go rfl (by kernel_rfl) (fun K hK => ?_)
        apply Exists.intro
        refine ⟨fun M w hM hS => ?_, hK _ ?_⟩
        · have c1 := hS.1
          have c2 := hS.2.1
          have c3 := hS.2.2.1
          have c4 := hS.2.2.2
          unfold calmAt
          go_simp
          exact ⟨rfl, Rel.refl _⟩
        clear hK K
      refine wpCalm_go rfl (by kernel_rfl) (fun K hK => ?_)
      apply Exists.intro
      refine ⟨fun M w hM hS => ?_, hK _ ?_⟩
      · have c1 := hS.1
        have c2 := hS.2.1
        have c3 := hS.2.2.1
        have c4 := hS.2.2.2
        unfold calmAt
        go_simp
        with_reducible refine (S1.out _).mono ?_
        rintro e w1 ⟨rfl, rfl⟩
        exact ⟨rfl, Rel.refl _⟩
      clear hK K
      iterate 3
        refine wpCalm_go rfl (by kernel_rfl) (fun K hK => ?_)
        apply Exists.intro
        refine ⟨fun M w hM hS => ?_, hK _ ?_⟩
        · have c1 := hS.1
          have c2 := hS.2.1
          have c3 := hS.2.2.1
          have c4 := hS.2.2.2
          unfold calmAt
          go_simp
          exact ⟨rfl, Rel.refl _⟩
        clear hK K
      refine wpCalm_go rfl (by kernel_rfl) (fun K hK => ?_)
      apply Exists.intro
      refine ⟨fun M w hM hS => ?_, hK _ ?_⟩
      · unfold calmAt
        go_simp
        with_reducible refine (T1.out _).mono ?_
        rintro e w1 ⟨rfl, hb⟩
        exact ⟨rfl, hb⟩
      clear hK K
      iterate 2
        refine wpCalm_go rfl (by kernel_rfl) (fun K hK => ?_)
        apply Exists.intro
        refine ⟨fun M w hM hS => ?_, hK _ ?_⟩
        · have c1 := hS.1
          have c2 := hS.2.1
          have c3 := hS.2.2.1
          have c4 := hS.2.2.2
          unfold calmAt
          go_simp
          exact ⟨rfl, Rel.refl _⟩
        clear hK K
      refine wpCalm_go rfl (by kernel_rfl) (fun K hK => ?_)
      apply Exists.intro
      refine ⟨fun M w hM hS => ?_, hK _ ?_⟩
      · have c1 := hS.1
        have c2 := hS.2.1
        have c3 := hS.2.2.1
        have c4 := hS.2.2.2
        unfold calmAt
        go_simp
        with_reducible refine (S3.out _).mono ?_
        rintro e w1 ⟨rfl, rfl⟩
        exact ⟨rfl, Rel.refl _⟩
      clear hK K
      iterate 3
        refine wpCalm_go rfl (by kernel_rfl) (fun K hK => ?_)
        apply Exists.intro
        refine ⟨fun M w hM hS => ?_, hK _ ?_⟩
        · have c1 := hS.1
          have c2 := hS.2.1
          have c3 := hS.2.2.1
          have c4 := hS.2.2.2
          unfold calmAt
          go_simp
          exact ⟨rfl, Rel.refl _⟩
        clear hK K
      refine wpCalm_go rfl (by kernel_rfl) (fun K hK => ?_)
      apply Exists.intro
      refine ⟨fun M w hM hS => ?_, hK _ ?_⟩
      · unfold calmAt
        go_simp
        with_reducible refine (T2.out _).mono ?_
        rintro e w1 ⟨rfl, hb⟩
        exact ⟨rfl, hb⟩
      clear hK K
      refine wpCalm_nil ?_
      have hq := ((Rel.refl w).alloc (.cells #[.int .i64 a, .int .i64 B] 23)).alloc (.cells #[.int .i64 a, .int .i64 D] 23)
      have h2 := h0
      clear h0
      have q := keep2 h2 (b := w.heap.size) (by first | (simp; done) | (simp; omega) | omega)
      have kc2_0_0 := q.1
      have kc2_0_1 := q.2.1
      have kf2_0_0 := q.2.2.1
      have kf2_0_1 := q.2.2.2.1
      have kl2_0 := q.2.2.2.2.1
      have kn2_0 := q.2.2.2.2.2.1
      have km2_0 := q.2.2.2.2.2.2
      clear q
      have q := keep2 h2 (b := w.heap.size + 1) (by first | (simp; done) | (simp; omega) | omega)
      have kc2_1_0 := q.1
      have kc2_1_1 := q.2.1
      have kf2_1_0 := q.2.2.1
      have kf2_1_1 := q.2.2.2.1
      have kl2_1 := q.2.2.2.2.1
      have kn2_1 := q.2.2.2.2.2.1
      have km2_1 := q.2.2.2.2.2.2
      clear q
      have kz2 := h2.size
      (try simp only [World.size_alloc, World.size_setCell, World.size_drew] at kz2)
      have H2 := Lib.hid h2
      clear h2
      have h0 := Rel.refl w0
      have q := keep2 h0 (b := w.heap.size) (by first | (simp; done) | (simp; omega) | omega)
      have kc0_0_0 := q.1
      have kc0_0_1 := q.2.1
      have kf0_0_0 := q.2.2.1
      have kf0_0_1 := q.2.2.2.1
      have kl0_0 := q.2.2.2.2.1
      have kn0_0 := q.2.2.2.2.2.1
      have km0_0 := q.2.2.2.2.2.2
      clear q
      have q := keep2 h0 (b := w.heap.size + 1) (by first | (simp; done) | (simp; omega) | omega)
      have kc0_1_0 := q.1
      have kc0_1_1 := q.2.1
      have kf0_1_0 := q.2.2.1
      have kf0_1_1 := q.2.2.2.1
      have kl0_1 := q.2.2.2.2.1
      have kn0_1 := q.2.2.2.2.2.1
      have km0_1 := q.2.2.2.2.2.2
      clear q
      have kz0 := h0.size
      (try simp only [World.size_alloc, World.size_setCell, World.size_drew] at kz0)
      have H0 := Lib.hid h0
      clear h0
      (try simp only [Act.put, List.setIfInBounds_toArray, List.set_cons_zero, List.set_cons_succ])
      refine wpAnyR_two (d1 := 5) (d2 := 6) (W := w0) (u0 := .int .u64 xh) (u1 := .int .u64 xl) (v0 := .int .u64 yh) (v1 := .int .u64 yl) ?_ ?_
      · refine wpAnyR_ready (rs := [14, 15]) (by kernel_rfl) (by simp) (AllR.cons rfl (fun w81 h81 K' hK' => ?_) (AllR.cons rfl (fun w81 h81 K' hK' => ?_) AllR.nil))
        · have q := keep2 h81 (b := w.heap.size) (by first | (simp; done) | (simp; omega) | omega)
          have kc81_0_0 := q.1
          have kc81_0_1 := q.2.1
          have kf81_0_0 := q.2.2.1
          have kf81_0_1 := q.2.2.2.1
          have kl81_0 := q.2.2.2.2.1
          have kn81_0 := q.2.2.2.2.2.1
          have km81_0 := q.2.2.2.2.2.2
          clear q
          have q := keep2 h81 (b := w.heap.size + 1) (by first | (simp; done) | (simp; omega) | omega)
          have kc81_1_0 := q.1
          have kc81_1_1 := q.2.1
          have kf81_1_0 := q.2.2.1
          have kf81_1_1 := q.2.2.2.1
          have kl81_1 := q.2.2.2.2.1
          have kn81_1 := q.2.2.2.2.2.1
          have km81_1 := q.2.2.2.2.2.2
          clear q
          have kz81 := h81.size
          (try simp only [World.size_alloc, World.size_setCell, World.size_drew] at kz81)
          have H81 := Lib.hid h81
          clear h81
          go_simp
          refine hK'.out _ _ (by first | trivial | exact ⟨by go_simp, by go_simp, by go_simp, by go_simp⟩) ?_
          clear hK' K'
          refine wpAnyR_ready (rs := [15]) (by kernel_rfl) (by simp) (AllR.cons rfl (fun w82 h82 K' hK' => ?_) AllR.nil)
          have q := keep2 h82 (b := w81.heap.size) (by first | (simp; done) | (simp; omega) | omega)
          have kc82_0_0 := q.1
          have kc82_0_1 := q.2.1
          have kf82_0_0 := q.2.2.1
          have kf82_0_1 := q.2.2.2.1
          have kl82_0 := q.2.2.2.2.1
          have kn82_0 := q.2.2.2.2.2.1
          have km82_0 := q.2.2.2.2.2.2
          clear q
          have q := keep2 h82 (b := w.heap.size) (by first | (simp; done) | (simp; omega) | omega)
          have kc82_1_0 := q.1
          have kc82_1_1 := q.2.1
          have kf82_1_0 := q.2.2.1
          have kf82_1_1 := q.2.2.2.1
          have kl82_1 := q.2.2.2.2.1
          have kn82_1 := q.2.2.2.2.2.1
          have km82_1 := q.2.2.2.2.2.2
          clear q
          have q := keep2 h82 (b := w.heap.size + 1) (by first | (simp; done) | (simp; omega) | omega)
          have kc82_2_0 := q.1
          have kc82_2_1 := q.2.1
          have kf82_2_0 := q.2.2.1
          have kf82_2_1 := q.2.2.2.1
          have kl82_2 := q.2.2.2.2.1
          have kn82_2 := q.2.2.2.2.2.1
          have km82_2 := q.2.2.2.2.2.2
          clear q
          have kz82 := h82.size
          (try simp only [World.size_alloc, World.size_setCell, World.size_drew] at kz82)
          have H82 := Lib.hid h82
          clear h82
          go_simp
          refine hK'.out _ _ (by first | trivial | exact ⟨by go_simp, by go_simp, by go_simp, by go_simp⟩) ?_
          clear hK' K'
          refine wpAnyR_ready (rs := [16]) (by kernel_rfl) (by simp) (AllR.cons rfl (fun w83 h83 K' hK' => ?_) AllR.nil)
          have q := keep2 h83 (b := w81.heap.size) (by first | (simp; done) | (simp; omega) | omega)
          have kc83_0_0 := q.1
          have kc83_0_1 := q.2.1
          have kf83_0_0 := q.2.2.1
          have kf83_0_1 := q.2.2.2.1
          have kl83_0 := q.2.2.2.2.1
          have kn83_0 := q.2.2.2.2.2.1
          have km83_0 := q.2.2.2.2.2.2
          clear q
          have q := keep2 h83 (b := w82.heap.size) (by first | (simp; done) | (simp; omega) | omega)
          have kc83_1_0 := q.1
          have kc83_1_1 := q.2.1
          have kf83_1_0 := q.2.2.1
          have kf83_1_1 := q.2.2.2.1
          have kl83_1 := q.2.2.2.2.1
          have kn83_1 := q.2.2.2.2.2.1
          have km83_1 := q.2.2.2.2.2.2
          clear q
          have q := keep2 h83 (b := w.heap.size) (by first | (simp; done) | (simp; omega) | omega)
          have kc83_2_0 := q.1
          have kc83_2_1 := q.2.1
          have kf83_2_0 := q.2.2.1
          have kf83_2_1 := q.2.2.2.1
          have kl83_2 := q.2.2.2.2.1
          have kn83_2 := q.2.2.2.2.2.1
          have km83_2 := q.2.2.2.2.2.2
          clear q
          have q := keep2 h83 (b := w.heap.size + 1) (by first | (simp; done) | (simp; omega) | omega)
          have kc83_3_0 := q.1
          have kc83_3_1 := q.2.1
          have kf83_3_0 := q.2.2.1
          have kf83_3_1 := q.2.2.2.1
          have kl83_3 := q.2.2.2.2.1
          have kn83_3 := q.2.2.2.2.2.1
          have km83_3 := q.2.2.2.2.2.2
          clear q
          have kz83 := h83.size
          (try simp only [World.size_alloc, World.size_setCell, World.size_drew] at kz83)
          have H83 := Lib.hid h83
          clear h83
          go_simp
          refine hK'.out _ _ (by first | trivial | exact ⟨by go_simp, by go_simp, by go_simp, by go_simp⟩) ?_
          clear hK' K'
          refine wpAnyR_ready (rs := [17]) (by kernel_rfl) (by simp) (AllR.cons rfl (fun w84 h84 K' hK' => ?_) AllR.nil)
          have q := keep2 h84 (b := w81.heap.size) (by first | (simp; done) | (simp; omega) | omega)
          have kc84_0_0 := q.1
          have kc84_0_1 := q.2.1
          have kf84_0_0 := q.2.2.1
          have kf84_0_1 := q.2.2.2.1
          have kl84_0 := q.2.2.2.2.1
          have kn84_0 := q.2.2.2.2.2.1
          have km84_0 := q.2.2.2.2.2.2
          clear q
          have q := keep2 h84 (b := w82.heap.size) (by first | (simp; done) | (simp; omega) | omega)
          have kc84_1_0 := q.1
          have kc84_1_1 := q.2.1
          have kf84_1_0 := q.2.2.1
          have kf84_1_1 := q.2.2.2.1
          have kl84_1 := q.2.2.2.2.1
          have kn84_1 := q.2.2.2.2.2.1
          have km84_1 := q.2.2.2.2.2.2
          clear q
          have q := keep2 h84 (b := w.heap.size) (by first | (simp; done) | (simp; omega) | omega)
          have kc84_2_0 := q.1
          have kc84_2_1 := q.2.1
          have kf84_2_0 := q.2.2.1
          have kf84_2_1 := q.2.2.2.1
          have kl84_2 := q.2.2.2.2.1
          have kn84_2 := q.2.2.2.2.2.1
          have km84_2 := q.2.2.2.2.2.2
          clear q
          have q := keep2 h84 (b := w.heap.size + 1) (by first | (simp; done) | (simp; omega) | omega)
          have kc84_3_0 := q.1
          have kc84_3_1 := q.2.1
          have kf84_3_0 := q.2.2.1
          have kf84_3_1 := q.2.2.2.1
          have kl84_3 := q.2.2.2.2.1
          have kn84_3 := q.2.2.2.2.2.1
          have km84_3 := q.2.2.2.2.2.2
          clear q
          have kz84 := h84.size
          (try simp only [World.size_alloc, World.size_setCell, World.size_drew] at kz84)
          have H84 := Lib.hid h84
          clear h84
          go_simp
          refine hK'.out _ _ (by first | trivial | exact ⟨by go_simp, by go_simp, by go_simp, by go_simp⟩) ?_
          clear hK' K'
          refine wpAnyR_end (by kernel_rfl) (fun w85 h85 => ?_)
          have q := keep2 h85 (b := w81.heap.size) (by first | (simp; done) | (simp; omega) | omega)
          have kc85_0_0 := q.1
          have kc85_0_1 := q.2.1
          have kf85_0_0 := q.2.2.1
          have kf85_0_1 := q.2.2.2.1
          have kl85_0 := q.2.2.2.2.1
          have kn85_0 := q.2.2.2.2.2.1
          have km85_0 := q.2.2.2.2.2.2
          clear q
          have q := keep2 h85 (b := w82.heap.size) (by first | (simp; done) | (simp; omega) | omega)
          have kc85_1_0 := q.1
          have kc85_1_1 := q.2.1
          have kf85_1_0 := q.2.2.1
          have kf85_1_1 := q.2.2.2.1
          have kl85_1 := q.2.2.2.2.1
          have kn85_1 := q.2.2.2.2.2.1
          have km85_1 := q.2.2.2.2.2.2
          clear q
          have kz85 := h85.size
          (try simp only [World.size_alloc, World.size_setCell, World.size_drew] at kz85)
          have H85 := Lib.hid h85
          clear h85
          exact ⟨rfl, w81.heap.size, w82.heap.size, by first | rfl | simp only [Act.put, List.setIfInBounds_toArray, List.set_cons_zero, List.set_cons_succ], by (repeat (first | with_reducible exact Rel.refl _ | with_reducible refine Rel.alloc ?_ _ | with_reducible refine Rel.setCell ?_ (by first | (simp; done) | (simp; omega) | omega) _ | with_reducible refine Rel.drew ?_ | with_reducible refine Rel.trans ?_ H85.out | with_reducible refine Rel.trans ?_ H84.out | with_reducible refine Rel.trans ?_ H83.out | with_reducible refine Rel.trans ?_ H82.out | with_reducible refine Rel.trans ?_ H81.out | with_reducible exact H0.out)), by first | (simp; done) | (simp; omega) | omega, by first | (simp; done) | (simp; omega) | omega, by first | (simp; done) | (simp; omega) | omega, by first | assumption | (simp; omega), by first | assumption | (simp; omega), by go_simp, by go_simp, by go_simp, by go_simp, by go_simp, by go_simp, by go_simp, by go_simp⟩
        · have q := keep2 h81 (b := w.heap.size) (by first | (simp; done) | (simp; omega) | omega)
          have kc81_0_0 := q.1
          have kc81_0_1 := q.2.1
          have kf81_0_0 := q.2.2.1
          have kf81_0_1 := q.2.2.2.1
          have kl81_0 := q.2.2.2.2.1
          have kn81_0 := q.2.2.2.2.2.1
          have km81_0 := q.2.2.2.2.2.2
          clear q
          have q := keep2 h81 (b := w.heap.size + 1) (by first | (simp; done) | (simp; omega) | omega)
          have kc81_1_0 := q.1
          have kc81_1_1 := q.2.1
          have kf81_1_0 := q.2.2.1
          have kf81_1_1 := q.2.2.2.1
          have kl81_1 := q.2.2.2.2.1
          have kn81_1 := q.2.2.2.2.2.1
          have km81_1 := q.2.2.2.2.2.2
          clear q
          have kz81 := h81.size
          (try simp only [World.size_alloc, World.size_setCell, World.size_drew] at kz81)
          have H81 := Lib.hid h81
          clear h81
          go_simp
          refine hK'.out _ _ (by first | trivial | exact ⟨by go_simp, by go_simp, by go_simp, by go_simp⟩) ?_
          clear hK' K'
          refine wpAnyR_ready (rs := [14]) (by kernel_rfl) (by simp) (AllR.cons rfl (fun w82 h82 K' hK' => ?_) AllR.nil)
          have q := keep2 h82 (b := w81.heap.size) (by first | (simp; done) | (simp; omega) | omega)
          have kc82_0_0 := q.1
          have kc82_0_1 := q.2.1
          have kf82_0_0 := q.2.2.1
          have kf82_0_1 := q.2.2.2.1
          have kl82_0 := q.2.2.2.2.1
          have kn82_0 := q.2.2.2.2.2.1
          have km82_0 := q.2.2.2.2.2.2
          clear q
          have q := keep2 h82 (b := w.heap.size) (by first | (simp; done) | (simp; omega) | omega)
          have kc82_1_0 := q.1
          have kc82_1_1 := q.2.1
          have kf82_1_0 := q.2.2.1
          have kf82_1_1 := q.2.2.2.1
          have kl82_1 := q.2.2.2.2.1
          have kn82_1 := q.2.2.2.2.2.1
          have km82_1 := q.2.2.2.2.2.2
          clear q
          have q := keep2 h82 (b := w.heap.size + 1) (by first | (simp; done) | (simp; omega) | omega)
          have kc82_2_0 := q.1
          have kc82_2_1 := q.2.1
          have kf82_2_0 := q.2.2.1
          have kf82_2_1 := q.2.2.2.1
          have kl82_2 := q.2.2.2.2.1
          have kn82_2 := q.2.2.2.2.2.1
          have km82_2 := q.2.2.2.2.2.2
          clear q
          have kz82 := h82.size
          (try simp only [World.size_alloc, World.size_setCell, World.size_drew] at kz82)
          have H82 := Lib.hid h82
          clear h82
          go_simp
          refine hK'.out _ _ (by first | trivial | exact ⟨by go_simp, by go_simp, by go_simp, by go_simp⟩) ?_
          clear hK' K'
          refine wpAnyR_ready (rs := [16]) (by kernel_rfl) (by simp) (AllR.cons rfl (fun w83 h83 K' hK' => ?_) AllR.nil)
          have q := keep2 h83 (b := w81.heap.size) (by first | (simp; done) | (simp; omega) | omega)
          have kc83_0_0 := q.1
          have kc83_0_1 := q.2.1
          have kf83_0_0 := q.2.2.1
          have kf83_0_1 := q.2.2.2.1
          have kl83_0 := q.2.2.2.2.1
          have kn83_0 := q.2.2.2.2.2.1
          have km83_0 := q.2.2.2.2.2.2
          clear q
          have q := keep2 h83 (b := w82.heap.size) (by first | (simp; done) | (simp; omega) | omega)
          have kc83_1_0 := q.1
          have kc83_1_1 := q.2.1
          have kf83_1_0 := q.2.2.1
          have kf83_1_1 := q.2.2.2.1
          have kl83_1 := q.2.2.2.2.1
          have kn83_1 := q.2.2.2.2.2.1
          have km83_1 := q.2.2.2.2.2.2
          clear q
          have q := keep2 h83 (b := w.heap.size) (by first | (simp; done) | (simp; omega) | omega)
          have kc83_2_0 := q.1
          have kc83_2_1 := q.2.1
          have kf83_2_0 := q.2.2.1
          have kf83_2_1 := q.2.2.2.1
          have kl83_2 := q.2.2.2.2.1
          have kn83_2 := q.2.2.2.2.2.1
          have km83_2 := q.2.2.2.2.2.2
          clear q
          have q := keep2 h83 (b := w.heap.size + 1) (by first | (simp; done) | (simp; omega) | omega)
          have kc83_3_0 := q.1
          have kc83_3_1 := q.2.1
          have kf83_3_0 := q.2.2.1
          have kf83_3_1 := q.2.2.2.1
          have kl83_3 := q.2.2.2.2.1
          have kn83_3 := q.2.2.2.2.2.1
          have km83_3 := q.2.2.2.2.2.2
          clear q
          have kz83 := h83.size
          (try simp only [World.size_alloc, World.size_setCell, World.size_drew] at kz83)
          have H83 := Lib.hid h83
          clear h83
          go_simp
          refine hK'.out _ _ (by first | trivial | exact ⟨by go_simp, by go_simp, by go_simp, by go_simp⟩) ?_
          clear hK' K'
          refine wpAnyR_ready (rs := [17]) (by kernel_rfl) (by simp) (AllR.cons rfl (fun w84 h84 K' hK' => ?_) AllR.nil)
          have q := keep2 h84 (b := w81.heap.size) (by first | (simp; done) | (simp; omega) | omega)
          have kc84_0_0 := q.1
          have kc84_0_1 := q.2.1
          have kf84_0_0 := q.2.2.1
          have kf84_0_1 := q.2.2.2.1
          have kl84_0 := q.2.2.2.2.1
          have kn84_0 := q.2.2.2.2.2.1
          have km84_0 := q.2.2.2.2.2.2
          clear q
          have q := keep2 h84 (b := w82.heap.size) (by first | (simp; done) | (simp; omega) | omega)
          have kc84_1_0 := q.1
          have kc84_1_1 := q.2.1
          have kf84_1_0 := q.2.2.1
          have kf84_1_1 := q.2.2.2.1
          have kl84_1 := q.2.2.2.2.1
          have kn84_1 := q.2.2.2.2.2.1
          have km84_1 := q.2.2.2.2.2.2
          clear q
          have q := keep2 h84 (b := w.heap.size) (by first | (simp; done) | (simp; omega) | omega)
          have kc84_2_0 := q.1
          have kc84_2_1 := q.2.1
          have kf84_2_0 := q.2.2.1
          have kf84_2_1 := q.2.2.2.1
          have kl84_2 := q.2.2.2.2.1
          have kn84_2 := q.2.2.2.2.2.1
          have km84_2 := q.2.2.2.2.2.2
          clear q
          have q := keep2 h84 (b := w.heap.size + 1) (by first | (simp; done) | (simp; omega) | omega)
          have kc84_3_0 := q.1
          have kc84_3_1 := q.2.1
          have kf84_3_0 := q.2.2.1
          have kf84_3_1 := q.2.2.2.1
          have kl84_3 := q.2.2.2.2.1
          have kn84_3 := q.2.2.2.2.2.1
          have km84_3 := q.2.2.2.2.2.2
          clear q
          have kz84 := h84.size
          (try simp only [World.size_alloc, World.size_setCell, World.size_drew] at kz84)
          have H84 := Lib.hid h84
          clear h84
          go_simp
          refine hK'.out _ _ (by first | trivial | exact ⟨by go_simp, by go_simp, by go_simp, by go_simp⟩) ?_
          clear hK' K'
          refine wpAnyR_end (by kernel_rfl) (fun w85 h85 => ?_)
          have q := keep2 h85 (b := w82.heap.size) (by first | (simp; done) | (simp; omega) | omega)
          have kc85_0_0 := q.1
          have kc85_0_1 := q.2.1
          have kf85_0_0 := q.2.2.1
          have kf85_0_1 := q.2.2.2.1
          have kl85_0 := q.2.2.2.2.1
          have kn85_0 := q.2.2.2.2.2.1
          have km85_0 := q.2.2.2.2.2.2
          clear q
          have q := keep2 h85 (b := w81.heap.size) (by first | (simp; done) | (simp; omega) | omega)
          have kc85_1_0 := q.1
          have kc85_1_1 := q.2.1
          have kf85_1_0 := q.2.2.1
          have kf85_1_1 := q.2.2.2.1
          have kl85_1 := q.2.2.2.2.1
          have kn85_1 := q.2.2.2.2.2.1
          have km85_1 := q.2.2.2.2.2.2
          clear q
          have kz85 := h85.size
          (try simp only [World.size_alloc, World.size_setCell, World.size_drew] at kz85)
          have H85 := Lib.hid h85
          clear h85
          exact ⟨rfl, w82.heap.size, w81.heap.size, by first | rfl | simp only [Act.put, List.setIfInBounds_toArray, List.set_cons_zero, List.set_cons_succ], by (repeat (first | with_reducible exact Rel.refl _ | with_reducible refine Rel.alloc ?_ _ | with_reducible refine Rel.setCell ?_ (by first | (simp; done) | (simp; omega) | omega) _ | with_reducible refine Rel.drew ?_ | with_reducible refine Rel.trans ?_ H85.out | with_reducible refine Rel.trans ?_ H84.out | with_reducible refine Rel.trans ?_ H83.out | with_reducible refine Rel.trans ?_ H82.out | with_reducible refine Rel.trans ?_ H81.out | with_reducible exact H0.out)), by first | (simp; done) | (simp; omega) | omega, by first | (simp; done) | (simp; omega) | omega, by first | (simp; done) | (simp; omega) | omega, by first | assumption | (simp; omega), by first | assumption | (simp; omega), by go_simp, by go_simp, by go_simp, by go_simp, by go_simp, by go_simp, by go_simp, by go_simp⟩
      intro b1 b2 wt ht
      (try simp only [Act.put, List.setIfInBounds_toArray, List.set_cons_zero, List.set_cons_succ])
      have tr := ht.rel
      have tl1 := ht.lo1
      have tl2 := ht.lo2
      have tn := ht.ne
      have ti1 := ht.in1
      have ti2 := ht.in2
      have tc1 := ht.c10
      have tc2 := ht.c11
      have tc3 := ht.c20
      have tc4 := ht.c21
      have tf1 := ht.f10
      have tf2 := ht.f11
      have tf3 := ht.f20
      have tf4 := ht.f21
      have tn' := Ne.symm tn
      have q := keep2 tr (b := w.heap.size) (by first | (simp; done) | (simp; omega) | omega)
      have kc3_0_0 := q.1
      have kc3_0_1 := q.2.1
      have kf3_0_0 := q.2.2.1
      have kf3_0_1 := q.2.2.2.1
      have kl3_0 := q.2.2.2.2.1
      have kn3_0 := q.2.2.2.2.2.1
      have km3_0 := q.2.2.2.2.2.2
      clear q
      have q := keep2 tr (b := w.heap.size + 1) (by first | (simp; done) | (simp; omega) | omega)
      have kc3_1_0 := q.1
      have kc3_1_1 := q.2.1
      have kf3_1_0 := q.2.2.1
      have kf3_1_1 := q.2.2.2.1
      have kl3_1 := q.2.2.2.2.1
      have kn3_1 := q.2.2.2.2.2.1
      have km3_1 := q.2.2.2.2.2.2
      clear q
      have kz3 := tr.size
      (try simp only [World.size_alloc, World.size_setCell, World.size_drew] at kz3)
      have H3 := Lib.hid tr
      clear tr
      have tm1 : w.heap.size + 1 < b1 := by omega
      have tm2 : w.heap.size + 1 < b2 := by omega
      have e00 : wt.cell? ⟨w.heap.size, 0, none⟩ = some (.int .i64 a) := by go_simp
      have l0 : w.heap.size < wt.heap.size := by omega
      have l1 : w.heap.size + 1 < wt.heap.size := by omega
      have m1 : w.heap.size ≤ b1 := by omega
      have m2 : w.heap.size ≤ b2 := by omega
      have j6 : b1 ≠ w.heap.size := by omega
      have j10 : b2 ≠ w.heap.size := by omega
      have HA : Hid (Rel w wt) := by
        show Rel w wt
        (repeat (first | with_reducible exact Rel.refl _ | with_reducible refine Rel.alloc ?_ _ | with_reducible refine Rel.trans ?_ H3.out | with_reducible refine Rel.trans ?_ H2.out))
      clear H0 H3 kc2_0_0 kc2_0_1 kf2_0_0 kf2_0_1 kl2_0 kn2_0 km2_0 kc2_1_0 kc2_1_1 kf2_1_0 kf2_1_1 kl2_1 kn2_1 km2_1 kz2 kc0_0_0 kc0_0_1 kf0_0_0 kf0_0_1 kl0_0 kn0_0 km0_0 kc0_1_0 kc0_1_1 kf0_1_0 kf0_1_1 kl0_1 kn0_1 km0_1 kz0 kc3_0_0 kc3_0_1 kf3_0_0 kf3_0_1 kl3_0 kn3_0 km3_0 kc3_1_0 kc3_1_1 kf3_1_0 kf3_1_1 kl3_1 kn3_1 km3_1 kz3 H2
      go_wp2_with fail
      refine wp_region_calm (fun _ w' => w'.cell? { block := w.heap.size, off := 0 } = some (.int .i64 a) ∧ w'.cell? { block := b1, off := 0 } = some (.int .u64 xh) ∧ w'.cell? { block := b1, off := 1 } = some (.int .u64 xl) ∧ w'.cell? { block := b2, off := 0 } = some (.int .u64 yh) ∧ w'.cell? { block := b2, off := 1 } = some (.int .u64 yl)) (fun _ => false) [0, 1, 2, 3, 4, 5, 6] 0 (by kernel_rfl) (by kernel_rfl) ?hst ?hS0 (fun w0 h0 => ?_)
      case hst => exact fun _ _ _ h r => ⟨r.cell h.1, r.cell h.2.1, r.cell h.2.2.1, r.cell h.2.2.2.1, r.cell h.2.2.2.2⟩
      case hS0 => exact ⟨by go_simp, by go_simp, by go_simp, by go_simp, by go_simp⟩
      iterate 2
        refine wpCalm_go rfl (by kernel_rfl) (fun K hK => ?_)
        apply Exists.intro
        refine ⟨fun M w hM hS => ?_, hK _ ?_⟩
        · have c1 := hS.1
          have c2 := hS.2.1
          have c3 := hS.2.2.1
          have c4 := hS.2.2.2.1
          have c5 := hS.2.2.2.2
          unfold calmAt
          go_simp
          exact ⟨rfl, Rel.refl _⟩
        clear hK K
      refine wpCalm_go rfl (by kernel_rfl) (fun K hK => ?_)
      apply Exists.intro
      refine ⟨fun M w hM hS => ?_, hK _ ?_⟩
      · unfold calmAt
        go_simp
        with_reducible refine (L.out _).mono ?_
        rintro e w1 ⟨rfl, hb⟩
        exact ⟨rfl, hb⟩
      clear hK K
      iterate 4
        refine wpCalm_go rfl (by kernel_rfl) (fun K hK => ?_)
        apply Exists.intro
        refine ⟨fun M w hM hS => ?_, hK _ ?_⟩
        · have c1 := hS.1
          have c2 := hS.2.1
          have c3 := hS.2.2.1
          have c4 := hS.2.2.2.1
          have c5 := hS.2.2.2.2
          unfold calmAt
          go_simp
          exact ⟨rfl, Rel.refl _⟩
        clear hK K
      refine wpAnyR_end (by kernel_rfl) (fun w4 h4' => ?_)
      (try simp only [Act.put, List.setIfInBounds_toArray, List.set_cons_zero, List.set_cons_succ])
      have h4 := h0.trans h4'
      clear h0 h4'
      have kz4 := h4.size
      (try simp only [World.size_alloc, World.size_setCell, World.size_drew] at kz4)
      have H4 := Lib.hid h4
      clear h4
      obtain rfl := HRR.out
      cases r
      all_goals
        go_wp2
        go_ret
        exact ⟨rfl, by (show Rel _ _; repeat (first | with_reducible exact Rel.refl _ | with_reducible refine Rel.alloc ?_ _ | with_reducible refine Rel.setCell ?_ (by first | (simp; done) | (simp; omega) | omega) _ | with_reducible refine Rel.trans ?_ H4.out | with_reducible exact HA.out))⟩
    · have HRR := Lib.hid hR
      clear HW hR
      go_enter Try.func48, Try.ntmps48
      go_wp2_with fail
      refine wp_region_calm (fun _ w' => w'.cell? { block := w.heap.size, off := 0 } = some (.int .i64 a) ∧ w'.cell? { block := w.heap.size, off := 1 } = some (.int .i64 B) ∧ w'.cell? { block := w.heap.size + 1, off := 0 } = some (.int .i64 a) ∧ w'.cell? { block := w.heap.size + 1, off := 1 } = some (.int .i64 D)) (fun _ => false) [0, 1, 2, 3, 4, 5, 6, 7, 8, 9, 10, 11, 12, 13] 4 (by kernel_rfl) (by kernel_rfl) ?hst ?hS0 (fun w0 h0 => ?_)
      case hst => exact fun _ _ _ h r => ⟨r.cell h.1, r.cell h.2.1, r.cell h.2.2.1, r.cell h.2.2.2⟩
      case hS0 => exact ⟨by go_simp, by go_simp, by go_simp, by go_simp⟩
      iterate 2
        refine wpCalm_go rfl (by kernel_rfl) (fun K hK => ?_)
        apply Exists.intro
        refine ⟨fun M w hM hS => ?_, hK _ ?_⟩
        · have c1 := hS.1
          have c2 := hS.2.1
          have c3 := hS.2.2.1
          have c4 := hS.2.2.2
          unfold calmAt
          go_simp
          exact ⟨rfl, Rel.refl _⟩
        clear hK K
      refine wpCalm_go rfl (by kernel_rfl) (fun K hK => ?_)
      apply Exists.intro
      refine ⟨fun M w hM hS => ?_, hK _ ?_⟩
      · have c1 := hS.1
        have c2 := hS.2.1
        have c3 := hS.2.2.1
        have c4 := hS.2.2.2
        unfold calmAt
        go_simp
        with_reducible refine (S1.out _).mono ?_
        rintro e w1 ⟨rfl, rfl⟩
        exact ⟨rfl, Rel.refl _⟩
      clear hK K
      iterate 3
        refine wpCalm_go rfl (by kernel_rfl) (fun K hK => ?_)
        apply Exists.intro
        refine ⟨fun M w hM hS => ?_, hK _ ?_⟩
        · have c1 := hS.1
          have c2 := hS.2.1
          have c3 := hS.2.2.1
          have c4 := hS.2.2.2
          unfold calmAt
          go_simp
          exact ⟨rfl, Rel.refl _⟩
        clear hK K
      refine wpCalm_go rfl (by kernel_rfl) (fun K hK => ?_)
      apply Exists.intro
      refine ⟨fun M w hM hS => ?_, hK _ ?_⟩
      · unfold calmAt
        go_simp
        with_reducible refine (T1.out _).mono ?_
        rintro e w1 ⟨rfl, hb⟩
        exact ⟨rfl, hb⟩
      clear hK K
      iterate 2
        refine wpCalm_go rfl (by kernel_rfl) (fun K hK => ?_)
        apply Exists.intro
        refine ⟨fun M w hM hS => ?_, hK _ ?_⟩
        · have c1 := hS.1
          have c2 := hS.2.1
          have c3 := hS.2.2.1
          have c4 := hS.2.2.2
          unfold calmAt
          go_simp
          exact ⟨rfl, Rel.refl _⟩
        clear hK K
      refine wpCalm_go rfl (by kernel_rfl) (fun K hK => ?_)
      apply Exists.intro
      refine ⟨fun M w hM hS => ?_, hK _ ?_⟩
      · have c1 := hS.1
        have c2 := hS.2.1
        have c3 := hS.2.2.1
        have c4 := hS.2.2.2
        unfold calmAt
        go_simp
        with_reducible refine (S3.out _).mono ?_
        rintro e w1 ⟨rfl, rfl⟩
        exact ⟨rfl, Rel.refl _⟩
      clear hK K
      iterate 3
        refine wpCalm_go rfl (by kernel_rfl) (fun K hK => ?_)
        apply Exists.intro
        refine ⟨fun M w hM hS => ?_, hK _ ?_⟩
        · have c1 := hS.1
          have c2 := hS.2.1
          have c3 := hS.2.2.1
          have c4 := hS.2.2.2
          unfold calmAt
          go_simp
          exact ⟨rfl, Rel.refl _⟩
        clear hK K
      refine wpCalm_go rfl (by kernel_rfl) (fun K hK => ?_)
      apply Exists.intro
      refine ⟨fun M w hM hS => ?_, hK _ ?_⟩
      · unfold calmAt
        go_simp
        with_reducible refine (T2.out _).mono ?_
        rintro e w1 ⟨rfl, hb⟩
        exact ⟨rfl, hb⟩
      clear hK K
      refine wpCalm_nil ?_
      have hq := ((Rel.refl w).alloc (.cells #[.int .i64 a, .int .i64 B] 23)).alloc (.cells #[.int .i64 a, .int .i64 D] 23)
      have h2 := h0
      clear h0
      have q := keep2 h2 (b := w.heap.size) (by first | (simp; done) | (simp; omega) | omega)
      have kc2_0_0 := q.1
      have kc2_0_1 := q.2.1
      have kf2_0_0 := q.2.2.1
      have kf2_0_1 := q.2.2.2.1
      have kl2_0 := q.2.2.2.2.1
      have kn2_0 := q.2.2.2.2.2.1
      have km2_0 := q.2.2.2.2.2.2
      clear q
      have q := keep2 h2 (b := w.heap.size + 1) (by first | (simp; done) | (simp; omega) | omega)
      have kc2_1_0 := q.1
      have kc2_1_1 := q.2.1
      have kf2_1_0 := q.2.2.1
      have kf2_1_1 := q.2.2.2.1
      have kl2_1 := q.2.2.2.2.1
      have kn2_1 := q.2.2.2.2.2.1
      have km2_1 := q.2.2.2.2.2.2
      clear q
      have kz2 := h2.size
      (try simp only [World.size_alloc, World.size_setCell, World.size_drew] at kz2)
      have H2 := Lib.hid h2
      clear h2
      have h0 := Rel.refl w0
      have q := keep2 h0 (b := w.heap.size) (by first | (simp; done) | (simp; omega) | omega)
      have kc0_0_0 := q.1
      have kc0_0_1 := q.2.1
      have kf0_0_0 := q.2.2.1
      have kf0_0_1 := q.2.2.2.1
      have kl0_0 := q.2.2.2.2.1
      have kn0_0 := q.2.2.2.2.2.1
      have km0_0 := q.2.2.2.2.2.2
      clear q
      have q := keep2 h0 (b := w.heap.size + 1) (by first | (simp; done) | (simp; omega) | omega)
      have kc0_1_0 := q.1
      have kc0_1_1 := q.2.1
      have kf0_1_0 := q.2.2.1
      have kf0_1_1 := q.2.2.2.1
      have kl0_1 := q.2.2.2.2.1
      have kn0_1 := q.2.2.2.2.2.1
      have km0_1 := q.2.2.2.2.2.2
      clear q
      have kz0 := h0.size
      (try simp only [World.size_alloc, World.size_setCell, World.size_drew] at kz0)
      have H0 := Lib.hid h0
      clear h0
      (try simp only [Act.put, List.setIfInBounds_toArray, List.set_cons_zero, List.set_cons_succ])
      refine wpAnyR_two (d1 := 5) (d2 := 6) (W := w0) (u0 := .int .u64 xh) (u1 := .int .u64 xl) (v0 := .int .u64 yh) (v1 := .int .u64 yl) ?_ ?_
      · refine wpAnyR_ready (rs := [14, 15]) (by kernel_rfl) (by simp) (AllR.cons rfl (fun w81 h81 K' hK' => ?_) (AllR.cons rfl (fun w81 h81 K' hK' => ?_) AllR.nil))
        · have q := keep2 h81 (b := w.heap.size) (by first | (simp; done) | (simp; omega) | omega)
          have kc81_0_0 := q.1
          have kc81_0_1 := q.2.1
          have kf81_0_0 := q.2.2.1
          have kf81_0_1 := q.2.2.2.1
          have kl81_0 := q.2.2.2.2.1
          have kn81_0 := q.2.2.2.2.2.1
          have km81_0 := q.2.2.2.2.2.2
          clear q
          have q := keep2 h81 (b := w.heap.size + 1) (by first | (simp; done) | (simp; omega) | omega)
          have kc81_1_0 := q.1
          have kc81_1_1 := q.2.1
          have kf81_1_0 := q.2.2.1
          have kf81_1_1 := q.2.2.2.1
          have kl81_1 := q.2.2.2.2.1
          have kn81_1 := q.2.2.2.2.2.1
          have km81_1 := q.2.2.2.2.2.2
          clear q
          have kz81 := h81.size
          (try simp only [World.size_alloc, World.size_setCell, World.size_drew] at kz81)
          have H81 := Lib.hid h81
          clear h81
          go_simp
          refine hK'.out _ _ (by first | trivial | exact ⟨by go_simp, by go_simp, by go_simp, by go_simp⟩) ?_
          clear hK' K'
          refine wpAnyR_ready (rs := [15]) (by kernel_rfl) (by simp) (AllR.cons rfl (fun w82 h82 K' hK' => ?_) AllR.nil)
          have q := keep2 h82 (b := w81.heap.size) (by first | (simp; done) | (simp; omega) | omega)
          have kc82_0_0 := q.1
          have kc82_0_1 := q.2.1
          have kf82_0_0 := q.2.2.1
          have kf82_0_1 := q.2.2.2.1
          have kl82_0 := q.2.2.2.2.1
          have kn82_0 := q.2.2.2.2.2.1
          have km82_0 := q.2.2.2.2.2.2
          clear q
          have q := keep2 h82 (b := w.heap.size) (by first | (simp; done) | (simp; omega) | omega)
          have kc82_1_0 := q.1
          have kc82_1_1 := q.2.1
          have kf82_1_0 := q.2.2.1
          have kf82_1_1 := q.2.2.2.1
          have kl82_1 := q.2.2.2.2.1
          have kn82_1 := q.2.2.2.2.2.1
          have km82_1 := q.2.2.2.2.2.2
          clear q
          have q := keep2 h82 (b := w.heap.size + 1) (by first | (simp; done) | (simp; omega) | omega)
          have kc82_2_0 := q.1
          have kc82_2_1 := q.2.1
          have kf82_2_0 := q.2.2.1
          have kf82_2_1 := q.2.2.2.1
          have kl82_2 := q.2.2.2.2.1
          have kn82_2 := q.2.2.2.2.2.1
          have km82_2 := q.2.2.2.2.2.2
          clear q
          have kz82 := h82.size
          (try simp only [World.size_alloc, World.size_setCell, World.size_drew] at kz82)
          have H82 := Lib.hid h82
          clear h82
          go_simp
          refine hK'.out _ _ (by first | trivial | exact ⟨by go_simp, by go_simp, by go_simp, by go_simp⟩) ?_
          clear hK' K'
          refine wpAnyR_ready (rs := [16]) (by kernel_rfl) (by simp) (AllR.cons rfl (fun w83 h83 K' hK' => ?_) AllR.nil)
          have q := keep2 h83 (b := w81.heap.size) (by first | (simp; done) | (simp; omega) | omega)
          have kc83_0_0 := q.1
          have kc83_0_1 := q.2.1
          have kf83_0_0 := q.2.2.1
          have kf83_0_1 := q.2.2.2.1
          have kl83_0 := q.2.2.2.2.1
          have kn83_0 := q.2.2.2.2.2.1
          have km83_0 := q.2.2.2.2.2.2
          clear q
          have q := keep2 h83 (b := w82.heap.size) (by first | (simp; done) | (simp; omega) | omega)
          have kc83_1_0 := q.1
          have kc83_1_1 := q.2.1
          have kf83_1_0 := q.2.2.1
          have kf83_1_1 := q.2.2.2.1
          have kl83_1 := q.2.2.2.2.1
          have kn83_1 := q.2.2.2.2.2.1
          have km83_1 := q.2.2.2.2.2.2
          clear q
          have q := keep2 h83 (b := w.heap.size) (by first | (simp; done) | (simp; omega) | omega)
          have kc83_2_0 := q.1
          have kc83_2_1 := q.2.1
          have kf83_2_0 := q.2.2.1
          have kf83_2_1 := q.2.2.2.1
          have kl83_2 := q.2.2.2.2.1
          have kn83_2 := q.2.2.2.2.2.1
          have km83_2 := q.2.2.2.2.2.2
          clear q
          have q := keep2 h83 (b := w.heap.size + 1) (by first | (simp; done) | (simp; omega) | omega)
          have kc83_3_0 := q.1
          have kc83_3_1 := q.2.1
          have kf83_3_0 := q.2.2.1
          have kf83_3_1 := q.2.2.2.1
          have kl83_3 := q.2.2.2.2.1
          have kn83_3 := q.2.2.2.2.2.1
          have km83_3 := q.2.2.2.2.2.2
          clear q
          have kz83 := h83.size
          (try simp only [World.size_alloc, World.size_setCell, World.size_drew] at kz83)
          have H83 := Lib.hid h83
          clear h83
          go_simp
          refine hK'.out _ _ (by first | trivial | exact ⟨by go_simp, by go_simp, by go_simp, by go_simp⟩) ?_
          clear hK' K'
          refine wpAnyR_ready (rs := [17]) (by kernel_rfl) (by simp) (AllR.cons rfl (fun w84 h84 K' hK' => ?_) AllR.nil)
          have q := keep2 h84 (b := w81.heap.size) (by first | (simp; done) | (simp; omega) | omega)
          have kc84_0_0 := q.1
          have kc84_0_1 := q.2.1
          have kf84_0_0 := q.2.2.1
          have kf84_0_1 := q.2.2.2.1
          have kl84_0 := q.2.2.2.2.1
          have kn84_0 := q.2.2.2.2.2.1
          have km84_0 := q.2.2.2.2.2.2
          clear q
          have q := keep2 h84 (b := w82.heap.size) (by first | (simp; done) | (simp; omega) | omega)
          have kc84_1_0 := q.1
          have kc84_1_1 := q.2.1
          have kf84_1_0 := q.2.2.1
          have kf84_1_1 := q.2.2.2.1
          have kl84_1 := q.2.2.2.2.1
          have kn84_1 := q.2.2.2.2.2.1
          have km84_1 := q.2.2.2.2.2.2
          clear q
          have q := keep2 h84 (b := w.heap.size) (by first | (simp; done) | (simp; omega) | omega)
          have kc84_2_0 := q.1
          have kc84_2_1 := q.2.1
          have kf84_2_0 := q.2.2.1
          have kf84_2_1 := q.2.2.2.1
          have kl84_2 := q.2.2.2.2.1
          have kn84_2 := q.2.2.2.2.2.1
          have km84_2 := q.2.2.2.2.2.2
          clear q
          have q := keep2 h84 (b := w.heap.size + 1) (by first | (simp; done) | (simp; omega) | omega)
          have kc84_3_0 := q.1
          have kc84_3_1 := q.2.1
          have kf84_3_0 := q.2.2.1
          have kf84_3_1 := q.2.2.2.1
          have kl84_3 := q.2.2.2.2.1
          have kn84_3 := q.2.2.2.2.2.1
          have km84_3 := q.2.2.2.2.2.2
          clear q
          have kz84 := h84.size
          (try simp only [World.size_alloc, World.size_setCell, World.size_drew] at kz84)
          have H84 := Lib.hid h84
          clear h84
          go_simp
          refine hK'.out _ _ (by first | trivial | exact ⟨by go_simp, by go_simp, by go_simp, by go_simp⟩) ?_
          clear hK' K'
          refine wpAnyR_end (by kernel_rfl) (fun w85 h85 => ?_)
          have q := keep2 h85 (b := w81.heap.size) (by first | (simp; done) | (simp; omega) | omega)
          have kc85_0_0 := q.1
          have kc85_0_1 := q.2.1
          have kf85_0_0 := q.2.2.1
          have kf85_0_1 := q.2.2.2.1
          have kl85_0 := q.2.2.2.2.1
          have kn85_0 := q.2.2.2.2.2.1
          have km85_0 := q.2.2.2.2.2.2
          clear q
          have q := keep2 h85 (b := w82.heap.size) (by first | (simp; done) | (simp; omega) | omega)
          have kc85_1_0 := q.1
          have kc85_1_1 := q.2.1
          have kf85_1_0 := q.2.2.1
          have kf85_1_1 := q.2.2.2.1
          have kl85_1 := q.2.2.2.2.1
          have kn85_1 := q.2.2.2.2.2.1
          have km85_1 := q.2.2.2.2.2.2
          clear q
          have kz85 := h85.size
          (try simp only [World.size_alloc, World.size_setCell, World.size_drew] at kz85)
          have H85 := Lib.hid h85
          clear h85
          exact ⟨rfl, w81.heap.size, w82.heap.size, by first | rfl | simp only [Act.put, List.setIfInBounds_toArray, List.set_cons_zero, List.set_cons_succ], by (repeat (first | with_reducible exact Rel.refl _ | with_reducible refine Rel.alloc ?_ _ | with_reducible refine Rel.setCell ?_ (by first | (simp; done) | (simp; omega) | omega) _ | with_reducible refine Rel.drew ?_ | with_reducible refine Rel.trans ?_ H85.out | with_reducible refine Rel.trans ?_ H84.out | with_reducible refine Rel.trans ?_ H83.out | with_reducible refine Rel.trans ?_ H82.out | with_reducible refine Rel.trans ?_ H81.out | with_reducible exact H0.out)), by first | (simp; done) | (simp; omega) | omega, by first | (simp; done) | (simp; omega) | omega, by first | (simp; done) | (simp; omega) | omega, by first | assumption | (simp; omega), by first | assumption | (simp; omega), by go_simp, by go_simp, by go_simp, by go_simp, by go_simp, by go_simp, by go_simp, by go_simp⟩
        · have q := keep2 h81 (b := w.heap.size) (by first | (simp; done) | (simp; omega) | omega)
          have kc81_0_0 := q.1
          have kc81_0_1 := q.2.1
          have kf81_0_0 := q.2.2.1
          have kf81_0_1 := q.2.2.2.1
          have kl81_0 := q.2.2.2.2.1
          have kn81_0 := q.2.2.2.2.2.1
          have km81_0 := q.2.2.2.2.2.2
          clear q
          have q := keep2 h81 (b := w.heap.size + 1) (by first | (simp; done) | (simp; omega) | omega)
          have kc81_1_0 := q.1
          have kc81_1_1 := q.2.1
          have kf81_1_0 := q.2.2.1
          have kf81_1_1 := q.2.2.2.1
          have kl81_1 := q.2.2.2.2.1
          have kn81_1 := q.2.2.2.2.2.1
          have km81_1 := q.2.2.2.2.2.2
          clear q
          have kz81 := h81.size
          (try simp only [World.size_alloc, World.size_setCell, World.size_drew] at kz81)
          have H81 := Lib.hid h81
          clear h81
          go_simp
          refine hK'.out _ _ (by first | trivial | exact ⟨by go_simp, by go_simp, by go_simp, by go_simp⟩) ?_
          clear hK' K'
          refine wpAnyR_ready (rs := [14]) (by kernel_rfl) (by simp) (AllR.cons rfl (fun w82 h82 K' hK' => ?_) AllR.nil)
          have q := keep2 h82 (b := w81.heap.size) (by first | (simp; done) | (simp; omega) | omega)
          have kc82_0_0 := q.1
          have kc82_0_1 := q.2.1
          have kf82_0_0 := q.2.2.1
          have kf82_0_1 := q.2.2.2.1
          have kl82_0 := q.2.2.2.2.1
          have kn82_0 := q.2.2.2.2.2.1
          have km82_0 := q.2.2.2.2.2.2
          clear q
          have q := keep2 h82 (b := w.heap.size) (by first | (simp; done) | (simp; omega) | omega)
          have kc82_1_0 := q.1
          have kc82_1_1 := q.2.1
          have kf82_1_0 := q.2.2.1
          have kf82_1_1 := q.2.2.2.1
          have kl82_1 := q.2.2.2.2.1
          have kn82_1 := q.2.2.2.2.2.1
          have km82_1 := q.2.2.2.2.2.2
          clear q
          have q := keep2 h82 (b := w.heap.size + 1) (by first | (simp; done) | (simp; omega) | omega)
          have kc82_2_0 := q.1
          have kc82_2_1 := q.2.1
          have kf82_2_0 := q.2.2.1
          have kf82_2_1 := q.2.2.2.1
          have kl82_2 := q.2.2.2.2.1
          have kn82_2 := q.2.2.2.2.2.1
          have km82_2 := q.2.2.2.2.2.2
          clear q
          have kz82 := h82.size
          (try simp only [World.size_alloc, World.size_setCell, World.size_drew] at kz82)
          have H82 := Lib.hid h82
          clear h82
          go_simp
          refine hK'.out _ _ (by first | trivial | exact ⟨by go_simp, by go_simp, by go_simp, by go_simp⟩) ?_
          clear hK' K'
          refine wpAnyR_ready (rs := [16]) (by kernel_rfl) (by simp) (AllR.cons rfl (fun w83 h83 K' hK' => ?_) AllR.nil)
          have q := keep2 h83 (b := w81.heap.size) (by first | (simp; done) | (simp; omega) | omega)
          have kc83_0_0 := q.1
          have kc83_0_1 := q.2.1
          have kf83_0_0 := q.2.2.1
          have kf83_0_1 := q.2.2.2.1
          have kl83_0 := q.2.2.2.2.1
          have kn83_0 := q.2.2.2.2.2.1
          have km83_0 := q.2.2.2.2.2.2
          clear q
          have q := keep2 h83 (b := w82.heap.size) (by first | (simp; done) | (simp; omega) | omega)
          have kc83_1_0 := q.1
          have kc83_1_1 := q.2.1
          have kf83_1_0 := q.2.2.1
          have kf83_1_1 := q.2.2.2.1
          have kl83_1 := q.2.2.2.2.1
          have kn83_1 := q.2.2.2.2.2.1
          have km83_1 := q.2.2.2.2.2.2
          clear q
          have q := keep2 h83 (b := w.heap.size) (by first | (simp; done) | (simp; omega) | omega)
          have kc83_2_0 := q.1
          have kc83_2_1 := q.2.1
          have kf83_2_0 := q.2.2.1
          have kf83_2_1 := q.2.2.2.1
          have kl83_2 := q.2.2.2.2.1
          have kn83_2 := q.2.2.2.2.2.1
          have km83_2 := q.2.2.2.2.2.2
          clear q
          have q := keep2 h83 (b := w.heap.size + 1) (by first | (simp; done) | (simp; omega) | omega)
          have kc83_3_0 := q.1
          have kc83_3_1 := q.2.1
          have kf83_3_0 := q.2.2.1
          have kf83_3_1 := q.2.2.2.1
          have kl83_3 := q.2.2.2.2.1
          have kn83_3 := q.2.2.2.2.2.1
          have km83_3 := q.2.2.2.2.2.2
          clear q
          have kz83 := h83.size
          (try simp only [World.size_alloc, World.size_setCell, World.size_drew] at kz83)
          have H83 := Lib.hid h83
          clear h83
          go_simp
          refine hK'.out _ _ (by first | trivial | exact ⟨by go_simp, by go_simp, by go_simp, by go_simp⟩) ?_
          clear hK' K'
          refine wpAnyR_ready (rs := [17]) (by kernel_rfl) (by simp) (AllR.cons rfl (fun w84 h84 K' hK' => ?_) AllR.nil)
          have q := keep2 h84 (b := w81.heap.size) (by first | (simp; done) | (simp; omega) | omega)
          have kc84_0_0 := q.1
          have kc84_0_1 := q.2.1
          have kf84_0_0 := q.2.2.1
          have kf84_0_1 := q.2.2.2.1
          have kl84_0 := q.2.2.2.2.1
          have kn84_0 := q.2.2.2.2.2.1
          have km84_0 := q.2.2.2.2.2.2
          clear q
          have q := keep2 h84 (b := w82.heap.size) (by first | (simp; done) | (simp; omega) | omega)
          have kc84_1_0 := q.1
          have kc84_1_1 := q.2.1
          have kf84_1_0 := q.2.2.1
          have kf84_1_1 := q.2.2.2.1
          have kl84_1 := q.2.2.2.2.1
          have kn84_1 := q.2.2.2.2.2.1
          have km84_1 := q.2.2.2.2.2.2
          clear q
          have q := keep2 h84 (b := w.heap.size) (by first | (simp; done) | (simp; omega) | omega)
          have kc84_2_0 := q.1
          have kc84_2_1 := q.2.1
          have kf84_2_0 := q.2.2.1
          have kf84_2_1 := q.2.2.2.1
          have kl84_2 := q.2.2.2.2.1
          have kn84_2 := q.2.2.2.2.2.1
          have km84_2 := q.2.2.2.2.2.2
          clear q
          have q := keep2 h84 (b := w.heap.size + 1) (by first | (simp; done) | (simp; omega) | omega)
          have kc84_3_0 := q.1
          have kc84_3_1 := q.2.1
          have kf84_3_0 := q.2.2.1
          have kf84_3_1 := q.2.2.2.1
          have kl84_3 := q.2.2.2.2.1
          have kn84_3 := q.2.2.2.2.2.1
          have km84_3 := q.2.2.2.2.2.2
          clear q
          have kz84 := h84.size
          (try simp only [World.size_alloc, World.size_setCell, World.size_drew] at kz84)
          have H84 := Lib.hid h84
          clear h84
          go_simp
          refine hK'.out _ _ (by first | trivial | exact ⟨by go_simp, by go_simp, by go_simp, by go_simp⟩) ?_
          clear hK' K'
          refine wpAnyR_end (by kernel_rfl) (fun w85 h85 => ?_)
          have q := keep2 h85 (b := w82.heap.size) (by first | (simp; done) | (simp; omega) | omega)
          have kc85_0_0 := q.1
          have kc85_0_1 := q.2.1
          have kf85_0_0 := q.2.2.1
          have kf85_0_1 := q.2.2.2.1
          have kl85_0 := q.2.2.2.2.1
          have kn85_0 := q.2.2.2.2.2.1
          have km85_0 := q.2.2.2.2.2.2
          clear q
          have q := keep2 h85 (b := w81.heap.size) (by first | (simp; done) | (simp; omega) | omega)
          have kc85_1_0 := q.1
          have kc85_1_1 := q.2.1
          have kf85_1_0 := q.2.2.1
          have kf85_1_1 := q.2.2.2.1
          have kl85_1 := q.2.2.2.2.1
          have kn85_1 := q.2.2.2.2.2.1
          have km85_1 := q.2.2.2.2.2.2
          clear q
          have kz85 := h85.size
          (try simp only [World.size_alloc, World.size_setCell, World.size_drew] at kz85)
          have H85 := Lib.hid h85
          clear h85
          exact ⟨rfl, w82.heap.size, w81.heap.size, by first | rfl | simp only [Act.put, List.setIfInBounds_toArray, List.set_cons_zero, List.set_cons_succ], by (repeat (first | with_reducible exact Rel.refl _ | with_reducible refine Rel.alloc ?_ _ | with_reducible refine Rel.setCell ?_ (by first | (simp; done) | (simp; omega) | omega) _ | with_reducible refine Rel.drew ?_ | with_reducible refine Rel.trans ?_ H85.out | with_reducible refine Rel.trans ?_ H84.out | with_reducible refine Rel.trans ?_ H83.out | with_reducible refine Rel.trans ?_ H82.out | with_reducible refine Rel.trans ?_ H81.out | with_reducible exact H0.out)), by first | (simp; done) | (simp; omega) | omega, by first | (simp; done) | (simp; omega) | omega, by first | (simp; done) | (simp; omega) | omega, by first | assumption | (simp; omega), by first | assumption | (simp; omega), by go_simp, by go_simp, by go_simp, by go_simp, by go_simp, by go_simp, by go_simp, by go_simp⟩
      intro b1 b2 wt ht
      (try simp only [Act.put, List.setIfInBounds_toArray, List.set_cons_zero, List.set_cons_succ])
      have tr := ht.rel
      have tl1 := ht.lo1
      have tl2 := ht.lo2
      have tn := ht.ne
      have ti1 := ht.in1
      have ti2 := ht.in2
      have tc1 := ht.c10
      have tc2 := ht.c11
      have tc3 := ht.c20
      have tc4 := ht.c21
      have tf1 := ht.f10
      have tf2 := ht.f11
      have tf3 := ht.f20
      have tf4 := ht.f21
      have tn' := Ne.symm tn
      have q := keep2 tr (b := w.heap.size) (by first | (simp; done) | (simp; omega) | omega)
      have kc3_0_0 := q.1
      have kc3_0_1 := q.2.1
      have kf3_0_0 := q.2.2.1
      have kf3_0_1 := q.2.2.2.1
      have kl3_0 := q.2.2.2.2.1
      have kn3_0 := q.2.2.2.2.2.1
      have km3_0 := q.2.2.2.2.2.2
      clear q
      have q := keep2 tr (b := w.heap.size + 1) (by first | (simp; done) | (simp; omega) | omega)
      have kc3_1_0 := q.1
      have kc3_1_1 := q.2.1
      have kf3_1_0 := q.2.2.1
      have kf3_1_1 := q.2.2.2.1
      have kl3_1 := q.2.2.2.2.1
      have kn3_1 := q.2.2.2.2.2.1
      have km3_1 := q.2.2.2.2.2.2
      clear q
      have kz3 := tr.size
      (try simp only [World.size_alloc, World.size_setCell, World.size_drew] at kz3)
      have H3 := Lib.hid tr
      clear tr
      have tm1 : w.heap.size + 1 < b1 := by omega
      have tm2 : w.heap.size + 1 < b2 := by omega
      have e00 : wt.cell? ⟨w.heap.size, 0, none⟩ = some (.int .i64 a) := by go_simp
      have l0 : w.heap.size < wt.heap.size := by omega
      have l1 : w.heap.size + 1 < wt.heap.size := by omega
      have m1 : w.heap.size ≤ b1 := by omega
      have m2 : w.heap.size ≤ b2 := by omega
      have j6 : b1 ≠ w.heap.size := by omega
      have j10 : b2 ≠ w.heap.size := by omega
      have HA : Hid (Rel w wt) := by
        show Rel w wt
        (repeat (first | with_reducible exact Rel.refl _ | with_reducible refine Rel.alloc ?_ _ | with_reducible refine Rel.trans ?_ H3.out | with_reducible refine Rel.trans ?_ H2.out))
      clear H0 H3 kc2_0_0 kc2_0_1 kf2_0_0 kf2_0_1 kl2_0 kn2_0 km2_0 kc2_1_0 kc2_1_1 kf2_1_0 kf2_1_1 kl2_1 kn2_1 km2_1 kz2 kc0_0_0 kc0_0_1 kf0_0_0 kf0_0_1 kl0_0 kn0_0 km0_0 kc0_1_0 kc0_1_1 kf0_1_0 kf0_1_1 kl0_1 kn0_1 km0_1 kz0 kc3_0_0 kc3_0_1 kf3_0_0 kf3_0_1 kl3_0 kn3_0 km3_0 kc3_1_0 kc3_1_1 kf3_1_0 kf3_1_1 kl3_1 kn3_1 km3_1 kz3 H2
      go_wp2_with fail
      refine wp_region_calm (fun _ w' => w'.cell? { block := w.heap.size, off := 0 } = some (.int .i64 a) ∧ w'.cell? { block := b1, off := 0 } = some (.int .u64 xh) ∧ w'.cell? { block := b1, off := 1 } = some (.int .u64 xl) ∧ w'.cell? { block := b2, off := 0 } = some (.int .u64 yh) ∧ w'.cell? { block := b2, off := 1 } = some (.int .u64 yl)) (fun _ => false) [0, 1, 2, 3, 4, 5, 6] 0 (by kernel_rfl) (by kernel_rfl) ?hst ?hS0 (fun w0 h0 => ?_)
      case hst => exact fun _ _ _ h r => ⟨r.cell h.1, r.cell h.2.1, r.cell h.2.2.1, r.cell h.2.2.2.1, r.cell h.2.2.2.2⟩
      case hS0 => exact ⟨by go_simp, by go_simp, by go_simp, by go_simp, by go_simp⟩
      iterate 2
        refine wpCalm_go rfl (by kernel_rfl) (fun K hK => ?_)
        apply Exists.intro
        refine ⟨fun M w hM hS => ?_, hK _ ?_⟩
        · have c1 := hS.1
          have c2 := hS.2.1
          have c3 := hS.2.2.1
          have c4 := hS.2.2.2.1
          have c5 := hS.2.2.2.2
          unfold calmAt
          go_simp
          exact ⟨rfl, Rel.refl _⟩
        clear hK K
      refine wpCalm_go rfl (by kernel_rfl) (fun K hK => ?_)
      apply Exists.intro
      refine ⟨fun M w hM hS => ?_, hK _ ?_⟩
      · unfold calmAt
        go_simp
        with_reducible refine (L.out _).mono ?_
        rintro e w1 ⟨rfl, hb⟩
        exact ⟨rfl, hb⟩
      clear hK K
      iterate 4
        refine wpCalm_go rfl (by kernel_rfl) (fun K hK => ?_)
        apply Exists.intro
        refine ⟨fun M w hM hS => ?_, hK _ ?_⟩
        · have c1 := hS.1
          have c2 := hS.2.1
          have c3 := hS.2.2.1
          have c4 := hS.2.2.2.1
          have c5 := hS.2.2.2.2
          unfold calmAt
          go_simp
          exact ⟨rfl, Rel.refl _⟩
        clear hK K
      refine wpAnyR_end (by kernel_rfl) (fun w4 h4' => ?_)
      (try simp only [Act.put, List.setIfInBounds_toArray, List.set_cons_zero, List.set_cons_succ])
      have h4 := h0.trans h4'
      clear h0 h4'
      have kz4 := h4.size
      (try simp only [World.size_alloc, World.size_setCell, World.size_drew] at kz4)
      have H4 := Lib.hid h4
      clear h4
      obtain rfl := HRR.out
      cases r
      all_goals
        go_wp2
        go_ret
        exact ⟨rfl, by (show Rel _ _; repeat (first | with_reducible exact Rel.refl _ | with_reducible refine Rel.alloc ?_ _ | with_reducible refine Rel.setCell ?_ (by first | (simp; done) | (simp; omega) | omega) _ | with_reducible refine Rel.trans ?_ H4.out | with_reducible exact HA.out))⟩

end Go.Proofs.Ytdhfecaoadnogaa


/- Contracts of Valid and ValidFraction. No conditions but those printed. -/
import Derived.Test.YtnhmebhmlbofgaaDoorRatH
namespace Go.Proofs.YtnhmebhmlbofgaaDoor
open Go.RowKit Frac

attribute [local go_sem] calmUpon
set_option linter.unusedSimpArgs false
set_option linter.unusedVariables false

set_option maxHeartbeats 3200000 in
theorem rvalid_any (n d : Int) (w : World) (n0 : -9223372036854775808 ≤ n) (n1 : n ≤ 9223372036854775807) (d0 : -9223372036854775808 ≤ d) (d1 : d ≤ 9223372036854775807) :
    Calls Tryd.prog 69 #[.agg #[.int .i64 n, .int .i64 d]] w (BRes (validB n d) w) := by
  unfold BRes
  have P1 : decide (1 ≤ d) = false → d < 1 := by simp
  have P2 : decide (d ≤ 1000000000) = false → 1000000000 < d := by simp
  have P3 : decide (-1000000000000000 ≤ n) = false → n < -1000000000000000 := by simp
  have P4 : decide (n ≤ 1000000000000000) = false → 1000000000000000 < n := by simp
  have Q2 : decide (d ≤ 1000000000) = true → d ≤ 1000000000 := by simp
  have Q3 : decide (-1000000000000000 ≤ n) = true → -1000000000000000 ≤ n := by simp
  have Q4 : decide (n ≤ 1000000000000000) = true → n ≤ 1000000000000000 := by simp
  rcases valid_ways n d with ⟨k1, kv⟩ | ⟨kd, k1, k2, kv⟩ | ⟨kd, k1, k2, k3, kv⟩ | ⟨kd, k1, k2, k3, k4, kv⟩ | ⟨kd, kd', k1, k2, k3, k4, kv⟩
  · have p1 := P1 k1
    clear P1 P2 P3 P4 Q2 Q3 Q4
    rw [kv]
    go_enter Tryd.func69, Tryd.ntmps69
    go_wp2_with fail
    refine wp_region_calm (fun _ w' => w'.cell? { block := w.heap.size, off := 0 } = some (.int .i64 n) ∧ w'.cell? { block := w.heap.size, off := 1 } = some (.int .i64 d)) (fun _ => false) [0, 1, 2, 3, 4, 5, 6, 7, 8, 9, 10, 11, 12, 13, 14, 15, 16, 17, 18, 19, 20, 21, 22, 23, 24, 25, 26, 27, 28] 0 (by kernel_rfl) (by kernel_rfl) ?hst ?hS0 (fun w0 h0 => ?_)
    case hst => exact fun _ _ _ h r => ⟨r.cell h.1, r.cell h.2⟩
    case hS0 => exact ⟨by go_simp, by go_simp⟩
    iterate 4
      refine wpCalm_go rfl (by kernel_rfl) (fun K hK => ?_)
      apply Exists.intro
      refine ⟨fun M w hM hS => ?_, hK _ ?_⟩
      · have hc := hS.1
        have hc' := hS.2
        unfold calmAt
        go_simp
        exact ⟨rfl, Rel.refl _⟩
      clear hK K
    iterate 3 (refine wpCalm_no rfl (by kernel_rfl) (fun K hK => hK _ ?_); clear hK K)
    iterate 2
      refine wpCalm_go rfl (by kernel_rfl) (fun K hK => ?_)
      apply Exists.intro
      refine ⟨fun M w hM hS => ?_, hK _ ?_⟩
      · have hc := hS.1
        have hc' := hS.2
        unfold calmAt
        go_simp
        exact ⟨rfl, Rel.refl _⟩
      clear hK K
    iterate 3 (refine wpCalm_no rfl (by kernel_rfl) (fun K hK => hK _ ?_); clear hK K)
    iterate 2
      refine wpCalm_go rfl (by kernel_rfl) (fun K hK => ?_)
      apply Exists.intro
      refine ⟨fun M w hM hS => ?_, hK _ ?_⟩
      · have hc := hS.1
        have hc' := hS.2
        unfold calmAt
        go_simp
        exact ⟨rfl, Rel.refl _⟩
      clear hK K
    iterate 3 (refine wpCalm_no rfl (by kernel_rfl) (fun K hK => hK _ ?_); clear hK K)
    iterate 2
      refine wpCalm_go rfl (by kernel_rfl) (fun K hK => ?_)
      apply Exists.intro
      refine ⟨fun M w hM hS => ?_, hK _ ?_⟩
      · have hc := hS.1
        have hc' := hS.2
        unfold calmAt
        go_simp
        exact ⟨rfl, Rel.refl _⟩
      clear hK K
    iterate 8 (refine wpCalm_no rfl (by kernel_rfl) (fun K hK => hK _ ?_); clear hK K)
    iterate 2
      refine wpCalm_go rfl (by kernel_rfl) (fun K hK => ?_)
      apply Exists.intro
      refine ⟨fun M w hM hS => ?_, hK _ ?_⟩
      · have hc := hS.1
        have hc' := hS.2
        unfold calmAt
        go_simp
        exact ⟨rfl, Rel.refl _⟩
      clear hK K
    refine wpAnyR_end (by kernel_rfl) (fun w1 h1 => ?_)
    (try simp only [Act.put, List.setIfInBounds_toArray, List.set_cons_zero, List.set_cons_succ])
    have kz1 := h1.size
    (try simp only [World.size_alloc, World.size_setCell, World.size_drew] at kz1)
    have H1 := Lib.hid h1
    clear h1
    go_wp2
    go_ret
    exact ⟨rfl, (((Rel.refl _).alloc _).trans (h0.trans H1.out))⟩
  · have p1 := P2 k2
    clear P1 P2 P3 P4 Q2 Q3 Q4
    rw [kv]
    go_enter Tryd.func69, Tryd.ntmps69
    go_wp2_with fail
    refine wp_region_calm (fun _ w' => w'.cell? { block := w.heap.size, off := 0 } = some (.int .i64 n) ∧ w'.cell? { block := w.heap.size, off := 1 } = some (.int .i64 d)) (fun _ => false) [0, 1, 2, 3, 4, 5, 6, 7, 8, 9, 10, 11, 12, 13, 14, 15, 16, 17, 18, 19, 20, 21, 22, 23, 24, 25, 26, 27, 28] 0 (by kernel_rfl) (by kernel_rfl) ?hst ?hS0 (fun w0 h0 => ?_)
    case hst => exact fun _ _ _ h r => ⟨r.cell h.1, r.cell h.2⟩
    case hS0 => exact ⟨by go_simp, by go_simp⟩
    iterate 9
      refine wpCalm_go rfl (by kernel_rfl) (fun K hK => ?_)
      apply Exists.intro
      refine ⟨fun M w hM hS => ?_, hK _ ?_⟩
      · have hc := hS.1
        have hc' := hS.2
        unfold calmAt
        go_simp
        exact ⟨rfl, Rel.refl _⟩
      clear hK K
    iterate 3 (refine wpCalm_no rfl (by kernel_rfl) (fun K hK => hK _ ?_); clear hK K)
    iterate 2
      refine wpCalm_go rfl (by kernel_rfl) (fun K hK => ?_)
      apply Exists.intro
      refine ⟨fun M w hM hS => ?_, hK _ ?_⟩
      · have hc := hS.1
        have hc' := hS.2
        unfold calmAt
        go_simp
        exact ⟨rfl, Rel.refl _⟩
      clear hK K
    iterate 3 (refine wpCalm_no rfl (by kernel_rfl) (fun K hK => hK _ ?_); clear hK K)
    iterate 2
      refine wpCalm_go rfl (by kernel_rfl) (fun K hK => ?_)
      apply Exists.intro
      refine ⟨fun M w hM hS => ?_, hK _ ?_⟩
      · have hc := hS.1
        have hc' := hS.2
        unfold calmAt
        go_simp
        exact ⟨rfl, Rel.refl _⟩
      clear hK K
    iterate 8 (refine wpCalm_no rfl (by kernel_rfl) (fun K hK => hK _ ?_); clear hK K)
    iterate 2
      refine wpCalm_go rfl (by kernel_rfl) (fun K hK => ?_)
      apply Exists.intro
      refine ⟨fun M w hM hS => ?_, hK _ ?_⟩
      · have hc := hS.1
        have hc' := hS.2
        unfold calmAt
        go_simp
        exact ⟨rfl, Rel.refl _⟩
      clear hK K
    refine wpAnyR_end (by kernel_rfl) (fun w1 h1 => ?_)
    (try simp only [Act.put, List.setIfInBounds_toArray, List.set_cons_zero, List.set_cons_succ])
    have kz1 := h1.size
    (try simp only [World.size_alloc, World.size_setCell, World.size_drew] at kz1)
    have H1 := Lib.hid h1
    clear h1
    go_wp2
    go_ret
    exact ⟨rfl, (((Rel.refl _).alloc _).trans (h0.trans H1.out))⟩
  · have p1 := Q2 k2
    have p2 := P3 k3
    clear P1 P2 P3 P4 Q2 Q3 Q4
    rw [kv]
    go_enter Tryd.func69, Tryd.ntmps69
    go_wp2_with fail
    refine wp_region_calm (fun _ w' => w'.cell? { block := w.heap.size, off := 0 } = some (.int .i64 n) ∧ w'.cell? { block := w.heap.size, off := 1 } = some (.int .i64 d)) (fun _ => false) [0, 1, 2, 3, 4, 5, 6, 7, 8, 9, 10, 11, 12, 13, 14, 15, 16, 17, 18, 19, 20, 21, 22, 23, 24, 25, 26, 27, 28] 0 (by kernel_rfl) (by kernel_rfl) ?hst ?hS0 (fun w0 h0 => ?_)
    case hst => exact fun _ _ _ h r => ⟨r.cell h.1, r.cell h.2⟩
    case hS0 => exact ⟨by go_simp, by go_simp⟩
    iterate 14
      refine wpCalm_go rfl (by kernel_rfl) (fun K hK => ?_)
      apply Exists.intro
      refine ⟨fun M w hM hS => ?_, hK _ ?_⟩
      · have hc := hS.1
        have hc' := hS.2
        unfold calmAt
        go_simp
        exact ⟨rfl, Rel.refl _⟩
      clear hK K
    iterate 3 (refine wpCalm_no rfl (by kernel_rfl) (fun K hK => hK _ ?_); clear hK K)
    iterate 2
      refine wpCalm_go rfl (by kernel_rfl) (fun K hK => ?_)
      apply Exists.intro
      refine ⟨fun M w hM hS => ?_, hK _ ?_⟩
      · have hc := hS.1
        have hc' := hS.2
        unfold calmAt
        go_simp
        exact ⟨rfl, Rel.refl _⟩
      clear hK K
    iterate 8 (refine wpCalm_no rfl (by kernel_rfl) (fun K hK => hK _ ?_); clear hK K)
    iterate 2
      refine wpCalm_go rfl (by kernel_rfl) (fun K hK => ?_)
      apply Exists.intro
      refine ⟨fun M w hM hS => ?_, hK _ ?_⟩
      · have hc := hS.1
        have hc' := hS.2
        unfold calmAt
        go_simp
        exact ⟨rfl, Rel.refl _⟩
      clear hK K
    refine wpAnyR_end (by kernel_rfl) (fun w1 h1 => ?_)
    (try simp only [Act.put, List.setIfInBounds_toArray, List.set_cons_zero, List.set_cons_succ])
    have kz1 := h1.size
    (try simp only [World.size_alloc, World.size_setCell, World.size_drew] at kz1)
    have H1 := Lib.hid h1
    clear h1
    go_wp2
    go_ret
    exact ⟨rfl, (((Rel.refl _).alloc _).trans (h0.trans H1.out))⟩
  · have p1 := Q2 k2
    have p2 := Q3 k3
    have p3 := P4 k4
    clear P1 P2 P3 P4 Q2 Q3 Q4
    rw [kv]
    go_enter Tryd.func69, Tryd.ntmps69
    go_wp2_with fail
    refine wp_region_calm (fun _ w' => w'.cell? { block := w.heap.size, off := 0 } = some (.int .i64 n) ∧ w'.cell? { block := w.heap.size, off := 1 } = some (.int .i64 d)) (fun _ => false) [0, 1, 2, 3, 4, 5, 6, 7, 8, 9, 10, 11, 12, 13, 14, 15, 16, 17, 18, 19, 20, 21, 22, 23, 24, 25, 26, 27, 28] 0 (by kernel_rfl) (by kernel_rfl) ?hst ?hS0 (fun w0 h0 => ?_)
    case hst => exact fun _ _ _ h r => ⟨r.cell h.1, r.cell h.2⟩
    case hS0 => exact ⟨by go_simp, by go_simp⟩
    iterate 19
      refine wpCalm_go rfl (by kernel_rfl) (fun K hK => ?_)
      apply Exists.intro
      refine ⟨fun M w hM hS => ?_, hK _ ?_⟩
      · have hc := hS.1
        have hc' := hS.2
        unfold calmAt
        go_simp
        exact ⟨rfl, Rel.refl _⟩
      clear hK K
    iterate 8 (refine wpCalm_no rfl (by kernel_rfl) (fun K hK => hK _ ?_); clear hK K)
    iterate 2
      refine wpCalm_go rfl (by kernel_rfl) (fun K hK => ?_)
      apply Exists.intro
      refine ⟨fun M w hM hS => ?_, hK _ ?_⟩
      · have hc := hS.1
        have hc' := hS.2
        unfold calmAt
        go_simp
        exact ⟨rfl, Rel.refl _⟩
      clear hK K
    refine wpAnyR_end (by kernel_rfl) (fun w1 h1 => ?_)
    (try simp only [Act.put, List.setIfInBounds_toArray, List.set_cons_zero, List.set_cons_succ])
    have kz1 := h1.size
    (try simp only [World.size_alloc, World.size_setCell, World.size_drew] at kz1)
    have H1 := Lib.hid h1
    clear h1
    go_wp2
    go_ret
    exact ⟨rfl, (((Rel.refl _).alloc _).trans (h0.trans H1.out))⟩
  · have p2 := Q3 k3
    have p3 := Q4 k4
    clear P1 P2 P3 P4 Q2 Q3 Q4
    have G1 := Lib.hid (fun w => rsize_any n w n0 n1)
    obtain ⟨b, rfl⟩ := Int.eq_ofNat_of_zero_le (show 0 ≤ d by omega)
    rw [Int.natAbs_natCast] at kv
    have hbw := u64_nat (n := b) (by omega)
    have G := Lib.hid (fun w => rgcd_any n.natAbs b w (by omega) (by omega))
    generalize Nat.gcd n.natAbs b = g at *
    generalize n.natAbs = a at *
    generalize validB n b = v at *
    go_enter Tryd.func69, Tryd.ntmps69
    go_wp2_with fail
    refine wp_region_calm (fun _ w' => w'.cell? { block := w.heap.size, off := 0 } = some (.int .i64 n) ∧ w'.cell? { block := w.heap.size, off := 1 } = some (.int .i64 b)) (fun _ => false) [0, 1, 2, 3, 4, 5, 6, 7, 8, 9, 10, 11, 12, 13, 14, 15, 16, 17, 18, 19, 20, 21, 22, 23, 24, 25, 26, 27, 28] 0 (by kernel_rfl) (by kernel_rfl) ?hst ?hS0 (fun w0 h0 => ?_)
    case hst => exact fun _ _ _ h r => ⟨r.cell h.1, r.cell h.2⟩
    case hS0 => exact ⟨by go_simp, by go_simp⟩
    iterate 21
      refine wpCalm_go rfl (by kernel_rfl) (fun K hK => ?_)
      apply Exists.intro
      refine ⟨fun M w hM hS => ?_, hK _ ?_⟩
      · have hc := hS.1
        have hc' := hS.2
        unfold calmAt
        go_simp
        exact ⟨rfl, Rel.refl _⟩
      clear hK K
    refine wpCalm_go rfl (by kernel_rfl) (fun K hK => ?_)
    apply Exists.intro
    refine ⟨fun M w hM hS => ?_, hK _ ?_⟩
    · unfold calmAt
      go_simp
      with_reducible refine (G1.out _).mono ?_
      rintro e w1 ⟨rfl, rfl⟩
      exact ⟨rfl, Rel.refl _⟩
    clear hK K
    iterate 3
      refine wpCalm_go rfl (by kernel_rfl) (fun K hK => ?_)
      apply Exists.intro
      refine ⟨fun M w hM hS => ?_, hK _ ?_⟩
      · have hc := hS.1
        have hc' := hS.2
        unfold calmAt
        go_simp
        exact ⟨rfl, Rel.refl _⟩
      clear hK K
    refine wpCalm_go rfl (by kernel_rfl) (fun K hK => ?_)
    apply Exists.intro
    refine ⟨fun M w hM hS => ?_, hK _ ?_⟩
    · unfold calmAt
      go_simp
      with_reducible refine (G.out _).mono ?_
      rintro e w1 ⟨rfl, hb⟩
      exact ⟨rfl, hb⟩
    clear hK K
    iterate 3
      refine wpCalm_go rfl (by kernel_rfl) (fun K hK => ?_)
      apply Exists.intro
      refine ⟨fun M w hM hS => ?_, hK _ ?_⟩
      · unfold calmAt
        go_simp
        exact ⟨rfl, Rel.refl _⟩
      clear hK K
    refine wpAnyR_end (by kernel_rfl) (fun w1 h1 => ?_)
    (try simp only [Act.put, List.setIfInBounds_toArray, List.set_cons_zero, List.set_cons_succ])
    have kz1 := h1.size
    (try simp only [World.size_alloc, World.size_setCell, World.size_drew] at kz1)
    have H1 := Lib.hid h1
    clear h1
    go_wp2
    go_ret
    exact ⟨rfl, (((Rel.refl _).alloc _).trans (h0.trans H1.out))⟩

end Go.Proofs.YtnhmebhmlbofgaaDoor

/- Walk of the law RationalOrder. No conditions but those printed. -/
import Derived.Test.YtdhfecaoadnogaaRatL3
import Derived.Test.YtdhfecaoadnogaaRatS
namespace Go.Proofs.Ytdhfecaoadnogaa
open Go.RowKit Frac

attribute [local go_sem] calmUpon
set_option linter.unusedSimpArgs false
set_option linter.unusedVariables false

structure OrdF (a b c d p q X E Y F Z G D D2 R : Int) : Prop where
  N1 : ∀ w, Calls Try.prog 31 #[.agg #[.int .i64 a, .int .i64 b], .agg #[.int .i64 c, .int .i64 d]] w fun e w' => e = .returned (.tuple #[.int .i64 X, .int .i64 E]) ∧ Rel w w'
  N2 : ∀ w, Calls Try.prog 31 #[.agg #[.int .i64 c, .int .i64 d], .agg #[.int .i64 p, .int .i64 q]] w fun e w' => e = .returned (.tuple #[.int .i64 Y, .int .i64 F]) ∧ Rel w w'
  N3 : ∀ w, Calls Try.prog 31 #[.agg #[.int .i64 a, .int .i64 b], .agg #[.int .i64 p, .int .i64 q]] w fun e w' => e = .returned (.tuple #[.int .i64 Z, .int .i64 G]) ∧ Rel w w'
  N4 : ∀ w, Calls Try.prog 35 #[.agg #[.int .i64 a, .int .i64 b], .agg #[.int .i64 c, .int .i64 d]] w fun e w' => e = .returned (.tuple #[.agg #[.int .i64 D, .int .i64 D2], .int .i64 R]) ∧ Rel w w'
  hE : ((E == 0) = false ∧ (E != 0) = true) ∨ ((E == 0) = true ∧ (E != 0) = false ∧
    (((F == 0) = false) ∨ ((F == 0) = true ∧ (G == 0) = true ∧ (X = 1 ∨ (X ≤ 0 ∧ Y = 1) ∨ (X ≤ 0 ∧ Y ≤ 0 ∧ Z = -1) ∨ (X = 0 ∧ Y = 0 ∧ Z = 0)))) ∧
    (((R != 0) = true) ∨ ((R != 0) = false ∧ ((X = -1 ∧ D < 0 ∧ decide (D < 0) = true ∧ (D == 0) = false) ∨ (X = 0 ∧ D = 0) ∨ (X = 1 ∧ 0 < D ∧ decide (D < 0) = false ∧ (D == 0) = false)))))

theorem ord_facts (a b c d p q : Int) (h : Bd a b) (k : Bd c d) (l : Bd p q) : ∃ X E Y F Z G D D2 R, OrdF a b c d p q X E Y F Z G D D2 R := by
  obtain ⟨⟨h1, h2⟩, h3, h4⟩ := h
  obtain ⟨⟨k1, k2⟩, k3, k4⟩ := k
  obtain ⟨⟨l1, l2⟩, l3, l4⟩ := l
  refine ⟨_, _, _, _, _, _, _, _, _, fun w => cmp_any a b c d w h1 h2 h3 h4 k1 k2 k3 k4, fun w => cmp_any c d p q w k1 k2 k3 k4 l1 l2 l3 l4, fun w => cmp_any a b p q w h1 h2 h3 h4 l1 l2 l3 l4, fun w => sub_any a b c d w h1 h2 h3 h4 k1 k2 k3 k4, ?_⟩
  cases hB : addB a b c d
  · left; rw [(cmp_no hB).2]; exact ⟨rfl, rfl⟩
  · right
    obtain ⟨v1, v2⟩ := (addB_iff a b c d).1 hB
    rw [(cmp_of v1 v2).2]
    have bx := cmp_bd a b c d
    have bz := cmp_bd a b p q
    have bY := cmp_bd c d p q
    refine ⟨rfl, rfl, ?_, ?_⟩
    · cases hv : validB p q
      · left
        have : addB c d p q = false := by unfold addB; rw [hv]; simp
        rw [(cmp_no this).2]; rfl
      · right
        rw [(cmp_of v2 hv).2, (cmp_of v1 hv).2]
        refine ⟨rfl, rfl, ?_⟩
        by_cases x : cmpV a b c d ≤ 0
        · by_cases y : cmpV c d p q ≤ 0
          · obtain ⟨t1, t2⟩ := cmp_trans v1 v2 hv x y
            by_cases z : cmpV a b p q < 0
            · exact .inr (.inr (.inl ⟨x, y, by omega⟩))
            · exact .inr (.inr (.inr ⟨by omega, by omega, by omega⟩))
          · exact .inr (.inl ⟨x, by omega⟩)
        · exact .inl (by omega)
    · by_cases r : subE a b c d = 0
      · right
        obtain ⟨s1, s2⟩ := sub_sign v1 v2 r
        refine ⟨by simp [r], ?_⟩
        rcases (show cmpV a b c d = -1 ∨ cmpV a b c d = 0 ∨ cmpV a b c d = 1 by omega) with x | x | x
        · have := s1.2 (by omega)
          exact .inl ⟨x, this, by simp [this], by simp; omega⟩
        · exact .inr (.inl ⟨x, s2.2 x⟩)
        · have n1 : ¬ subN a b c d < 0 := fun e => by have := s1.1 e; omega
          have n2 : ¬ subN a b c d = 0 := fun e => by have := s2.1 e; omega
          exact .inr (.inr ⟨x, by omega, by simp; omega, by simp [n2]⟩)
      · left; simp [r]

set_option maxHeartbeats 6400000 in
theorem walk_RationalOrder (a0a a0b : Int) (a1a a1b : Int) (a2a a2b : Int) (a3 : Int) (a4 : Int) (a5 : Int) (b0a : -9223372036854775808 ≤ a0a) (c0a : a0a ≤ 9223372036854775807) (b0b : -9223372036854775808 ≤ a0b) (c0b : a0b ≤ 9223372036854775807) (b1a : -9223372036854775808 ≤ a1a) (c1a : a1a ≤ 9223372036854775807) (b1b : -9223372036854775808 ≤ a1b) (c1b : a1b ≤ 9223372036854775807) (b2a : -9223372036854775808 ≤ a2a) (c2a : a2a ≤ 9223372036854775807) (b2b : -9223372036854775808 ≤ a2b) (c2b : a2b ≤ 9223372036854775807) (b3 : -9223372036854775808 ≤ a3) (c3 : a3 ≤ 9223372036854775807) (b4 : -9223372036854775808 ≤ a4) (c4 : a4 ≤ 9223372036854775807) (b5 : -9223372036854775808 ≤ a5) (c5 : a5 ≤ 9223372036854775807) (w : World) :
    Calls Try.prog 14 #[.agg #[.int .i64 a0a, .int .i64 a0b], .agg #[.int .i64 a1a, .int .i64 a1b], .agg #[.int .i64 a2a, .int .i64 a2b], .int .i64 a3, .int .i64 a4, .int .i64 a5] w fun e w' => e = .returned (.bool true) ∧ Below w.heap.size w w' := by
  obtain ⟨a, b, hb1, O1⟩ := of_is a0a a0b a3 b0a c0a b0b c0b b3 c3
  obtain ⟨c, d, hb2, O2⟩ := of_is a1a a1b a4 b1a c1a b1b c1b b4 c4
  obtain ⟨p, q, hb3, O3⟩ := of_is a2a a2b a5 b2a c2a b2b c2b b5 c5
  obtain ⟨X, E, Y, F, Z, G, D, D2, R, hs⟩ := ord_facts a b c d p q hb1 hb2 hb3
  have HS := Lib.hid hs
  have OF1 := Lib.hid O1
  have OF2 := Lib.hid O2
  have OF3 := Lib.hid O3
  clear hs hb1 hb2 hb3 O1 O2 O3 b0a c0a b0b c0b b1a c1a b1b c1b b2a c2a b2b c2b b3 c3 b4 c4 b5 c5
  go_enter Try.func14, Try.ntmps14
  go_wp2_with fail
  refine wp_region_calm (fun M w' => M.getD 9 false = false → w'.cell? { block := w.heap.size, off := 0 } = some (.int .i64 a0a) ∧ w'.cell? { block := w.heap.size, off := 1 } = some (.int .i64 a0b) ∧ w'.cell? { block := w.heap.size + 1, off := 0 } = some (.int .i64 a1a) ∧ w'.cell? { block := w.heap.size + 1, off := 1 } = some (.int .i64 a1b) ∧ w'.cell? { block := w.heap.size + 2, off := 0 } = some (.int .i64 a2a) ∧ w'.cell? { block := w.heap.size + 2, off := 1 } = some (.int .i64 a2b)) (fun i => i == 9) [0, 1, 2, 3, 4, 5, 6, 7, 8] 3 (by kernel_rfl) (by kernel_rfl) ?hst ?hS0 (fun w0 h0 => ?_)
  case hst => exact fun _ _ _ h r hm => ⟨r.cell (h hm).1, r.cell (h hm).2.1, r.cell (h hm).2.2.1, r.cell (h hm).2.2.2.1, r.cell (h hm).2.2.2.2.1, r.cell (h hm).2.2.2.2.2⟩
  case hS0 => exact fun _ => ⟨by go_simp, by go_simp, by go_simp, by go_simp, by go_simp, by go_simp⟩
  iterate 2
    refine wpCalm_go rfl (by kernel_rfl) (fun K hK => ?_)
    apply Exists.intro
    refine ⟨fun M w hM hS => ?_, hK _ ?_⟩
    · have hS := hS (hM 9 (by kernel_rfl))
      have c1 := hS.1
      have c2 := hS.2.1
      have c3 := hS.2.2.1
      have c4 := hS.2.2.2.1
      have c5 := hS.2.2.2.2.1
      have c6 := hS.2.2.2.2.2
      unfold calmAt
      go_simp
      exact ⟨rfl, Rel.refl _⟩
    clear hK K
  refine wpCalm_go rfl (by kernel_rfl) (fun K hK => ?_)
  apply Exists.intro
  refine ⟨fun M w hM hS => ?_, hK _ ?_⟩
  · unfold calmAt
    go_simp
    with_reducible refine (OF1.out _).mono ?_
    rintro e w1 ⟨rfl, hb⟩
    exact ⟨rfl, hb⟩
  clear hK K
  iterate 2
    refine wpCalm_go rfl (by kernel_rfl) (fun K hK => ?_)
    apply Exists.intro
    refine ⟨fun M w hM hS => ?_, hK _ ?_⟩
    · have hS := hS (hM 9 (by kernel_rfl))
      have c1 := hS.1
      have c2 := hS.2.1
      have c3 := hS.2.2.1
      have c4 := hS.2.2.2.1
      have c5 := hS.2.2.2.2.1
      have c6 := hS.2.2.2.2.2
      unfold calmAt
      go_simp
      exact ⟨rfl, Rel.refl _⟩
    clear hK K
  refine wpCalm_go rfl (by kernel_rfl) (fun K hK => ?_)
  apply Exists.intro
  refine ⟨fun M w hM hS => ?_, hK _ ?_⟩
  · unfold calmAt
    go_simp
    with_reducible refine (OF2.out _).mono ?_
    rintro e w1 ⟨rfl, hb⟩
    exact ⟨rfl, hb⟩
  clear hK K
  iterate 2
    refine wpCalm_go rfl (by kernel_rfl) (fun K hK => ?_)
    apply Exists.intro
    refine ⟨fun M w hM hS => ?_, hK _ ?_⟩
    · have hS := hS (hM 9 (by kernel_rfl))
      have c1 := hS.1
      have c2 := hS.2.1
      have c3 := hS.2.2.1
      have c4 := hS.2.2.2.1
      have c5 := hS.2.2.2.2.1
      have c6 := hS.2.2.2.2.2
      unfold calmAt
      go_simp
      exact ⟨rfl, Rel.refl _⟩
    clear hK K
  refine wpCalm_go rfl (by kernel_rfl) (fun K hK => ?_)
  apply Exists.intro
  refine ⟨fun M w hM hS => ?_, hK _ ?_⟩
  · unfold calmAt
    go_simp
    with_reducible refine (OF3.out _).mono ?_
    rintro e w1 ⟨rfl, hb⟩
    exact ⟨rfl, hb⟩
  clear hK K
  refine wpCalm_nil ?_
  have q := keep2 h0 (b := w.heap.size) (by first | (simp; done) | (simp; omega) | omega)
  have kc0_0_0 := q.1
  have kc0_0_1 := q.2.1
  have kf0_0_0 := q.2.2.1
  have kf0_0_1 := q.2.2.2.1
  have kl0_0 := q.2.2.2.2.1
  have kn0_0 := q.2.2.2.2.2.1
  have km0_0 := q.2.2.2.2.2.2
  clear q
  have q := keep2 h0 (b := w.heap.size + 1) (by first | (simp; done) | (simp; omega) | omega)
  have kc0_1_0 := q.1
  have kc0_1_1 := q.2.1
  have kf0_1_0 := q.2.2.1
  have kf0_1_1 := q.2.2.2.1
  have kl0_1 := q.2.2.2.2.1
  have kn0_1 := q.2.2.2.2.2.1
  have km0_1 := q.2.2.2.2.2.2
  clear q
  have q := keep2 h0 (b := w.heap.size + 2) (by first | (simp; done) | (simp; omega) | omega)
  have kc0_2_0 := q.1
  have kc0_2_1 := q.2.1
  have kf0_2_0 := q.2.2.1
  have kf0_2_1 := q.2.2.2.1
  have kl0_2 := q.2.2.2.2.1
  have kn0_2 := q.2.2.2.2.2.1
  have km0_2 := q.2.2.2.2.2.2
  clear q
  have kz0 := h0.size
  (try simp only [World.size_alloc, World.size_setCell, World.size_drew] at kz0)
  have H0 := Lib.hid h0
  clear h0
  refine wpAnyR_ready (rs := [9]) (by kernel_rfl) (by simp) (AllR.cons rfl (fun w1 h1 K' hK' => ?_) AllR.nil)
  have q := keep2 h1 (b := w.heap.size) (by first | (simp; done) | (simp; omega) | omega)
  have kc1_0_0 := q.1
  have kc1_0_1 := q.2.1
  have kf1_0_0 := q.2.2.1
  have kf1_0_1 := q.2.2.2.1
  have kl1_0 := q.2.2.2.2.1
  have kn1_0 := q.2.2.2.2.2.1
  have km1_0 := q.2.2.2.2.2.2
  clear q
  have q := keep2 h1 (b := w.heap.size + 1) (by first | (simp; done) | (simp; omega) | omega)
  have kc1_1_0 := q.1
  have kc1_1_1 := q.2.1
  have kf1_1_0 := q.2.2.1
  have kf1_1_1 := q.2.2.2.1
  have kl1_1 := q.2.2.2.2.1
  have kn1_1 := q.2.2.2.2.2.1
  have km1_1 := q.2.2.2.2.2.2
  clear q
  have q := keep2 h1 (b := w.heap.size + 2) (by first | (simp; done) | (simp; omega) | omega)
  have kc1_2_0 := q.1
  have kc1_2_1 := q.2.1
  have kf1_2_0 := q.2.2.1
  have kf1_2_1 := q.2.2.2.1
  have kl1_2 := q.2.2.2.2.1
  have kn1_2 := q.2.2.2.2.2.1
  have km1_2 := q.2.2.2.2.2.2
  clear q
  have kz1 := h1.size
  (try simp only [World.size_alloc, World.size_setCell, World.size_drew] at kz1)
  have H1 := Lib.hid h1
  clear h1
  have z1_0_0 : w1.cell? ⟨w.heap.size, 0, none⟩ = some (.int .i64 a0a) := by go_simp
  have z1_0_1 : w1.cell? ⟨w.heap.size, 1, none⟩ = some (.int .i64 a0b) := by go_simp
  have z1_1_0 : w1.cell? ⟨w.heap.size + 1, 0, none⟩ = some (.int .i64 a1a) := by go_simp
  have z1_1_1 : w1.cell? ⟨w.heap.size + 1, 1, none⟩ = some (.int .i64 a1b) := by go_simp
  have z1_2_0 : w1.cell? ⟨w.heap.size + 2, 0, none⟩ = some (.int .i64 a2a) := by go_simp
  have z1_2_1 : w1.cell? ⟨w.heap.size + 2, 1, none⟩ = some (.int .i64 a2b) := by go_simp
  clear kc1_0_0 kc1_0_1 kc1_1_0 kc1_1_1 kc1_2_0 kc1_2_1
  go_simp
  refine hK'.out _ _ (fun h => absurd (h.symm.trans (by kernel_rfl : _ = true)) (by simp)) ?_
  clear hK' K'
  refine wpAnyR_ready (rs := [10]) (by kernel_rfl) (by simp) (AllR.cons rfl (fun w2 h2 K' hK' => ?_) AllR.nil)
  have q := keep2 h2 (b := w.heap.size) (by first | (simp; done) | (simp; omega) | omega)
  have kc2_0_0 := q.1
  have kc2_0_1 := q.2.1
  have kf2_0_0 := q.2.2.1
  have kf2_0_1 := q.2.2.2.1
  have kl2_0 := q.2.2.2.2.1
  have kn2_0 := q.2.2.2.2.2.1
  have km2_0 := q.2.2.2.2.2.2
  clear q
  have q := keep2 h2 (b := w.heap.size + 1) (by first | (simp; done) | (simp; omega) | omega)
  have kc2_1_0 := q.1
  have kc2_1_1 := q.2.1
  have kf2_1_0 := q.2.2.1
  have kf2_1_1 := q.2.2.2.1
  have kl2_1 := q.2.2.2.2.1
  have kn2_1 := q.2.2.2.2.2.1
  have km2_1 := q.2.2.2.2.2.2
  clear q
  have q := keep2 h2 (b := w.heap.size + 2) (by first | (simp; done) | (simp; omega) | omega)
  have kc2_2_0 := q.1
  have kc2_2_1 := q.2.1
  have kf2_2_0 := q.2.2.1
  have kf2_2_1 := q.2.2.2.1
  have kl2_2 := q.2.2.2.2.1
  have kn2_2 := q.2.2.2.2.2.1
  have km2_2 := q.2.2.2.2.2.2
  clear q
  have kz2 := h2.size
  (try simp only [World.size_alloc, World.size_setCell, World.size_drew] at kz2)
  have H2 := Lib.hid h2
  clear h2
  have z2_0_0 : w2.cell? ⟨w.heap.size, 0, none⟩ = some (.int .i64 a) := by go_simp
  have z2_0_1 : w2.cell? ⟨w.heap.size, 1, none⟩ = some (.int .i64 b) := by go_simp
  have z2_1_0 : w2.cell? ⟨w.heap.size + 1, 0, none⟩ = some (.int .i64 a1a) := by go_simp
  have z2_1_1 : w2.cell? ⟨w.heap.size + 1, 1, none⟩ = some (.int .i64 a1b) := by go_simp
  have z2_2_0 : w2.cell? ⟨w.heap.size + 2, 0, none⟩ = some (.int .i64 a2a) := by go_simp
  have z2_2_1 : w2.cell? ⟨w.heap.size + 2, 1, none⟩ = some (.int .i64 a2b) := by go_simp
  clear kc2_0_0 kc2_0_1 kc2_1_0 kc2_1_1 kc2_2_0 kc2_2_1
  go_simp
  refine hK'.out _ _ (fun h => absurd (h.symm.trans (by kernel_rfl : _ = true)) (by simp)) ?_
  clear hK' K'
  refine wpAnyR_ready (rs := [11]) (by kernel_rfl) (by simp) (AllR.cons rfl (fun w3 h3 K' hK' => ?_) AllR.nil)
  have q := keep2 h3 (b := w.heap.size) (by first | (simp; done) | (simp; omega) | omega)
  have kc3_0_0 := q.1
  have kc3_0_1 := q.2.1
  have kf3_0_0 := q.2.2.1
  have kf3_0_1 := q.2.2.2.1
  have kl3_0 := q.2.2.2.2.1
  have kn3_0 := q.2.2.2.2.2.1
  have km3_0 := q.2.2.2.2.2.2
  clear q
  have q := keep2 h3 (b := w.heap.size + 1) (by first | (simp; done) | (simp; omega) | omega)
  have kc3_1_0 := q.1
  have kc3_1_1 := q.2.1
  have kf3_1_0 := q.2.2.1
  have kf3_1_1 := q.2.2.2.1
  have kl3_1 := q.2.2.2.2.1
  have kn3_1 := q.2.2.2.2.2.1
  have km3_1 := q.2.2.2.2.2.2
  clear q
  have q := keep2 h3 (b := w.heap.size + 2) (by first | (simp; done) | (simp; omega) | omega)
  have kc3_2_0 := q.1
  have kc3_2_1 := q.2.1
  have kf3_2_0 := q.2.2.1
  have kf3_2_1 := q.2.2.2.1
  have kl3_2 := q.2.2.2.2.1
  have kn3_2 := q.2.2.2.2.2.1
  have km3_2 := q.2.2.2.2.2.2
  clear q
  have kz3 := h3.size
  (try simp only [World.size_alloc, World.size_setCell, World.size_drew] at kz3)
  have H3 := Lib.hid h3
  clear h3
  have z3_0_0 : w3.cell? ⟨w.heap.size, 0, none⟩ = some (.int .i64 a) := by go_simp
  have z3_0_1 : w3.cell? ⟨w.heap.size, 1, none⟩ = some (.int .i64 b) := by go_simp
  have z3_1_0 : w3.cell? ⟨w.heap.size + 1, 0, none⟩ = some (.int .i64 c) := by go_simp
  have z3_1_1 : w3.cell? ⟨w.heap.size + 1, 1, none⟩ = some (.int .i64 d) := by go_simp
  have z3_2_0 : w3.cell? ⟨w.heap.size + 2, 0, none⟩ = some (.int .i64 a2a) := by go_simp
  have z3_2_1 : w3.cell? ⟨w.heap.size + 2, 1, none⟩ = some (.int .i64 a2b) := by go_simp
  clear kc3_0_0 kc3_0_1 kc3_1_0 kc3_1_1 kc3_2_0 kc3_2_1
  go_simp
  refine hK'.out _ _ (fun h => absurd (h.symm.trans (by kernel_rfl : _ = true)) (by simp)) ?_
  clear hK' K'
  refine wpAnyR_end (by kernel_rfl) (fun w4 h4 => ?_)
  (try simp only [Act.put, List.setIfInBounds_toArray, List.set_cons_zero, List.set_cons_succ])
  have q := keep2 h4 (b := w.heap.size) (by first | (simp; done) | (simp; omega) | omega)
  have kc4_0_0 := q.1
  have kc4_0_1 := q.2.1
  have kf4_0_0 := q.2.2.1
  have kf4_0_1 := q.2.2.2.1
  have kl4_0 := q.2.2.2.2.1
  have kn4_0 := q.2.2.2.2.2.1
  have km4_0 := q.2.2.2.2.2.2
  clear q
  have q := keep2 h4 (b := w.heap.size + 1) (by first | (simp; done) | (simp; omega) | omega)
  have kc4_1_0 := q.1
  have kc4_1_1 := q.2.1
  have kf4_1_0 := q.2.2.1
  have kf4_1_1 := q.2.2.2.1
  have kl4_1 := q.2.2.2.2.1
  have kn4_1 := q.2.2.2.2.2.1
  have km4_1 := q.2.2.2.2.2.2
  clear q
  have q := keep2 h4 (b := w.heap.size + 2) (by first | (simp; done) | (simp; omega) | omega)
  have kc4_2_0 := q.1
  have kc4_2_1 := q.2.1
  have kf4_2_0 := q.2.2.1
  have kf4_2_1 := q.2.2.2.1
  have kl4_2 := q.2.2.2.2.1
  have kn4_2 := q.2.2.2.2.2.1
  have km4_2 := q.2.2.2.2.2.2
  clear q
  have kz4 := h4.size
  (try simp only [World.size_alloc, World.size_setCell, World.size_drew] at kz4)
  have H4 := Lib.hid h4
  clear h4
  have z4_0_0 : w4.cell? ⟨w.heap.size, 0, none⟩ = some (.int .i64 a) := by go_simp
  have z4_0_1 : w4.cell? ⟨w.heap.size, 1, none⟩ = some (.int .i64 b) := by go_simp
  have z4_1_0 : w4.cell? ⟨w.heap.size + 1, 0, none⟩ = some (.int .i64 c) := by go_simp
  have z4_1_1 : w4.cell? ⟨w.heap.size + 1, 1, none⟩ = some (.int .i64 d) := by go_simp
  have z4_2_0 : w4.cell? ⟨w.heap.size + 2, 0, none⟩ = some (.int .i64 p) := by go_simp
  have z4_2_1 : w4.cell? ⟨w.heap.size + 2, 1, none⟩ = some (.int .i64 q) := by go_simp
  clear kc4_0_0 kc4_0_1 kc4_1_0 kc4_1_1 kc4_2_0 kc4_2_1
  go_wp2_with fail
  with_reducible refine (HS.out.N1 _).mono ?_
  rintro e w5 ⟨rfl, h5⟩
  have q := keep2 h5 (b := w.heap.size) (by first | (simp; done) | (simp; omega) | omega)
  have kc5_0_0 := q.1
  have kc5_0_1 := q.2.1
  have kf5_0_0 := q.2.2.1
  have kf5_0_1 := q.2.2.2.1
  have kl5_0 := q.2.2.2.2.1
  have kn5_0 := q.2.2.2.2.2.1
  have km5_0 := q.2.2.2.2.2.2
  clear q
  have q := keep2 h5 (b := w.heap.size + 1) (by first | (simp; done) | (simp; omega) | omega)
  have kc5_1_0 := q.1
  have kc5_1_1 := q.2.1
  have kf5_1_0 := q.2.2.1
  have kf5_1_1 := q.2.2.2.1
  have kl5_1 := q.2.2.2.2.1
  have kn5_1 := q.2.2.2.2.2.1
  have km5_1 := q.2.2.2.2.2.2
  clear q
  have q := keep2 h5 (b := w.heap.size + 2) (by first | (simp; done) | (simp; omega) | omega)
  have kc5_2_0 := q.1
  have kc5_2_1 := q.2.1
  have kf5_2_0 := q.2.2.1
  have kf5_2_1 := q.2.2.2.1
  have kl5_2 := q.2.2.2.2.1
  have kn5_2 := q.2.2.2.2.2.1
  have km5_2 := q.2.2.2.2.2.2
  clear q
  have kz5 := h5.size
  (try simp only [World.size_alloc, World.size_setCell, World.size_drew] at kz5)
  have H5 := Lib.hid h5
  clear h5
  go_wp2_with fail
  with_reducible refine (HS.out.N2 _).mono ?_
  rintro e w6 ⟨rfl, h6⟩
  have q := keep2 h6 (b := w.heap.size) (by first | (simp; done) | (simp; omega) | omega)
  have kc6_0_0 := q.1
  have kc6_0_1 := q.2.1
  have kf6_0_0 := q.2.2.1
  have kf6_0_1 := q.2.2.2.1
  have kl6_0 := q.2.2.2.2.1
  have kn6_0 := q.2.2.2.2.2.1
  have km6_0 := q.2.2.2.2.2.2
  clear q
  have q := keep2 h6 (b := w.heap.size + 1) (by first | (simp; done) | (simp; omega) | omega)
  have kc6_1_0 := q.1
  have kc6_1_1 := q.2.1
  have kf6_1_0 := q.2.2.1
  have kf6_1_1 := q.2.2.2.1
  have kl6_1 := q.2.2.2.2.1
  have kn6_1 := q.2.2.2.2.2.1
  have km6_1 := q.2.2.2.2.2.2
  clear q
  have q := keep2 h6 (b := w.heap.size + 2) (by first | (simp; done) | (simp; omega) | omega)
  have kc6_2_0 := q.1
  have kc6_2_1 := q.2.1
  have kf6_2_0 := q.2.2.1
  have kf6_2_1 := q.2.2.2.1
  have kl6_2 := q.2.2.2.2.1
  have kn6_2 := q.2.2.2.2.2.1
  have km6_2 := q.2.2.2.2.2.2
  clear q
  have kz6 := h6.size
  (try simp only [World.size_alloc, World.size_setCell, World.size_drew] at kz6)
  have H6 := Lib.hid h6
  clear h6
  go_wp2_with fail
  with_reducible refine (HS.out.N3 _).mono ?_
  rintro e w7 ⟨rfl, h7⟩
  have q := keep2 h7 (b := w.heap.size) (by first | (simp; done) | (simp; omega) | omega)
  have kc7_0_0 := q.1
  have kc7_0_1 := q.2.1
  have kf7_0_0 := q.2.2.1
  have kf7_0_1 := q.2.2.2.1
  have kl7_0 := q.2.2.2.2.1
  have kn7_0 := q.2.2.2.2.2.1
  have km7_0 := q.2.2.2.2.2.2
  clear q
  have q := keep2 h7 (b := w.heap.size + 1) (by first | (simp; done) | (simp; omega) | omega)
  have kc7_1_0 := q.1
  have kc7_1_1 := q.2.1
  have kf7_1_0 := q.2.2.1
  have kf7_1_1 := q.2.2.2.1
  have kl7_1 := q.2.2.2.2.1
  have kn7_1 := q.2.2.2.2.2.1
  have km7_1 := q.2.2.2.2.2.2
  clear q
  have q := keep2 h7 (b := w.heap.size + 2) (by first | (simp; done) | (simp; omega) | omega)
  have kc7_2_0 := q.1
  have kc7_2_1 := q.2.1
  have kf7_2_0 := q.2.2.1
  have kf7_2_1 := q.2.2.2.1
  have kl7_2 := q.2.2.2.2.1
  have kn7_2 := q.2.2.2.2.2.1
  have km7_2 := q.2.2.2.2.2.2
  clear q
  have kz7 := h7.size
  (try simp only [World.size_alloc, World.size_setCell, World.size_drew] at kz7)
  have H7 := Lib.hid h7
  clear h7
  go_wp2_with fail
  with_reducible refine (awake_any _).mono ?_
  rintro e w8 ⟨rfl, h8⟩
  have q := keep2 h8 (b := w.heap.size) (by first | (simp; done) | (simp; omega) | omega)
  have kc8_0_0 := q.1
  have kc8_0_1 := q.2.1
  have kf8_0_0 := q.2.2.1
  have kf8_0_1 := q.2.2.2.1
  have kl8_0 := q.2.2.2.2.1
  have kn8_0 := q.2.2.2.2.2.1
  have km8_0 := q.2.2.2.2.2.2
  clear q
  have q := keep2 h8 (b := w.heap.size + 1) (by first | (simp; done) | (simp; omega) | omega)
  have kc8_1_0 := q.1
  have kc8_1_1 := q.2.1
  have kf8_1_0 := q.2.2.1
  have kf8_1_1 := q.2.2.2.1
  have kl8_1 := q.2.2.2.2.1
  have kn8_1 := q.2.2.2.2.2.1
  have km8_1 := q.2.2.2.2.2.2
  clear q
  have q := keep2 h8 (b := w.heap.size + 2) (by first | (simp; done) | (simp; omega) | omega)
  have kc8_2_0 := q.1
  have kc8_2_1 := q.2.1
  have kf8_2_0 := q.2.2.1
  have kf8_2_1 := q.2.2.2.1
  have kl8_2 := q.2.2.2.2.1
  have kn8_2 := q.2.2.2.2.2.1
  have km8_2 := q.2.2.2.2.2.2
  clear q
  have kz8 := h8.size
  (try simp only [World.size_alloc, World.size_setCell, World.size_drew] at kz8)
  have H8 := Lib.hid h8
  clear h8
  have HE := Lib.hid HS.out.hE
  rcases HE.out with ⟨y0, y1⟩ | ⟨y0, y1, hF, hS⟩
  · clear HE
    go_wp2_with fail
    with_reducible refine (HS.out.N4 _).mono ?_
    rintro e w9 ⟨rfl, h9⟩
    have kz9 := h9.size
    (try simp only [World.size_alloc, World.size_setCell, World.size_drew] at kz9)
    have H9 := Lib.hid h9
    clear h9
    go_wp2
    go_ret
    exact ⟨rfl, by (show Rel _ _; repeat (first | with_reducible exact Rel.refl _ | with_reducible refine Rel.alloc ?_ _ | with_reducible refine Rel.setCell ?_ (by first | (simp; done) | (simp; omega)) _ | with_reducible refine Rel.drew ?_ | with_reducible refine Rel.trans ?_ H9.out | with_reducible refine Rel.trans ?_ H8.out | with_reducible refine Rel.trans ?_ H7.out | with_reducible refine Rel.trans ?_ H6.out | with_reducible refine Rel.trans ?_ H5.out | with_reducible refine Rel.trans ?_ H4.out | with_reducible refine Rel.trans ?_ H3.out | with_reducible refine Rel.trans ?_ H2.out | with_reducible refine Rel.trans ?_ H1.out | with_reducible refine Rel.trans ?_ H0.out))⟩
  · have HSS := Lib.hid hS
    clear HE hS
    rcases hF with f0 | ⟨f0, f1, f2 | ⟨f2, f3⟩ | ⟨f2, f3, f4⟩ | ⟨f2, f3, f4⟩⟩
    · skip
      go_wp2_with fail
      with_reducible refine (HS.out.N4 _).mono ?_
      rintro e w9 ⟨rfl, h9⟩
      have kz9 := h9.size
      (try simp only [World.size_alloc, World.size_setCell, World.size_drew] at kz9)
      have H9 := Lib.hid h9
      clear h9
      rcases HSS.out with r0 | ⟨r0, ⟨x0, x1, x2, x3⟩ | ⟨x0, x1⟩ | ⟨x0, x1, x2, x3⟩⟩
      · go_wp2
        go_ret
        exact ⟨rfl, by (show Rel _ _; repeat (first | with_reducible exact Rel.refl _ | with_reducible refine Rel.alloc ?_ _ | with_reducible refine Rel.setCell ?_ (by first | (simp; done) | (simp; omega)) _ | with_reducible refine Rel.drew ?_ | with_reducible refine Rel.trans ?_ H9.out | with_reducible refine Rel.trans ?_ H8.out | with_reducible refine Rel.trans ?_ H7.out | with_reducible refine Rel.trans ?_ H6.out | with_reducible refine Rel.trans ?_ H5.out | with_reducible refine Rel.trans ?_ H4.out | with_reducible refine Rel.trans ?_ H3.out | with_reducible refine Rel.trans ?_ H2.out | with_reducible refine Rel.trans ?_ H1.out | with_reducible refine Rel.trans ?_ H0.out))⟩
      · first
          | (exfalso; omega)
          | (subst x0
             go_wp2
             go_ret
             exact ⟨rfl, by (show Rel _ _; repeat (first | with_reducible exact Rel.refl _ | with_reducible refine Rel.alloc ?_ _ | with_reducible refine Rel.setCell ?_ (by first | (simp; done) | (simp; omega)) _ | with_reducible refine Rel.drew ?_ | with_reducible refine Rel.trans ?_ H9.out | with_reducible refine Rel.trans ?_ H8.out | with_reducible refine Rel.trans ?_ H7.out | with_reducible refine Rel.trans ?_ H6.out | with_reducible refine Rel.trans ?_ H5.out | with_reducible refine Rel.trans ?_ H4.out | with_reducible refine Rel.trans ?_ H3.out | with_reducible refine Rel.trans ?_ H2.out | with_reducible refine Rel.trans ?_ H1.out | with_reducible refine Rel.trans ?_ H0.out))⟩)
      · first
          | (exfalso; omega)
          | (subst x0
             subst x1
             go_wp2
             go_ret
             exact ⟨rfl, by (show Rel _ _; repeat (first | with_reducible exact Rel.refl _ | with_reducible refine Rel.alloc ?_ _ | with_reducible refine Rel.setCell ?_ (by first | (simp; done) | (simp; omega)) _ | with_reducible refine Rel.drew ?_ | with_reducible refine Rel.trans ?_ H9.out | with_reducible refine Rel.trans ?_ H8.out | with_reducible refine Rel.trans ?_ H7.out | with_reducible refine Rel.trans ?_ H6.out | with_reducible refine Rel.trans ?_ H5.out | with_reducible refine Rel.trans ?_ H4.out | with_reducible refine Rel.trans ?_ H3.out | with_reducible refine Rel.trans ?_ H2.out | with_reducible refine Rel.trans ?_ H1.out | with_reducible refine Rel.trans ?_ H0.out))⟩)
      · first
          | (exfalso; omega)
          | (subst x0
             go_wp2
             go_ret
             exact ⟨rfl, by (show Rel _ _; repeat (first | with_reducible exact Rel.refl _ | with_reducible refine Rel.alloc ?_ _ | with_reducible refine Rel.setCell ?_ (by first | (simp; done) | (simp; omega)) _ | with_reducible refine Rel.drew ?_ | with_reducible refine Rel.trans ?_ H9.out | with_reducible refine Rel.trans ?_ H8.out | with_reducible refine Rel.trans ?_ H7.out | with_reducible refine Rel.trans ?_ H6.out | with_reducible refine Rel.trans ?_ H5.out | with_reducible refine Rel.trans ?_ H4.out | with_reducible refine Rel.trans ?_ H3.out | with_reducible refine Rel.trans ?_ H2.out | with_reducible refine Rel.trans ?_ H1.out | with_reducible refine Rel.trans ?_ H0.out))⟩)
    · subst f2
      go_wp2_with fail
      with_reducible refine (HS.out.N4 _).mono ?_
      rintro e w9 ⟨rfl, h9⟩
      have kz9 := h9.size
      (try simp only [World.size_alloc, World.size_setCell, World.size_drew] at kz9)
      have H9 := Lib.hid h9
      clear h9
      rcases HSS.out with r0 | ⟨r0, ⟨x0, x1, x2, x3⟩ | ⟨x0, x1⟩ | ⟨x0, x1, x2, x3⟩⟩
      · go_wp2
        go_ret
        exact ⟨rfl, by (show Rel _ _; repeat (first | with_reducible exact Rel.refl _ | with_reducible refine Rel.alloc ?_ _ | with_reducible refine Rel.setCell ?_ (by first | (simp; done) | (simp; omega)) _ | with_reducible refine Rel.drew ?_ | with_reducible refine Rel.trans ?_ H9.out | with_reducible refine Rel.trans ?_ H8.out | with_reducible refine Rel.trans ?_ H7.out | with_reducible refine Rel.trans ?_ H6.out | with_reducible refine Rel.trans ?_ H5.out | with_reducible refine Rel.trans ?_ H4.out | with_reducible refine Rel.trans ?_ H3.out | with_reducible refine Rel.trans ?_ H2.out | with_reducible refine Rel.trans ?_ H1.out | with_reducible refine Rel.trans ?_ H0.out))⟩
      · first
          | (exfalso; omega)
          | (go_wp2
             go_ret
             exact ⟨rfl, by (show Rel _ _; repeat (first | with_reducible exact Rel.refl _ | with_reducible refine Rel.alloc ?_ _ | with_reducible refine Rel.setCell ?_ (by first | (simp; done) | (simp; omega)) _ | with_reducible refine Rel.drew ?_ | with_reducible refine Rel.trans ?_ H9.out | with_reducible refine Rel.trans ?_ H8.out | with_reducible refine Rel.trans ?_ H7.out | with_reducible refine Rel.trans ?_ H6.out | with_reducible refine Rel.trans ?_ H5.out | with_reducible refine Rel.trans ?_ H4.out | with_reducible refine Rel.trans ?_ H3.out | with_reducible refine Rel.trans ?_ H2.out | with_reducible refine Rel.trans ?_ H1.out | with_reducible refine Rel.trans ?_ H0.out))⟩)
      · first
          | (exfalso; omega)
          | (subst x1
             go_wp2
             go_ret
             exact ⟨rfl, by (show Rel _ _; repeat (first | with_reducible exact Rel.refl _ | with_reducible refine Rel.alloc ?_ _ | with_reducible refine Rel.setCell ?_ (by first | (simp; done) | (simp; omega)) _ | with_reducible refine Rel.drew ?_ | with_reducible refine Rel.trans ?_ H9.out | with_reducible refine Rel.trans ?_ H8.out | with_reducible refine Rel.trans ?_ H7.out | with_reducible refine Rel.trans ?_ H6.out | with_reducible refine Rel.trans ?_ H5.out | with_reducible refine Rel.trans ?_ H4.out | with_reducible refine Rel.trans ?_ H3.out | with_reducible refine Rel.trans ?_ H2.out | with_reducible refine Rel.trans ?_ H1.out | with_reducible refine Rel.trans ?_ H0.out))⟩)
      · first
          | (exfalso; omega)
          | (go_wp2
             go_ret
             exact ⟨rfl, by (show Rel _ _; repeat (first | with_reducible exact Rel.refl _ | with_reducible refine Rel.alloc ?_ _ | with_reducible refine Rel.setCell ?_ (by first | (simp; done) | (simp; omega)) _ | with_reducible refine Rel.drew ?_ | with_reducible refine Rel.trans ?_ H9.out | with_reducible refine Rel.trans ?_ H8.out | with_reducible refine Rel.trans ?_ H7.out | with_reducible refine Rel.trans ?_ H6.out | with_reducible refine Rel.trans ?_ H5.out | with_reducible refine Rel.trans ?_ H4.out | with_reducible refine Rel.trans ?_ H3.out | with_reducible refine Rel.trans ?_ H2.out | with_reducible refine Rel.trans ?_ H1.out | with_reducible refine Rel.trans ?_ H0.out))⟩)
    · subst f3
      go_wp2_with fail
      with_reducible refine (HS.out.N4 _).mono ?_
      rintro e w9 ⟨rfl, h9⟩
      have kz9 := h9.size
      (try simp only [World.size_alloc, World.size_setCell, World.size_drew] at kz9)
      have H9 := Lib.hid h9
      clear h9
      rcases HSS.out with r0 | ⟨r0, ⟨x0, x1, x2, x3⟩ | ⟨x0, x1⟩ | ⟨x0, x1, x2, x3⟩⟩
      · go_wp2
        go_ret
        exact ⟨rfl, by (show Rel _ _; repeat (first | with_reducible exact Rel.refl _ | with_reducible refine Rel.alloc ?_ _ | with_reducible refine Rel.setCell ?_ (by first | (simp; done) | (simp; omega)) _ | with_reducible refine Rel.drew ?_ | with_reducible refine Rel.trans ?_ H9.out | with_reducible refine Rel.trans ?_ H8.out | with_reducible refine Rel.trans ?_ H7.out | with_reducible refine Rel.trans ?_ H6.out | with_reducible refine Rel.trans ?_ H5.out | with_reducible refine Rel.trans ?_ H4.out | with_reducible refine Rel.trans ?_ H3.out | with_reducible refine Rel.trans ?_ H2.out | with_reducible refine Rel.trans ?_ H1.out | with_reducible refine Rel.trans ?_ H0.out))⟩
      · first
          | (exfalso; omega)
          | (subst x0
             go_wp2
             go_ret
             exact ⟨rfl, by (show Rel _ _; repeat (first | with_reducible exact Rel.refl _ | with_reducible refine Rel.alloc ?_ _ | with_reducible refine Rel.setCell ?_ (by first | (simp; done) | (simp; omega)) _ | with_reducible refine Rel.drew ?_ | with_reducible refine Rel.trans ?_ H9.out | with_reducible refine Rel.trans ?_ H8.out | with_reducible refine Rel.trans ?_ H7.out | with_reducible refine Rel.trans ?_ H6.out | with_reducible refine Rel.trans ?_ H5.out | with_reducible refine Rel.trans ?_ H4.out | with_reducible refine Rel.trans ?_ H3.out | with_reducible refine Rel.trans ?_ H2.out | with_reducible refine Rel.trans ?_ H1.out | with_reducible refine Rel.trans ?_ H0.out))⟩)
      · first
          | (exfalso; omega)
          | (subst x0
             subst x1
             go_wp2
             go_ret
             exact ⟨rfl, by (show Rel _ _; repeat (first | with_reducible exact Rel.refl _ | with_reducible refine Rel.alloc ?_ _ | with_reducible refine Rel.setCell ?_ (by first | (simp; done) | (simp; omega)) _ | with_reducible refine Rel.drew ?_ | with_reducible refine Rel.trans ?_ H9.out | with_reducible refine Rel.trans ?_ H8.out | with_reducible refine Rel.trans ?_ H7.out | with_reducible refine Rel.trans ?_ H6.out | with_reducible refine Rel.trans ?_ H5.out | with_reducible refine Rel.trans ?_ H4.out | with_reducible refine Rel.trans ?_ H3.out | with_reducible refine Rel.trans ?_ H2.out | with_reducible refine Rel.trans ?_ H1.out | with_reducible refine Rel.trans ?_ H0.out))⟩)
      · first
          | (exfalso; omega)
          | (subst x0
             go_wp2
             go_ret
             exact ⟨rfl, by (show Rel _ _; repeat (first | with_reducible exact Rel.refl _ | with_reducible refine Rel.alloc ?_ _ | with_reducible refine Rel.setCell ?_ (by first | (simp; done) | (simp; omega)) _ | with_reducible refine Rel.drew ?_ | with_reducible refine Rel.trans ?_ H9.out | with_reducible refine Rel.trans ?_ H8.out | with_reducible refine Rel.trans ?_ H7.out | with_reducible refine Rel.trans ?_ H6.out | with_reducible refine Rel.trans ?_ H5.out | with_reducible refine Rel.trans ?_ H4.out | with_reducible refine Rel.trans ?_ H3.out | with_reducible refine Rel.trans ?_ H2.out | with_reducible refine Rel.trans ?_ H1.out | with_reducible refine Rel.trans ?_ H0.out))⟩)
    · subst f4
      go_wp2_with fail
      with_reducible refine (HS.out.N4 _).mono ?_
      rintro e w9 ⟨rfl, h9⟩
      have kz9 := h9.size
      (try simp only [World.size_alloc, World.size_setCell, World.size_drew] at kz9)
      have H9 := Lib.hid h9
      clear h9
      rcases HSS.out with r0 | ⟨r0, ⟨x0, x1, x2, x3⟩ | ⟨x0, x1⟩ | ⟨x0, x1, x2, x3⟩⟩
      · go_wp2
        go_ret
        exact ⟨rfl, by (show Rel _ _; repeat (first | with_reducible exact Rel.refl _ | with_reducible refine Rel.alloc ?_ _ | with_reducible refine Rel.setCell ?_ (by first | (simp; done) | (simp; omega)) _ | with_reducible refine Rel.drew ?_ | with_reducible refine Rel.trans ?_ H9.out | with_reducible refine Rel.trans ?_ H8.out | with_reducible refine Rel.trans ?_ H7.out | with_reducible refine Rel.trans ?_ H6.out | with_reducible refine Rel.trans ?_ H5.out | with_reducible refine Rel.trans ?_ H4.out | with_reducible refine Rel.trans ?_ H3.out | with_reducible refine Rel.trans ?_ H2.out | with_reducible refine Rel.trans ?_ H1.out | with_reducible refine Rel.trans ?_ H0.out))⟩
      · first
          | (exfalso; omega)
          | (subst x0
             go_wp2
             go_ret
             exact ⟨rfl, by (show Rel _ _; repeat (first | with_reducible exact Rel.refl _ | with_reducible refine Rel.alloc ?_ _ | with_reducible refine Rel.setCell ?_ (by first | (simp; done) | (simp; omega)) _ | with_reducible refine Rel.drew ?_ | with_reducible refine Rel.trans ?_ H9.out | with_reducible refine Rel.trans ?_ H8.out | with_reducible refine Rel.trans ?_ H7.out | with_reducible refine Rel.trans ?_ H6.out | with_reducible refine Rel.trans ?_ H5.out | with_reducible refine Rel.trans ?_ H4.out | with_reducible refine Rel.trans ?_ H3.out | with_reducible refine Rel.trans ?_ H2.out | with_reducible refine Rel.trans ?_ H1.out | with_reducible refine Rel.trans ?_ H0.out))⟩)
      · first
          | (exfalso; omega)
          | (subst x0
             subst x1
             go_wp2
             go_ret
             exact ⟨rfl, by (show Rel _ _; repeat (first | with_reducible exact Rel.refl _ | with_reducible refine Rel.alloc ?_ _ | with_reducible refine Rel.setCell ?_ (by first | (simp; done) | (simp; omega)) _ | with_reducible refine Rel.drew ?_ | with_reducible refine Rel.trans ?_ H9.out | with_reducible refine Rel.trans ?_ H8.out | with_reducible refine Rel.trans ?_ H7.out | with_reducible refine Rel.trans ?_ H6.out | with_reducible refine Rel.trans ?_ H5.out | with_reducible refine Rel.trans ?_ H4.out | with_reducible refine Rel.trans ?_ H3.out | with_reducible refine Rel.trans ?_ H2.out | with_reducible refine Rel.trans ?_ H1.out | with_reducible refine Rel.trans ?_ H0.out))⟩)
      · first
          | (exfalso; omega)
          | (subst x0
             go_wp2
             go_ret
             exact ⟨rfl, by (show Rel _ _; repeat (first | with_reducible exact Rel.refl _ | with_reducible refine Rel.alloc ?_ _ | with_reducible refine Rel.setCell ?_ (by first | (simp; done) | (simp; omega)) _ | with_reducible refine Rel.drew ?_ | with_reducible refine Rel.trans ?_ H9.out | with_reducible refine Rel.trans ?_ H8.out | with_reducible refine Rel.trans ?_ H7.out | with_reducible refine Rel.trans ?_ H6.out | with_reducible refine Rel.trans ?_ H5.out | with_reducible refine Rel.trans ?_ H4.out | with_reducible refine Rel.trans ?_ H3.out | with_reducible refine Rel.trans ?_ H2.out | with_reducible refine Rel.trans ?_ H1.out | with_reducible refine Rel.trans ?_ H0.out))⟩)
    · subst f2
      subst f3
      subst f4
      go_wp2_with fail
      with_reducible refine (HS.out.N4 _).mono ?_
      rintro e w9 ⟨rfl, h9⟩
      have kz9 := h9.size
      (try simp only [World.size_alloc, World.size_setCell, World.size_drew] at kz9)
      have H9 := Lib.hid h9
      clear h9
      rcases HSS.out with r0 | ⟨r0, ⟨x0, x1, x2, x3⟩ | ⟨x0, x1⟩ | ⟨x0, x1, x2, x3⟩⟩
      · go_wp2
        go_ret
        exact ⟨rfl, by (show Rel _ _; repeat (first | with_reducible exact Rel.refl _ | with_reducible refine Rel.alloc ?_ _ | with_reducible refine Rel.setCell ?_ (by first | (simp; done) | (simp; omega)) _ | with_reducible refine Rel.drew ?_ | with_reducible refine Rel.trans ?_ H9.out | with_reducible refine Rel.trans ?_ H8.out | with_reducible refine Rel.trans ?_ H7.out | with_reducible refine Rel.trans ?_ H6.out | with_reducible refine Rel.trans ?_ H5.out | with_reducible refine Rel.trans ?_ H4.out | with_reducible refine Rel.trans ?_ H3.out | with_reducible refine Rel.trans ?_ H2.out | with_reducible refine Rel.trans ?_ H1.out | with_reducible refine Rel.trans ?_ H0.out))⟩
      · first
          | (exfalso; omega)
          | (go_wp2
             go_ret
             exact ⟨rfl, by (show Rel _ _; repeat (first | with_reducible exact Rel.refl _ | with_reducible refine Rel.alloc ?_ _ | with_reducible refine Rel.setCell ?_ (by first | (simp; done) | (simp; omega)) _ | with_reducible refine Rel.drew ?_ | with_reducible refine Rel.trans ?_ H9.out | with_reducible refine Rel.trans ?_ H8.out | with_reducible refine Rel.trans ?_ H7.out | with_reducible refine Rel.trans ?_ H6.out | with_reducible refine Rel.trans ?_ H5.out | with_reducible refine Rel.trans ?_ H4.out | with_reducible refine Rel.trans ?_ H3.out | with_reducible refine Rel.trans ?_ H2.out | with_reducible refine Rel.trans ?_ H1.out | with_reducible refine Rel.trans ?_ H0.out))⟩)
      · first
          | (exfalso; omega)
          | (subst x1
             go_wp2
             go_ret
             exact ⟨rfl, by (show Rel _ _; repeat (first | with_reducible exact Rel.refl _ | with_reducible refine Rel.alloc ?_ _ | with_reducible refine Rel.setCell ?_ (by first | (simp; done) | (simp; omega)) _ | with_reducible refine Rel.drew ?_ | with_reducible refine Rel.trans ?_ H9.out | with_reducible refine Rel.trans ?_ H8.out | with_reducible refine Rel.trans ?_ H7.out | with_reducible refine Rel.trans ?_ H6.out | with_reducible refine Rel.trans ?_ H5.out | with_reducible refine Rel.trans ?_ H4.out | with_reducible refine Rel.trans ?_ H3.out | with_reducible refine Rel.trans ?_ H2.out | with_reducible refine Rel.trans ?_ H1.out | with_reducible refine Rel.trans ?_ H0.out))⟩)
      · first
          | (exfalso; omega)
          | (go_wp2
             go_ret
             exact ⟨rfl, by (show Rel _ _; repeat (first | with_reducible exact Rel.refl _ | with_reducible refine Rel.alloc ?_ _ | with_reducible refine Rel.setCell ?_ (by first | (simp; done) | (simp; omega)) _ | with_reducible refine Rel.drew ?_ | with_reducible refine Rel.trans ?_ H9.out | with_reducible refine Rel.trans ?_ H8.out | with_reducible refine Rel.trans ?_ H7.out | with_reducible refine Rel.trans ?_ H6.out | with_reducible refine Rel.trans ?_ H5.out | with_reducible refine Rel.trans ?_ H4.out | with_reducible refine Rel.trans ?_ H3.out | with_reducible refine Rel.trans ?_ H2.out | with_reducible refine Rel.trans ?_ H1.out | with_reducible refine Rel.trans ?_ H0.out))⟩)

end Go.Proofs.Ytdhfecaoadnogaa


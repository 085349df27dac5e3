/- Contracts of quotient and product. No conditions but those printed. -/
import Derived.Test.YtdhfecaoadnogaaRatF
import Derived.Test.YtdhfecaoadnogaaRegionTwo
namespace Go.Proofs.Ytdhfecaoadnogaa
open Go.RowKit Frac

attribute [local go_sem] calmUpon
set_option linter.unusedSimpArgs false
set_option linter.unusedVariables false

theorem w_ways2 (s : Bool) (n d : Nat) :
    (((hi64 n : Int) != 0) = true ∧ wN s n d = 0 ∧ wD n d = 0 ∧ wE n d = 2) ∨
    (((hi64 n : Int) != 0) = false ∧ decide ((1000000000000000 : Int) < lo64 n) = true ∧ wN s n d = 0 ∧ wD n d = 0 ∧ wE n d = 2) ∨
    (((hi64 n : Int) != 0) = false ∧ decide ((1000000000000000 : Int) < lo64 n) = false ∧ ((hi64 d : Int) != 0) = true ∧ wN s n d = 0 ∧ wD n d = 0 ∧ wE n d = 2) ∨
    (((hi64 n : Int) != 0) = false ∧ decide ((1000000000000000 : Int) < lo64 n) = false ∧ ((hi64 d : Int) != 0) = false ∧ decide ((1000000000 : Int) < lo64 d) = true ∧ wN s n d = 0 ∧ wD n d = 0 ∧ wE n d = 2) ∨
    (((hi64 n : Int) != 0) = false ∧ decide ((1000000000000000 : Int) < lo64 n) = false ∧ ((hi64 d : Int) != 0) = false ∧ decide ((1000000000 : Int) < lo64 d) = false ∧ lo64 n ≤ 1000000000000000 ∧ lo64 d ≤ 1000000000 ∧ wN s n d = (if s = true then -(lo64 n : Int) else lo64 n) ∧ wD n d = lo64 d ∧ wE n d = 0) := by
  rcases w_ways s n d with h | h | h | h | ⟨a, b, c, d, e, f, g, h, i, j⟩
  · exact .inl h
  · exact .inr (.inl h)
  · exact .inr (.inr (.inl h))
  · exact .inr (.inr (.inr (.inl h)))
  · exact .inr (.inr (.inr (.inr ⟨a, b, c, d, e, f, by cases s <;> simp [g, h], i, j⟩)))

theorem int_div_nat (a b : Nat) : (a : Int) / (b : Int) = ((a / b : Nat) : Int) := rfl

set_option maxHeartbeats 1600000 in
theorem quotient_core (s : Bool) (a b c d g h A1 B1 C1 D1 : Nat) (w : World) (ha : a < 18446744073709551616) (hb : b < 18446744073709551616) (hc : c < 18446744073709551616) (hd : d < 18446744073709551616)
    (hg : 0 < g) (hh : 0 < h) (hA : a / g = A1) (hB : b / h = B1) (hC : c / h = C1) (hD : d / g = D1)
    (G1 : Hid (∀ w, Calls Try.prog 38 #[.int .u64 a, .int .u64 d] w fun e w' => e = .returned (.int .u64 g) ∧ Rel w w'))
    (G2 : Hid (∀ w, Calls Try.prog 38 #[.int .u64 c, .int .u64 b] w fun e w' => e = .returned (.int .u64 h) ∧ Rel w w')) :
    Calls Try.prog 44 #[.bool s, .int .u64 a, .int .u64 b, .int .u64 c, .int .u64 d] w (FrRes (wN s (A1 * C1) (B1 * D1)) (wD (A1 * C1) (B1 * D1)) (wE (A1 * C1) (B1 * D1)) w) := by
  have e1 := int_div_nat a g
  have e2 := int_div_nat b h
  have e3 := int_div_nat c h
  have e4 := int_div_nat d g
  have t1 := tdiv_nat a g
  have t2 := tdiv_nat b h
  have t3 := tdiv_nat c h
  have t4 := tdiv_nat d g
  rw [hA] at e1 t1; rw [hB] at e2 t2; rw [hC] at e3 t3; rw [hD] at e4 t4
  have l1 : A1 < 18446744073709551616 := by rw [← hA]; exact Nat.lt_of_le_of_lt (Nat.div_le_self _ _) ha
  have l2 : B1 < 18446744073709551616 := by rw [← hB]; exact Nat.lt_of_le_of_lt (Nat.div_le_self _ _) hb
  have l3 : C1 < 18446744073709551616 := by rw [← hC]; exact Nat.lt_of_le_of_lt (Nat.div_le_self _ _) hc
  have l4 : D1 < 18446744073709551616 := by rw [← hD]; exact Nat.lt_of_le_of_lt (Nat.div_le_self _ _) hd
  have n1 : ¬ g = 0 := by omega
  have n2 : ¬ h = 0 := by omega
  have y1 : ((g : Int) == 0) = false := by simp; omega
  have y2 : ((h : Int) == 0) = false := by simp; omega
  have w1 := u64_nat l1
  have w2 := u64_nat l2
  have w3 := u64_nat l3
  have w4 := u64_nat l4
  clear hA hB hC hD
  have hW := Lib.hid (fun w => within_any s (A1 * C1) (B1 * D1) w)
  generalize wN s (A1 * C1) (B1 * D1) = R1 at *
  generalize wD (A1 * C1) (B1 * D1) = R2 at *
  generalize wE (A1 * C1) (B1 * D1) = R3 at *
  unfold FrRes
  go_enter Try.func44, Try.ntmps44
  go_wp2_with fail
  refine (G1.out _).mono ?_
  rintro e w1 ⟨rfl, h1⟩
  have q := keep2 h1 (b := w.heap.size) (by first | (simp; done) | (simp; omega) | omega)
  have kc1_0_0 := q.1
  have kc1_0_1 := q.2.1
  have kf1_0_0 := q.2.2.1
  have kf1_0_1 := q.2.2.2.1
  have kl1_0 := q.2.2.2.2.1
  have kn1_0 := q.2.2.2.2.2.1
  have km1_0 := q.2.2.2.2.2.2
  clear q
  have kz1 := h1.size
  (try simp only [World.size_alloc, World.size_setCell, World.size_drew] at kz1)
  have H1 := Lib.hid h1
  clear h1
  go_wp2_with fail
  refine (G2.out _).mono ?_
  rintro e w2 ⟨rfl, h2⟩
  have q := keep2 h2 (b := w.heap.size) (by first | (simp; done) | (simp; omega) | omega)
  have kc2_0_0 := q.1
  have kc2_0_1 := q.2.1
  have kf2_0_0 := q.2.2.1
  have kf2_0_1 := q.2.2.2.1
  have kl2_0 := q.2.2.2.2.1
  have kn2_0 := q.2.2.2.2.2.1
  have km2_0 := q.2.2.2.2.2.2
  clear q
  have kz2 := h2.size
  (try simp only [World.size_alloc, World.size_setCell, World.size_drew] at kz2)
  have H2 := Lib.hid h2
  clear h2
  go_wp2_with fail
  refine wp_region_calm (fun _ _ => True) (fun _ => false) [0, 1, 2, 3, 4, 5, 6, 7, 8, 9, 10, 11, 12, 13, 14, 15, 16, 17] 2 (by kernel_rfl) (by kernel_rfl) (fun _ _ _ _ _ => trivial) trivial (fun w0 h0 => ?_)
  iterate 7
    refine wpCalm_go rfl (by kernel_rfl) (fun K hK => ?_)
    apply Exists.intro
    refine ⟨fun M w hM hS => ?_, hK _ ?_⟩
    · unfold calmAt
      go_simp
      exact ⟨rfl, Rel.refl _⟩
    clear hK K
  refine wpCalm_go rfl (by kernel_rfl) (fun K hK => ?_)
  apply Exists.intro
  refine ⟨fun M w hM hS => ?_, hK _ ?_⟩
  · unfold calmAt
    go_simp
    with_reducible refine (times_any A1 C1 _ l1 l3).mono ?_
    rintro e w1 ⟨rfl, hb⟩
    exact ⟨rfl, hb⟩
  clear hK K
  iterate 6
    refine wpCalm_go rfl (by kernel_rfl) (fun K hK => ?_)
    apply Exists.intro
    refine ⟨fun M w hM hS => ?_, hK _ ?_⟩
    · unfold calmAt
      go_simp
      exact ⟨rfl, Rel.refl _⟩
    clear hK K
  refine wpCalm_go rfl (by kernel_rfl) (fun K hK => ?_)
  apply Exists.intro
  refine ⟨fun M w hM hS => ?_, hK _ ?_⟩
  · unfold calmAt
    go_simp
    with_reducible refine (times_any B1 D1 _ l2 l4).mono ?_
    rintro e w1 ⟨rfl, hb⟩
    exact ⟨rfl, hb⟩
  clear hK K
  refine wpCalm_go rfl (by kernel_rfl) (fun K hK => ?_)
  apply Exists.intro
  refine ⟨fun M w hM hS => ?_, hK _ ?_⟩
  · unfold calmAt
    go_simp
    with_reducible refine (hW.out _).mono ?_
    rintro e w1 ⟨rfl, hb⟩
    exact ⟨rfl, hb⟩
  clear hK K
  iterate 2
    refine wpCalm_go rfl (by kernel_rfl) (fun K hK => ?_)
    apply Exists.intro
    refine ⟨fun M w hM hS => ?_, hK _ ?_⟩
    · unfold calmAt
      go_simp
      exact ⟨rfl, Rel.refl _⟩
    clear hK K
  refine wpCalm_nil ?_
  have q := keep2 h0 (b := w.heap.size) (by first | (simp; done) | (simp; omega) | omega)
  have kc3_0_0 := q.1
  have kc3_0_1 := q.2.1
  have kf3_0_0 := q.2.2.1
  have kf3_0_1 := q.2.2.2.1
  have kl3_0 := q.2.2.2.2.1
  have kn3_0 := q.2.2.2.2.2.1
  have km3_0 := q.2.2.2.2.2.2
  clear q
  have kz3 := h0.size
  (try simp only [World.size_alloc, World.size_setCell, World.size_drew] at kz3)
  have H3 := Lib.hid h0
  clear h0
  refine wpAnyR_ready (rs := [18]) (by kernel_rfl) (by simp) (AllR.cons rfl (fun w4 h4 K' hK' => ?_) AllR.nil)
  have q := keep2 h4 (b := w.heap.size) (by first | (simp; done) | (simp; omega) | omega)
  have kc4_0_0 := q.1
  have kc4_0_1 := q.2.1
  have kf4_0_0 := q.2.2.1
  have kf4_0_1 := q.2.2.2.1
  have kl4_0 := q.2.2.2.2.1
  have kn4_0 := q.2.2.2.2.2.1
  have km4_0 := q.2.2.2.2.2.2
  clear q
  have kz4 := h4.size
  (try simp only [World.size_alloc, World.size_setCell, World.size_drew] at kz4)
  have H4 := Lib.hid h4
  clear h4
  go_simp
  refine hK'.out _ _ trivial ?_
  clear hK' K'
  refine wpAnyR_ready (rs := [19]) (by kernel_rfl) (by simp) (AllR.cons rfl (fun w5 h5 K' hK' => ?_) AllR.nil)
  have q := keep2 h5 (b := w.heap.size) (by first | (simp; done) | (simp; omega) | omega)
  have kc5_0_0 := q.1
  have kc5_0_1 := q.2.1
  have kf5_0_0 := q.2.2.1
  have kf5_0_1 := q.2.2.2.1
  have kl5_0 := q.2.2.2.2.1
  have kn5_0 := q.2.2.2.2.2.1
  have km5_0 := q.2.2.2.2.2.2
  clear q
  have kz5 := h5.size
  (try simp only [World.size_alloc, World.size_setCell, World.size_drew] at kz5)
  have H5 := Lib.hid h5
  clear h5
  go_simp
  refine hK'.out _ _ trivial ?_
  clear hK' K'
  refine wpAnyR_end (by kernel_rfl) (fun w6 h6 => ?_)
  (try simp only [Act.put, List.setIfInBounds_toArray, List.set_cons_zero, List.set_cons_succ])
  have q := keep2 h6 (b := w.heap.size) (by first | (simp; done) | (simp; omega) | omega)
  have kc6_0_0 := q.1
  have kc6_0_1 := q.2.1
  have kf6_0_0 := q.2.2.1
  have kf6_0_1 := q.2.2.2.1
  have kl6_0 := q.2.2.2.2.1
  have kn6_0 := q.2.2.2.2.2.1
  have km6_0 := q.2.2.2.2.2.2
  clear q
  have kz6 := h6.size
  (try simp only [World.size_alloc, World.size_setCell, World.size_drew] at kz6)
  have H6 := Lib.hid h6
  clear h6
  go_wp2
  refine bodyPost_ret ?_ rfl ⟨rfl, ?_⟩
  · simp [results, Try.results44, go_sem, kc6_0_0, kc6_0_1, kc5_0_0, kc5_0_1, kc4_0_0, kc4_0_1, kc3_0_0, kc3_0_1, kc2_0_0, kc2_0_1, kc1_0_0, kc1_0_1]
  · (repeat (first | with_reducible exact Rel.refl _ | with_reducible refine Rel.alloc ?_ _ | with_reducible refine Rel.setCell ?_ (by first | (simp; done) | (simp; omega)) _ | with_reducible refine Rel.drew ?_ | with_reducible refine Rel.trans ?_ H6.out | with_reducible refine Rel.trans ?_ H5.out | with_reducible refine Rel.trans ?_ H4.out | with_reducible refine Rel.trans ?_ H3.out | with_reducible refine Rel.trans ?_ H2.out | with_reducible refine Rel.trans ?_ H1.out))

theorem quotient_any (s : Bool) (a b c d : Nat) (w : World) (ha : a < 18446744073709551616) (hb : b < 18446744073709551616) (hc : c < 18446744073709551616) (hd : d < 18446744073709551616) (hb0 : 0 < b) (hd0 : 0 < d) :
    Calls Try.prog 44 #[.bool s, .int .u64 a, .int .u64 b, .int .u64 c, .int .u64 d] w
      (FrRes (wN s (a / Nat.gcd a d * (c / Nat.gcd c b)) (b / Nat.gcd c b * (d / Nat.gcd a d))) (wD (a / Nat.gcd a d * (c / Nat.gcd c b)) (b / Nat.gcd c b * (d / Nat.gcd a d))) (wE (a / Nat.gcd a d * (c / Nat.gcd c b)) (b / Nat.gcd c b * (d / Nat.gcd a d))) w) :=
  quotient_core s a b c d _ _ _ _ _ _ w ha hb hc hd (Nat.gcd_pos_of_pos_right _ hd0) (Nat.gcd_pos_of_pos_right _ hb0) rfl rfl rfl rfl (Lib.hid fun w => gcd_any a d w ha hd) (Lib.hid fun w => gcd_any c b w hc hb)

set_option maxHeartbeats 1600000 in
theorem product_core (s : Bool) (a b c d g h A1 B1 C1 D1 : Nat) (w : World) (ha : a < 18446744073709551616) (hb : b < 18446744073709551616) (hc : c < 18446744073709551616) (hd : d < 18446744073709551616)
    (hg : 0 < g) (hh : 0 < h) (hA : a / g = A1) (hB : b / h = B1) (hC : c / h = C1) (hD : d / g = D1)
    (G1 : Hid (∀ w, Calls Try.prog 42 #[.int .u64 a, .int .u64 d] w fun e w' => e = .returned (.int .u64 g) ∧ Rel w w'))
    (G2 : Hid (∀ w, Calls Try.prog 42 #[.int .u64 c, .int .u64 b] w fun e w' => e = .returned (.int .u64 h) ∧ Rel w w')) :
    Calls Try.prog 45 #[.bool s, .int .u64 a, .int .u64 b, .int .u64 c, .int .u64 d] w (FrRes (wN s (A1 * C1) (B1 * D1)) (wD (A1 * C1) (B1 * D1)) (wE (A1 * C1) (B1 * D1)) w) := by
  have e1 := int_div_nat a g
  have e2 := int_div_nat b h
  have e3 := int_div_nat c h
  have e4 := int_div_nat d g
  have t1 := tdiv_nat a g
  have t2 := tdiv_nat b h
  have t3 := tdiv_nat c h
  have t4 := tdiv_nat d g
  rw [hA] at e1 t1; rw [hB] at e2 t2; rw [hC] at e3 t3; rw [hD] at e4 t4
  have l1 : A1 < 18446744073709551616 := by rw [← hA]; exact Nat.lt_of_le_of_lt (Nat.div_le_self _ _) ha
  have l2 : B1 < 18446744073709551616 := by rw [← hB]; exact Nat.lt_of_le_of_lt (Nat.div_le_self _ _) hb
  have l3 : C1 < 18446744073709551616 := by rw [← hC]; exact Nat.lt_of_le_of_lt (Nat.div_le_self _ _) hc
  have l4 : D1 < 18446744073709551616 := by rw [← hD]; exact Nat.lt_of_le_of_lt (Nat.div_le_self _ _) hd
  have n1 : ¬ g = 0 := by omega
  have n2 : ¬ h = 0 := by omega
  have y1 : ((g : Int) == 0) = false := by simp; omega
  have y2 : ((h : Int) == 0) = false := by simp; omega
  have q1 := u64_nat l1
  have q2 := u64_nat l2
  have q3 := u64_nat l3
  have q4 := u64_nat l4
  clear hA hB hC hD
  have hT1 := Lib.hid (fun w => rtimes_any A1 C1 w l1 l3)
  have hT2 := Lib.hid (fun w => rtimes_any B1 D1 w l2 l4)
  have hw := w_ways2 s (A1 * C1) (B1 * D1)
  generalize wN s (A1 * C1) (B1 * D1) = R1 at *
  generalize wD (A1 * C1) (B1 * D1) = R2 at *
  generalize wE (A1 * C1) (B1 * D1) = R3 at *
  unfold FrRes
  go_enter Try.func45, Try.ntmps45
  go_wp2_with fail
  refine (G1.out _).mono ?_
  rintro e w1 ⟨rfl, h1⟩
  have q := keep2 h1 (b := w.heap.size) (by first | (simp; done) | (simp; omega) | omega)
  have kc1_0_0 := q.1
  have kc1_0_1 := q.2.1
  have kf1_0_0 := q.2.2.1
  have kf1_0_1 := q.2.2.2.1
  have kl1_0 := q.2.2.2.2.1
  have kn1_0 := q.2.2.2.2.2.1
  have km1_0 := q.2.2.2.2.2.2
  clear q
  have kz1 := h1.size
  (try simp only [World.size_alloc, World.size_setCell, World.size_drew] at kz1)
  have H1 := Lib.hid h1
  clear h1
  go_wp2_with fail
  refine (G2.out _).mono ?_
  rintro e w2 ⟨rfl, h2⟩
  have q := keep2 h2 (b := w.heap.size) (by first | (simp; done) | (simp; omega) | omega)
  have kc2_0_0 := q.1
  have kc2_0_1 := q.2.1
  have kf2_0_0 := q.2.2.1
  have kf2_0_1 := q.2.2.2.1
  have kl2_0 := q.2.2.2.2.1
  have kn2_0 := q.2.2.2.2.2.1
  have km2_0 := q.2.2.2.2.2.2
  clear q
  have kz2 := h2.size
  (try simp only [World.size_alloc, World.size_setCell, World.size_drew] at kz2)
  have H2 := Lib.hid h2
  clear h2
  go_wp2_with fail
  refine wp_region_calm (fun _ _ => True) (fun _ => false) [0, 1, 2, 3, 4, 5, 6, 7, 8, 9, 10, 11, 12, 13] 4 (by kernel_rfl) (by kernel_rfl) (fun _ _ _ _ _ => trivial) trivial (fun w0 h0 => ?_)
  iterate 6
    refine wpCalm_go rfl (by kernel_rfl) (fun K hK => ?_)
    apply Exists.intro
    refine ⟨fun M w hM hS => ?_, hK _ ?_⟩
    · unfold calmAt
      go_simp
      exact ⟨rfl, Rel.refl _⟩
    clear hK K
  refine wpCalm_go rfl (by kernel_rfl) (fun K hK => ?_)
  apply Exists.intro
  refine ⟨fun M w hM hS => ?_, hK _ ?_⟩
  · unfold calmAt
    go_simp
    with_reducible refine (hT1.out _).mono ?_
    rintro e w1 ⟨rfl, hb⟩
    exact ⟨rfl, hb⟩
  clear hK K
  iterate 6
    refine wpCalm_go rfl (by kernel_rfl) (fun K hK => ?_)
    apply Exists.intro
    refine ⟨fun M w hM hS => ?_, hK _ ?_⟩
    · unfold calmAt
      go_simp
      exact ⟨rfl, Rel.refl _⟩
    clear hK K
  refine wpCalm_go rfl (by kernel_rfl) (fun K hK => ?_)
  apply Exists.intro
  refine ⟨fun M w hM hS => ?_, hK _ ?_⟩
  · unfold calmAt
    go_simp
    with_reducible refine (hT2.out _).mono ?_
    rintro e w1 ⟨rfl, hb⟩
    exact ⟨rfl, hb⟩
  clear hK K
  refine wpCalm_nil ?_
  have q := keep2 h0 (b := w.heap.size) (by first | (simp; done) | (simp; omega) | omega)
  have kc0_0_0 := q.1
  have kc0_0_1 := q.2.1
  have kf0_0_0 := q.2.2.1
  have kf0_0_1 := q.2.2.2.1
  have kl0_0 := q.2.2.2.2.1
  have kn0_0 := q.2.2.2.2.2.1
  have km0_0 := q.2.2.2.2.2.2
  clear q
  have kz0 := h0.size
  (try simp only [World.size_alloc, World.size_setCell, World.size_drew] at kz0)
  have H0 := Lib.hid h0
  clear h0
  (try simp only [Act.put, List.setIfInBounds_toArray, List.set_cons_zero, List.set_cons_succ])
  refine wpAnyR_two (d1 := 14) (d2 := 15) (W := w2) (u0 := .int .u64 (hi64 (A1 * C1))) (u1 := .int .u64 (lo64 (A1 * C1))) (v0 := .int .u64 (hi64 (B1 * D1))) (v1 := .int .u64 (lo64 (B1 * D1))) ?_ ?_
  · refine wpAnyR_ready (rs := [14, 15]) (by kernel_rfl) (by simp) (AllR.cons rfl (fun w81 h81 K' hK' => ?_) (AllR.cons rfl (fun w81 h81 K' hK' => ?_) AllR.nil))
    · have kz81 := h81.size
      (try simp only [World.size_alloc, World.size_setCell, World.size_drew] at kz81)
      have H81 := Lib.hid h81
      clear h81
      go_simp
      refine hK'.out _ _ trivial ?_
      clear hK' K'
      refine wpAnyR_ready (rs := [15]) (by kernel_rfl) (by simp) (AllR.cons rfl (fun w82 h82 K' hK' => ?_) AllR.nil)
      have q := keep2 h82 (b := w81.heap.size) (by first | (simp; done) | (simp; omega) | omega)
      have kc82_0_0 := q.1
      have kc82_0_1 := q.2.1
      have kf82_0_0 := q.2.2.1
      have kf82_0_1 := q.2.2.2.1
      have kl82_0 := q.2.2.2.2.1
      have kn82_0 := q.2.2.2.2.2.1
      have km82_0 := q.2.2.2.2.2.2
      clear q
      have kz82 := h82.size
      (try simp only [World.size_alloc, World.size_setCell, World.size_drew] at kz82)
      have H82 := Lib.hid h82
      clear h82
      go_simp
      refine hK'.out _ _ trivial ?_
      clear hK' K'
      refine wpAnyR_ready (rs := [16]) (by kernel_rfl) (by simp) (AllR.cons rfl (fun w83 h83 K' hK' => ?_) AllR.nil)
      have q := keep2 h83 (b := w81.heap.size) (by first | (simp; done) | (simp; omega) | omega)
      have kc83_0_0 := q.1
      have kc83_0_1 := q.2.1
      have kf83_0_0 := q.2.2.1
      have kf83_0_1 := q.2.2.2.1
      have kl83_0 := q.2.2.2.2.1
      have kn83_0 := q.2.2.2.2.2.1
      have km83_0 := q.2.2.2.2.2.2
      clear q
      have q := keep2 h83 (b := w82.heap.size) (by first | (simp; done) | (simp; omega) | omega)
      have kc83_1_0 := q.1
      have kc83_1_1 := q.2.1
      have kf83_1_0 := q.2.2.1
      have kf83_1_1 := q.2.2.2.1
      have kl83_1 := q.2.2.2.2.1
      have kn83_1 := q.2.2.2.2.2.1
      have km83_1 := q.2.2.2.2.2.2
      clear q
      have kz83 := h83.size
      (try simp only [World.size_alloc, World.size_setCell, World.size_drew] at kz83)
      have H83 := Lib.hid h83
      clear h83
      go_simp
      refine hK'.out _ _ trivial ?_
      clear hK' K'
      refine wpAnyR_ready (rs := [17]) (by kernel_rfl) (by simp) (AllR.cons rfl (fun w84 h84 K' hK' => ?_) AllR.nil)
      have q := keep2 h84 (b := w81.heap.size) (by first | (simp; done) | (simp; omega) | omega)
      have kc84_0_0 := q.1
      have kc84_0_1 := q.2.1
      have kf84_0_0 := q.2.2.1
      have kf84_0_1 := q.2.2.2.1
      have kl84_0 := q.2.2.2.2.1
      have kn84_0 := q.2.2.2.2.2.1
      have km84_0 := q.2.2.2.2.2.2
      clear q
      have q := keep2 h84 (b := w82.heap.size) (by first | (simp; done) | (simp; omega) | omega)
      have kc84_1_0 := q.1
      have kc84_1_1 := q.2.1
      have kf84_1_0 := q.2.2.1
      have kf84_1_1 := q.2.2.2.1
      have kl84_1 := q.2.2.2.2.1
      have kn84_1 := q.2.2.2.2.2.1
      have km84_1 := q.2.2.2.2.2.2
      clear q
      have kz84 := h84.size
      (try simp only [World.size_alloc, World.size_setCell, World.size_drew] at kz84)
      have H84 := Lib.hid h84
      clear h84
      go_simp
      refine hK'.out _ _ trivial ?_
      clear hK' K'
      refine wpAnyR_end (by kernel_rfl) (fun w85 h85 => ?_)
      have q := keep2 h85 (b := w81.heap.size) (by first | (simp; done) | (simp; omega) | omega)
      have kc85_0_0 := q.1
      have kc85_0_1 := q.2.1
      have kf85_0_0 := q.2.2.1
      have kf85_0_1 := q.2.2.2.1
      have kl85_0 := q.2.2.2.2.1
      have kn85_0 := q.2.2.2.2.2.1
      have km85_0 := q.2.2.2.2.2.2
      clear q
      have q := keep2 h85 (b := w82.heap.size) (by first | (simp; done) | (simp; omega) | omega)
      have kc85_1_0 := q.1
      have kc85_1_1 := q.2.1
      have kf85_1_0 := q.2.2.1
      have kf85_1_1 := q.2.2.2.1
      have kl85_1 := q.2.2.2.2.1
      have kn85_1 := q.2.2.2.2.2.1
      have km85_1 := q.2.2.2.2.2.2
      clear q
      have kz85 := h85.size
      (try simp only [World.size_alloc, World.size_setCell, World.size_drew] at kz85)
      have H85 := Lib.hid h85
      clear h85
      exact ⟨rfl, w81.heap.size, w82.heap.size, by first | rfl | simp only [Act.put, List.setIfInBounds_toArray, List.set_cons_zero, List.set_cons_succ], by (repeat (first | with_reducible exact Rel.refl _ | with_reducible refine Rel.alloc ?_ _ | with_reducible refine Rel.setCell ?_ (by first | (simp; done) | (simp; omega) | omega) _ | with_reducible refine Rel.drew ?_ | with_reducible refine Rel.trans ?_ H85.out | with_reducible refine Rel.trans ?_ H84.out | with_reducible refine Rel.trans ?_ H83.out | with_reducible refine Rel.trans ?_ H82.out | with_reducible refine Rel.trans ?_ H81.out | with_reducible exact H0.out)), by first | (simp; done) | (simp; omega) | omega, by first | (simp; done) | (simp; omega) | omega, by first | (simp; done) | (simp; omega) | omega, by first | assumption | (simp; omega), by first | assumption | (simp; omega), by go_simp, by go_simp, by go_simp, by go_simp, by go_simp, by go_simp, by go_simp, by go_simp⟩
    · have kz81 := h81.size
      (try simp only [World.size_alloc, World.size_setCell, World.size_drew] at kz81)
      have H81 := Lib.hid h81
      clear h81
      go_simp
      refine hK'.out _ _ trivial ?_
      clear hK' K'
      refine wpAnyR_ready (rs := [14]) (by kernel_rfl) (by simp) (AllR.cons rfl (fun w82 h82 K' hK' => ?_) AllR.nil)
      have q := keep2 h82 (b := w81.heap.size) (by first | (simp; done) | (simp; omega) | omega)
      have kc82_0_0 := q.1
      have kc82_0_1 := q.2.1
      have kf82_0_0 := q.2.2.1
      have kf82_0_1 := q.2.2.2.1
      have kl82_0 := q.2.2.2.2.1
      have kn82_0 := q.2.2.2.2.2.1
      have km82_0 := q.2.2.2.2.2.2
      clear q
      have kz82 := h82.size
      (try simp only [World.size_alloc, World.size_setCell, World.size_drew] at kz82)
      have H82 := Lib.hid h82
      clear h82
      go_simp
      refine hK'.out _ _ trivial ?_
      clear hK' K'
      refine wpAnyR_ready (rs := [16]) (by kernel_rfl) (by simp) (AllR.cons rfl (fun w83 h83 K' hK' => ?_) AllR.nil)
      have q := keep2 h83 (b := w81.heap.size) (by first | (simp; done) | (simp; omega) | omega)
      have kc83_0_0 := q.1
      have kc83_0_1 := q.2.1
      have kf83_0_0 := q.2.2.1
      have kf83_0_1 := q.2.2.2.1
      have kl83_0 := q.2.2.2.2.1
      have kn83_0 := q.2.2.2.2.2.1
      have km83_0 := q.2.2.2.2.2.2
      clear q
      have q := keep2 h83 (b := w82.heap.size) (by first | (simp; done) | (simp; omega) | omega)
      have kc83_1_0 := q.1
      have kc83_1_1 := q.2.1
      have kf83_1_0 := q.2.2.1
      have kf83_1_1 := q.2.2.2.1
      have kl83_1 := q.2.2.2.2.1
      have kn83_1 := q.2.2.2.2.2.1
      have km83_1 := q.2.2.2.2.2.2
      clear q
      have kz83 := h83.size
      (try simp only [World.size_alloc, World.size_setCell, World.size_drew] at kz83)
      have H83 := Lib.hid h83
      clear h83
      go_simp
      refine hK'.out _ _ trivial ?_
      clear hK' K'
      refine wpAnyR_ready (rs := [17]) (by kernel_rfl) (by simp) (AllR.cons rfl (fun w84 h84 K' hK' => ?_) AllR.nil)
      have q := keep2 h84 (b := w81.heap.size) (by first | (simp; done) | (simp; omega) | omega)
      have kc84_0_0 := q.1
      have kc84_0_1 := q.2.1
      have kf84_0_0 := q.2.2.1
      have kf84_0_1 := q.2.2.2.1
      have kl84_0 := q.2.2.2.2.1
      have kn84_0 := q.2.2.2.2.2.1
      have km84_0 := q.2.2.2.2.2.2
      clear q
      have q := keep2 h84 (b := w82.heap.size) (by first | (simp; done) | (simp; omega) | omega)
      have kc84_1_0 := q.1
      have kc84_1_1 := q.2.1
      have kf84_1_0 := q.2.2.1
      have kf84_1_1 := q.2.2.2.1
      have kl84_1 := q.2.2.2.2.1
      have kn84_1 := q.2.2.2.2.2.1
      have km84_1 := q.2.2.2.2.2.2
      clear q
      have kz84 := h84.size
      (try simp only [World.size_alloc, World.size_setCell, World.size_drew] at kz84)
      have H84 := Lib.hid h84
      clear h84
      go_simp
      refine hK'.out _ _ trivial ?_
      clear hK' K'
      refine wpAnyR_end (by kernel_rfl) (fun w85 h85 => ?_)
      have q := keep2 h85 (b := w82.heap.size) (by first | (simp; done) | (simp; omega) | omega)
      have kc85_0_0 := q.1
      have kc85_0_1 := q.2.1
      have kf85_0_0 := q.2.2.1
      have kf85_0_1 := q.2.2.2.1
      have kl85_0 := q.2.2.2.2.1
      have kn85_0 := q.2.2.2.2.2.1
      have km85_0 := q.2.2.2.2.2.2
      clear q
      have q := keep2 h85 (b := w81.heap.size) (by first | (simp; done) | (simp; omega) | omega)
      have kc85_1_0 := q.1
      have kc85_1_1 := q.2.1
      have kf85_1_0 := q.2.2.1
      have kf85_1_1 := q.2.2.2.1
      have kl85_1 := q.2.2.2.2.1
      have kn85_1 := q.2.2.2.2.2.1
      have km85_1 := q.2.2.2.2.2.2
      clear q
      have kz85 := h85.size
      (try simp only [World.size_alloc, World.size_setCell, World.size_drew] at kz85)
      have H85 := Lib.hid h85
      clear h85
      exact ⟨rfl, w82.heap.size, w81.heap.size, by first | rfl | simp only [Act.put, List.setIfInBounds_toArray, List.set_cons_zero, List.set_cons_succ], by (repeat (first | with_reducible exact Rel.refl _ | with_reducible refine Rel.alloc ?_ _ | with_reducible refine Rel.setCell ?_ (by first | (simp; done) | (simp; omega) | omega) _ | with_reducible refine Rel.drew ?_ | with_reducible refine Rel.trans ?_ H85.out | with_reducible refine Rel.trans ?_ H84.out | with_reducible refine Rel.trans ?_ H83.out | with_reducible refine Rel.trans ?_ H82.out | with_reducible refine Rel.trans ?_ H81.out | with_reducible exact H0.out)), by first | (simp; done) | (simp; omega) | omega, by first | (simp; done) | (simp; omega) | omega, by first | (simp; done) | (simp; omega) | omega, by first | assumption | (simp; omega), by first | assumption | (simp; omega), by go_simp, by go_simp, by go_simp, by go_simp, by go_simp, by go_simp, by go_simp, by go_simp⟩
  intro b1 b2 wt ht
  (try simp only [Act.put, List.setIfInBounds_toArray, List.set_cons_zero, List.set_cons_succ])
  obtain ⟨tr, tl1, tl2, tn, ti1, ti2, tc1, tc2, tc3, tc4, tf1, tf2, tf3, tf4⟩ := ht
  have q := keep2 tr (b := w.heap.size) (by first | (simp; done) | (simp; omega) | omega)
  have kc3_0_0 := q.1
  have kc3_0_1 := q.2.1
  have kf3_0_0 := q.2.2.1
  have kf3_0_1 := q.2.2.2.1
  have kl3_0 := q.2.2.2.2.1
  have kn3_0 := q.2.2.2.2.2.1
  have km3_0 := q.2.2.2.2.2.2
  clear q
  have kz3 := tr.size
  (try simp only [World.size_alloc, World.size_setCell, World.size_drew] at kz3)
  have H3 := Lib.hid tr
  clear tr
  rcases hw with ⟨k1, rfl, rfl, rfl⟩ | ⟨k1, k2, rfl, rfl, rfl⟩ | ⟨k1, k2, k3, rfl, rfl, rfl⟩ | ⟨k1, k2, k3, k4, rfl, rfl, rfl⟩ | ⟨k1, k2, k3, k4, b3, b4, hA, rfl, rfl⟩
  all_goals try (subst hA; cases s)
  all_goals
    go_wp2
    refine bodyPost_ret ?_ rfl ⟨rfl, ?_⟩
    · simp [results, Try.results45, go_sem, kc3_0_0, kc3_0_1, kc2_0_0, kc2_0_1, kc1_0_0, kc1_0_1, kl3_0]
    · (repeat (first | with_reducible exact Rel.refl _ | with_reducible refine Rel.alloc ?_ _ | with_reducible refine Rel.setCell ?_ (by first | (simp; done) | (simp; omega)) _ | with_reducible refine Rel.drew ?_ | with_reducible refine Rel.trans ?_ H3.out | with_reducible refine Rel.trans ?_ H2.out | with_reducible refine Rel.trans ?_ H1.out))

theorem product_any (s : Bool) (a b c d : Nat) (w : World) (ha : a < 18446744073709551616) (hb : b < 18446744073709551616) (hc : c < 18446744073709551616) (hd : d < 18446744073709551616) (hb0 : 0 < b) (hd0 : 0 < d) :
    Calls Try.prog 45 #[.bool s, .int .u64 a, .int .u64 b, .int .u64 c, .int .u64 d] w
      (FrRes (wN s (a / Nat.gcd a d * (c / Nat.gcd c b)) (b / Nat.gcd c b * (d / Nat.gcd a d))) (wD (a / Nat.gcd a d * (c / Nat.gcd c b)) (b / Nat.gcd c b * (d / Nat.gcd a d))) (wE (a / Nat.gcd a d * (c / Nat.gcd c b)) (b / Nat.gcd c b * (d / Nat.gcd a d))) w) :=
  product_core s a b c d _ _ _ _ _ _ w ha hb hc hd (Nat.gcd_pos_of_pos_right _ hd0) (Nat.gcd_pos_of_pos_right _ hb0) rfl rfl rfl rfl (Lib.hid fun w => rgcd_any a d w ha hd) (Lib.hid fun w => rgcd_any c b w hc hb)

end Go.Proofs.Ytdhfecaoadnogaa

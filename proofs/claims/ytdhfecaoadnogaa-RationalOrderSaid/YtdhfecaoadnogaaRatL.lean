/- Contracts of Mul and Div on both sides. No conditions but those printed. -/
import Derived.Test.YtdhfecaoadnogaaRatK
namespace Go.Proofs.Ytdhfecaoadnogaa
open Go.RowKit Frac

attribute [local go_sem] calmUpon
set_option linter.unusedSimpArgs false
set_option linter.unusedVariables false

theorem cross_join {a b c d : Nat} (hb : 0 < b) (hd : 0 < d) (h1 : Nat.gcd a b = 1) (h2 : Nat.gcd c d = 1) :
    Nat.gcd (a / Nat.gcd a d * (c / Nat.gcd c b)) (b / Nat.gcd c b * (d / Nat.gcd a d)) = 1 ∧ 0 < b / Nat.gcd c b * (d / Nat.gcd a d) ∧
      a / Nat.gcd a d * (c / Nat.gcd c b) * (b * d) = a * c * (b / Nat.gcd c b * (d / Nat.gcd a d)) := by
  obtain ⟨e1, p1, v1⟩ := gcd_cut (n := a) hd
  obtain ⟨e2, p2, v2⟩ := gcd_cut (n := c) hb
  have x1 : a / Nat.gcd a d ∣ a := Nat.div_dvd_of_dvd (Nat.gcd_dvd_left _ _)
  have x2 : d / Nat.gcd a d ∣ d := Nat.div_dvd_of_dvd (Nat.gcd_dvd_right _ _)
  have x3 : c / Nat.gcd c b ∣ c := Nat.div_dvd_of_dvd (Nat.gcd_dvd_left _ _)
  have x4 : b / Nat.gcd c b ∣ b := Nat.div_dvd_of_dvd (Nat.gcd_dvd_right _ _)
  generalize a / Nat.gcd a d = A at *
  generalize d / Nat.gcd a d = D at *
  generalize c / Nat.gcd c b = C at *
  generalize b / Nat.gcd c b = B at *
  refine ⟨?_, Nat.mul_pos p2 p1, ?_⟩
  · have k1 : Nat.Coprime A B := Nat.Coprime.coprime_dvd_left x1 (Nat.Coprime.coprime_dvd_right x4 h1)
    have k2 : Nat.Coprime C D := Nat.Coprime.coprime_dvd_left x3 (Nat.Coprime.coprime_dvd_right x2 h2)
    exact Nat.Coprime.mul_left (Nat.Coprime.mul_right k1 e1) (Nat.Coprime.mul_right e2 k2)
  · calc A * C * (b * d) = (A * d) * (C * b) := by grind
      _ = a * D * (c * B) := by rw [v1, v2]
      _ = a * c * (B * D) := by grind

/-- A product of fractions in lowest terms, shortened crosswise. -/
theorem cross_w {s e : Int} {a b c d : Nat} {neg : Bool} (hb : 0 < b) (hd : 0 < d) (h1 : Nat.gcd a b = 1) (h2 : Nat.gcd c d = 1)
    (hs : s = if neg = true then -((a * c : Nat) : Int) else ((a * c : Nat) : Int)) (he : e = ((b * d : Nat) : Int)) :
    wN neg (a / Nat.gcd a d * (c / Nat.gcd c b)) (b / Nat.gcd c b * (d / Nat.gcd a d)) = nN s e ∧ wD (a / Nat.gcd a d * (c / Nat.gcd c b)) (b / Nat.gcd c b * (d / Nat.gcd a d)) = nD s e ∧ wE (a / Nat.gcd a d * (c / Nat.gcd c b)) (b / Nat.gcd c b * (d / Nat.gcd a d)) = nE s e := by
  obtain ⟨k1, k2, k3⟩ := cross_join hb hd h1 h2
  have hp : 0 < b * d := Nat.mul_pos hb hd
  refine w_n (by omega) k2 k1 ?_
  rw [hs, he]
  generalize a / Nat.gcd a d * (c / Nat.gcd c b) = N at *
  generalize b / Nat.gcd c b * (d / Nat.gcd a d) = D at *
  generalize a * c = x at *
  generalize b * d = y at *
  have : (N : Int) * y = x * D := by exact_mod_cast k3
  cases neg
  · simpa using this
  · simp only [if_true, Int.neg_mul, this]

theorem sign_mul {a c : Int} (neg : Bool) (h : (a < 0 ∧ c < 0 ∧ neg = false) ∨ (a < 0 ∧ 0 ≤ c ∧ neg = true) ∨ (0 ≤ a ∧ c < 0 ∧ neg = true) ∨ (0 ≤ a ∧ 0 ≤ c ∧ neg = false) ∨ (a * c = 0)) :
    a * c = if neg = true then -((a.natAbs * c.natAbs : Nat) : Int) else ((a.natAbs * c.natAbs : Nat) : Int) := by
  have e : ((a.natAbs * c.natAbs : Nat) : Int) = ((a * c).natAbs : Int) := by rw [Int.natAbs_mul]
  rw [e]
  rcases h with ⟨h1, h2, rfl⟩ | ⟨h1, h2, rfl⟩ | ⟨h1, h2, rfl⟩ | ⟨h1, h2, rfl⟩ | h
  · have := Int.mul_pos_of_neg_of_neg h1 h2; simp; omega
  · have := Int.mul_nonpos_of_nonpos_of_nonneg (Int.le_of_lt h1) h2; simp; omega
  · have := Int.mul_nonpos_of_nonneg_of_nonpos h1 (Int.le_of_lt h2); simp; omega
  · have := Int.mul_nonneg h1 h2; simp; omega
  · rw [h]; cases neg <;> simp

set_option maxHeartbeats 6400000 in
theorem mul_core (a b c d : Int) (s : Bool) (A B C D : Nat) (R1 R2 R3 : Int) (w : World) 
    (h : (a < 0 ∧ 0 < c ∧ s = true) ∨ (a < 0 ∧ c ≤ 0 ∧ s = false) ∨ (a = 0 ∧ s = false) ∨ (0 < a ∧ c < 0 ∧ s = true) ∨ (0 < a ∧ 0 ≤ c ∧ s = false))
    (V1 : Hid (∀ w, Calls Try.prog 18 #[.agg #[.int .i64 a, .int .i64 b]] w fun e w' => e = .returned (.bool true) ∧ Rel w w'))
    (V2 : Hid (∀ w, Calls Try.prog 18 #[.agg #[.int .i64 c, .int .i64 d]] w fun e w' => e = .returned (.bool true) ∧ Rel w w'))
    (S1 : Hid (∀ w, Calls Try.prog 37 #[.int .i64 a] w fun e w' => e = .returned (.int .u64 A) ∧ w = w'))
    (S2 : Hid (∀ w, Calls Try.prog 37 #[.int .i64 b] w fun e w' => e = .returned (.int .u64 B) ∧ w = w'))
    (S3 : Hid (∀ w, Calls Try.prog 37 #[.int .i64 c] w fun e w' => e = .returned (.int .u64 C) ∧ w = w'))
    (S4 : Hid (∀ w, Calls Try.prog 37 #[.int .i64 d] w fun e w' => e = .returned (.int .u64 D) ∧ w = w'))
    (hQ : Hid (∀ w, Calls Try.prog 44 #[.bool s, .int .u64 A, .int .u64 B, .int .u64 C, .int .u64 D] w (FrRes R1 R2 R3 w))) :
    Calls Try.prog 27 #[.agg #[.int .i64 a, .int .i64 b], .agg #[.int .i64 c, .int .i64 d]] w (FrRes R1 R2 R3 w) := by
  unfold FrRes at hQ ⊢
  skip
  have hN : ∀ x : Int, x < 0 → decide (x < 0) = true := by simp
  have hP : ∀ x : Int, 0 ≤ x → decide (x < 0) = false := by intro x hx; simp; omega
  have hN' : ∀ x : Int, x ≤ 0 → decide (0 < x) = false := by intro x hx; simp; omega
  have hP' : ∀ x : Int, 0 < x → decide (0 < x) = true := by simp
  rcases h with ⟨h1, h2, rfl⟩ | ⟨h1, h2, rfl⟩ | ⟨h1, rfl⟩ | ⟨h1, h2, rfl⟩ | ⟨h1, h2, rfl⟩
  · have z1 := hN a h1; have z2 := hN' a (by omega); have z3 := hP c (by omega); have z4 := hP' c h2; clear hN hP hN' hP'
    go_enter Try.func27, Try.ntmps27
    go_wp2_with fail
    with_reducible refine (V1.out _).mono ?_
    rintro e w1 ⟨rfl, h1⟩
    have q := keep2 h1 (b := w.heap.size) (by first | (simp; done) | (simp; omega) | omega)
    have kc1_0_0 := q.1
    have kc1_0_1 := q.2.1
    have kf1_0_0 := q.2.2.1
    have kf1_0_1 := q.2.2.2.1
    have kl1_0 := q.2.2.2.2.1
    have kn1_0 := q.2.2.2.2.2.1
    have km1_0 := q.2.2.2.2.2.2
    clear q
    have q := keep2 h1 (b := w.heap.size + 1) (by first | (simp; done) | (simp; omega) | omega)
    have kc1_1_0 := q.1
    have kc1_1_1 := q.2.1
    have kf1_1_0 := q.2.2.1
    have kf1_1_1 := q.2.2.2.1
    have kl1_1 := q.2.2.2.2.1
    have kn1_1 := q.2.2.2.2.2.1
    have km1_1 := q.2.2.2.2.2.2
    clear q
    have q := keep2 h1 (b := w.heap.size + 2) (by first | (simp; done) | (simp; omega) | omega)
    have kc1_2_0 := q.1
    have kc1_2_1 := q.2.1
    have kf1_2_0 := q.2.2.1
    have kf1_2_1 := q.2.2.2.1
    have kl1_2 := q.2.2.2.2.1
    have kn1_2 := q.2.2.2.2.2.1
    have km1_2 := q.2.2.2.2.2.2
    clear q
    have kz1 := h1.size
    (try simp only [World.size_alloc, World.size_setCell, World.size_drew] at kz1)
    have H1 := Lib.hid h1
    clear h1
    go_wp2_with fail
    with_reducible refine (V2.out _).mono ?_
    rintro e w2 ⟨rfl, h2⟩
    have q := keep2 h2 (b := w.heap.size) (by first | (simp; done) | (simp; omega) | omega)
    have kc2_0_0 := q.1
    have kc2_0_1 := q.2.1
    have kf2_0_0 := q.2.2.1
    have kf2_0_1 := q.2.2.2.1
    have kl2_0 := q.2.2.2.2.1
    have kn2_0 := q.2.2.2.2.2.1
    have km2_0 := q.2.2.2.2.2.2
    clear q
    have q := keep2 h2 (b := w.heap.size + 1) (by first | (simp; done) | (simp; omega) | omega)
    have kc2_1_0 := q.1
    have kc2_1_1 := q.2.1
    have kf2_1_0 := q.2.2.1
    have kf2_1_1 := q.2.2.2.1
    have kl2_1 := q.2.2.2.2.1
    have kn2_1 := q.2.2.2.2.2.1
    have km2_1 := q.2.2.2.2.2.2
    clear q
    have q := keep2 h2 (b := w.heap.size + 2) (by first | (simp; done) | (simp; omega) | omega)
    have kc2_2_0 := q.1
    have kc2_2_1 := q.2.1
    have kf2_2_0 := q.2.2.1
    have kf2_2_1 := q.2.2.2.1
    have kl2_2 := q.2.2.2.2.1
    have kn2_2 := q.2.2.2.2.2.1
    have km2_2 := q.2.2.2.2.2.2
    clear q
    have kz2 := h2.size
    (try simp only [World.size_alloc, World.size_setCell, World.size_drew] at kz2)
    have H2 := Lib.hid h2
    clear h2
    go_wp2_with fail
    refine wp_region_calm (fun _ w' => w'.cell? { block := w.heap.size, off := 0 } = some (.int .i64 a) ∧ w'.cell? { block := w.heap.size, off := 1 } = some (.int .i64 b) ∧ w'.cell? { block := w.heap.size + 1, off := 0 } = some (.int .i64 c) ∧ w'.cell? { block := w.heap.size + 1, off := 1 } = some (.int .i64 d)) (fun _ => false) [0, 1, 2, 3, 4, 5, 6, 7, 8, 9, 10, 11, 12, 13, 14, 15] 2 (by kernel_rfl) (by kernel_rfl) ?hst ?hS0 (fun w0 h0 => ?_)
    case hst => exact fun _ _ _ h r => ⟨r.cell h.1, r.cell h.2.1, r.cell h.2.2.1, r.cell h.2.2.2⟩
    case hS0 => exact ⟨by go_simp, by go_simp, by go_simp, by go_simp⟩
    iterate 3
      refine wpCalm_go rfl (by kernel_rfl) (fun K hK => ?_)
      apply Exists.intro
      refine ⟨fun M w hM hS => ?_, hK _ ?_⟩
      · have c1 := hS.1
        have c2 := hS.2.1
        have c3 := hS.2.2.1
        have c4 := hS.2.2.2
        unfold calmAt
        go_simp
        exact ⟨rfl, Rel.refl _⟩
      clear hK K
    refine wpCalm_go rfl (by kernel_rfl) (fun K hK => ?_)
    apply Exists.intro
    refine ⟨fun M w hM hS => ?_, hK _ ?_⟩
    · have c1 := hS.1
      have c2 := hS.2.1
      have c3 := hS.2.2.1
      have c4 := hS.2.2.2
      unfold calmAt
      go_simp
      with_reducible refine (S1.out _).mono ?_
      rintro e w1 ⟨rfl, rfl⟩
      exact ⟨rfl, Rel.refl _⟩
    clear hK K
    iterate 2
      refine wpCalm_go rfl (by kernel_rfl) (fun K hK => ?_)
      apply Exists.intro
      refine ⟨fun M w hM hS => ?_, hK _ ?_⟩
      · have c1 := hS.1
        have c2 := hS.2.1
        have c3 := hS.2.2.1
        have c4 := hS.2.2.2
        unfold calmAt
        go_simp
        exact ⟨rfl, Rel.refl _⟩
      clear hK K
    refine wpCalm_go rfl (by kernel_rfl) (fun K hK => ?_)
    apply Exists.intro
    refine ⟨fun M w hM hS => ?_, hK _ ?_⟩
    · have c1 := hS.1
      have c2 := hS.2.1
      have c3 := hS.2.2.1
      have c4 := hS.2.2.2
      unfold calmAt
      go_simp
      with_reducible refine (S2.out _).mono ?_
      rintro e w1 ⟨rfl, rfl⟩
      exact ⟨rfl, Rel.refl _⟩
    clear hK K
    iterate 2
      refine wpCalm_go rfl (by kernel_rfl) (fun K hK => ?_)
      apply Exists.intro
      refine ⟨fun M w hM hS => ?_, hK _ ?_⟩
      · have c1 := hS.1
        have c2 := hS.2.1
        have c3 := hS.2.2.1
        have c4 := hS.2.2.2
        unfold calmAt
        go_simp
        exact ⟨rfl, Rel.refl _⟩
      clear hK K
    refine wpCalm_go rfl (by kernel_rfl) (fun K hK => ?_)
    apply Exists.intro
    refine ⟨fun M w hM hS => ?_, hK _ ?_⟩
    · have c1 := hS.1
      have c2 := hS.2.1
      have c3 := hS.2.2.1
      have c4 := hS.2.2.2
      unfold calmAt
      go_simp
      with_reducible refine (S3.out _).mono ?_
      rintro e w1 ⟨rfl, rfl⟩
      exact ⟨rfl, Rel.refl _⟩
    clear hK K
    iterate 2
      refine wpCalm_go rfl (by kernel_rfl) (fun K hK => ?_)
      apply Exists.intro
      refine ⟨fun M w hM hS => ?_, hK _ ?_⟩
      · have c1 := hS.1
        have c2 := hS.2.1
        have c3 := hS.2.2.1
        have c4 := hS.2.2.2
        unfold calmAt
        go_simp
        exact ⟨rfl, Rel.refl _⟩
      clear hK K
    refine wpCalm_go rfl (by kernel_rfl) (fun K hK => ?_)
    apply Exists.intro
    refine ⟨fun M w hM hS => ?_, hK _ ?_⟩
    · have c1 := hS.1
      have c2 := hS.2.1
      have c3 := hS.2.2.1
      have c4 := hS.2.2.2
      unfold calmAt
      go_simp
      with_reducible refine (S4.out _).mono ?_
      rintro e w1 ⟨rfl, rfl⟩
      exact ⟨rfl, Rel.refl _⟩
    clear hK K
    refine wpCalm_go rfl (by kernel_rfl) (fun K hK => ?_)
    apply Exists.intro
    refine ⟨fun M w hM hS => ?_, hK _ ?_⟩
    · unfold calmAt
      go_simp
      with_reducible refine (hQ.out _).mono ?_
      rintro e w1 ⟨rfl, hb⟩
      exact ⟨rfl, hb⟩
    clear hK K
    iterate 2
      refine wpCalm_go rfl (by kernel_rfl) (fun K hK => ?_)
      apply Exists.intro
      refine ⟨fun M w hM hS => ?_, hK _ ?_⟩
      · unfold calmAt
        go_simp
        exact ⟨rfl, Rel.refl _⟩
      clear hK K
    refine wpCalm_nil ?_
    have q := keep2 h0 (b := w.heap.size) (by first | (simp; done) | (simp; omega) | omega)
    have kc3_0_0 := q.1
    have kc3_0_1 := q.2.1
    have kf3_0_0 := q.2.2.1
    have kf3_0_1 := q.2.2.2.1
    have kl3_0 := q.2.2.2.2.1
    have kn3_0 := q.2.2.2.2.2.1
    have km3_0 := q.2.2.2.2.2.2
    clear q
    have q := keep2 h0 (b := w.heap.size + 1) (by first | (simp; done) | (simp; omega) | omega)
    have kc3_1_0 := q.1
    have kc3_1_1 := q.2.1
    have kf3_1_0 := q.2.2.1
    have kf3_1_1 := q.2.2.2.1
    have kl3_1 := q.2.2.2.2.1
    have kn3_1 := q.2.2.2.2.2.1
    have km3_1 := q.2.2.2.2.2.2
    clear q
    have q := keep2 h0 (b := w.heap.size + 2) (by first | (simp; done) | (simp; omega) | omega)
    have kc3_2_0 := q.1
    have kc3_2_1 := q.2.1
    have kf3_2_0 := q.2.2.1
    have kf3_2_1 := q.2.2.2.1
    have kl3_2 := q.2.2.2.2.1
    have kn3_2 := q.2.2.2.2.2.1
    have km3_2 := q.2.2.2.2.2.2
    clear q
    have kz3 := h0.size
    (try simp only [World.size_alloc, World.size_setCell, World.size_drew] at kz3)
    have H3 := Lib.hid h0
    clear h0
    refine wpAnyR_ready (rs := [16]) (by kernel_rfl) (by simp) (AllR.cons rfl (fun w4 h4 K' hK' => ?_) AllR.nil)
    have q := keep2 h4 (b := w.heap.size) (by first | (simp; done) | (simp; omega) | omega)
    have kc4_0_0 := q.1
    have kc4_0_1 := q.2.1
    have kf4_0_0 := q.2.2.1
    have kf4_0_1 := q.2.2.2.1
    have kl4_0 := q.2.2.2.2.1
    have kn4_0 := q.2.2.2.2.2.1
    have km4_0 := q.2.2.2.2.2.2
    clear q
    have q := keep2 h4 (b := w.heap.size + 1) (by first | (simp; done) | (simp; omega) | omega)
    have kc4_1_0 := q.1
    have kc4_1_1 := q.2.1
    have kf4_1_0 := q.2.2.1
    have kf4_1_1 := q.2.2.2.1
    have kl4_1 := q.2.2.2.2.1
    have kn4_1 := q.2.2.2.2.2.1
    have km4_1 := q.2.2.2.2.2.2
    clear q
    have q := keep2 h4 (b := w.heap.size + 2) (by first | (simp; done) | (simp; omega) | omega)
    have kc4_2_0 := q.1
    have kc4_2_1 := q.2.1
    have kf4_2_0 := q.2.2.1
    have kf4_2_1 := q.2.2.2.1
    have kl4_2 := q.2.2.2.2.1
    have kn4_2 := q.2.2.2.2.2.1
    have km4_2 := q.2.2.2.2.2.2
    clear q
    have kz4 := h4.size
    (try simp only [World.size_alloc, World.size_setCell, World.size_drew] at kz4)
    have H4 := Lib.hid h4
    clear h4
    go_simp
    refine hK'.out _ _ ⟨by go_simp, by go_simp, by go_simp, by go_simp⟩ ?_
    clear hK' K'
    refine wpAnyR_ready (rs := [17]) (by kernel_rfl) (by simp) (AllR.cons rfl (fun w5 h5 K' hK' => ?_) AllR.nil)
    have q := keep2 h5 (b := w.heap.size) (by first | (simp; done) | (simp; omega) | omega)
    have kc5_0_0 := q.1
    have kc5_0_1 := q.2.1
    have kf5_0_0 := q.2.2.1
    have kf5_0_1 := q.2.2.2.1
    have kl5_0 := q.2.2.2.2.1
    have kn5_0 := q.2.2.2.2.2.1
    have km5_0 := q.2.2.2.2.2.2
    clear q
    have q := keep2 h5 (b := w.heap.size + 1) (by first | (simp; done) | (simp; omega) | omega)
    have kc5_1_0 := q.1
    have kc5_1_1 := q.2.1
    have kf5_1_0 := q.2.2.1
    have kf5_1_1 := q.2.2.2.1
    have kl5_1 := q.2.2.2.2.1
    have kn5_1 := q.2.2.2.2.2.1
    have km5_1 := q.2.2.2.2.2.2
    clear q
    have q := keep2 h5 (b := w.heap.size + 2) (by first | (simp; done) | (simp; omega) | omega)
    have kc5_2_0 := q.1
    have kc5_2_1 := q.2.1
    have kf5_2_0 := q.2.2.1
    have kf5_2_1 := q.2.2.2.1
    have kl5_2 := q.2.2.2.2.1
    have kn5_2 := q.2.2.2.2.2.1
    have km5_2 := q.2.2.2.2.2.2
    clear q
    have kz5 := h5.size
    (try simp only [World.size_alloc, World.size_setCell, World.size_drew] at kz5)
    have H5 := Lib.hid h5
    clear h5
    go_simp
    refine hK'.out _ _ ⟨by go_simp, by go_simp, by go_simp, by go_simp⟩ ?_
    clear hK' K'
    refine wpAnyR_end (by kernel_rfl) (fun w6 h6 => ?_)
    (try simp only [Act.put, List.setIfInBounds_toArray, List.set_cons_zero, List.set_cons_succ])
    have q := keep2 h6 (b := w.heap.size) (by first | (simp; done) | (simp; omega) | omega)
    have kc6_0_0 := q.1
    have kc6_0_1 := q.2.1
    have kf6_0_0 := q.2.2.1
    have kf6_0_1 := q.2.2.2.1
    have kl6_0 := q.2.2.2.2.1
    have kn6_0 := q.2.2.2.2.2.1
    have km6_0 := q.2.2.2.2.2.2
    clear q
    have q := keep2 h6 (b := w.heap.size + 1) (by first | (simp; done) | (simp; omega) | omega)
    have kc6_1_0 := q.1
    have kc6_1_1 := q.2.1
    have kf6_1_0 := q.2.2.1
    have kf6_1_1 := q.2.2.2.1
    have kl6_1 := q.2.2.2.2.1
    have kn6_1 := q.2.2.2.2.2.1
    have km6_1 := q.2.2.2.2.2.2
    clear q
    have q := keep2 h6 (b := w.heap.size + 2) (by first | (simp; done) | (simp; omega) | omega)
    have kc6_2_0 := q.1
    have kc6_2_1 := q.2.1
    have kf6_2_0 := q.2.2.1
    have kf6_2_1 := q.2.2.2.1
    have kl6_2 := q.2.2.2.2.1
    have kn6_2 := q.2.2.2.2.2.1
    have km6_2 := q.2.2.2.2.2.2
    clear q
    have kz6 := h6.size
    (try simp only [World.size_alloc, World.size_setCell, World.size_drew] at kz6)
    have H6 := Lib.hid h6
    clear h6
    go_wp2
    refine bodyPost_ret ?_ rfl ⟨rfl, ?_⟩
    · simp [results, Try.results27, go_sem, kc6_2_0, kc6_2_1, kl6_2, kc5_2_0, kc5_2_1, kl5_2, kc4_2_0, kc4_2_1, kl4_2, kc3_2_0, kc3_2_1, kl3_2, kc2_2_0, kc2_2_1, kl2_2, kc1_2_0, kc1_2_1, kl1_2]
    · (repeat (first | with_reducible exact Rel.refl _ | with_reducible refine Rel.alloc ?_ _ | with_reducible refine Rel.setCell ?_ (by first | (simp; done) | (simp; omega)) _ | with_reducible refine Rel.drew ?_ | with_reducible refine Rel.trans ?_ H6.out | with_reducible refine Rel.trans ?_ H5.out | with_reducible refine Rel.trans ?_ H4.out | with_reducible refine Rel.trans ?_ H3.out | with_reducible refine Rel.trans ?_ H2.out | with_reducible refine Rel.trans ?_ H1.out))
  · have z1 := hN a h1; have z2 := hN' a (by omega); have z4 := hN' c h2; clear hN hP hN' hP'
    go_enter Try.func27, Try.ntmps27
    go_wp2_with fail
    with_reducible refine (V1.out _).mono ?_
    rintro e w1 ⟨rfl, h1⟩
    have q := keep2 h1 (b := w.heap.size) (by first | (simp; done) | (simp; omega) | omega)
    have kc1_0_0 := q.1
    have kc1_0_1 := q.2.1
    have kf1_0_0 := q.2.2.1
    have kf1_0_1 := q.2.2.2.1
    have kl1_0 := q.2.2.2.2.1
    have kn1_0 := q.2.2.2.2.2.1
    have km1_0 := q.2.2.2.2.2.2
    clear q
    have q := keep2 h1 (b := w.heap.size + 1) (by first | (simp; done) | (simp; omega) | omega)
    have kc1_1_0 := q.1
    have kc1_1_1 := q.2.1
    have kf1_1_0 := q.2.2.1
    have kf1_1_1 := q.2.2.2.1
    have kl1_1 := q.2.2.2.2.1
    have kn1_1 := q.2.2.2.2.2.1
    have km1_1 := q.2.2.2.2.2.2
    clear q
    have q := keep2 h1 (b := w.heap.size + 2) (by first | (simp; done) | (simp; omega) | omega)
    have kc1_2_0 := q.1
    have kc1_2_1 := q.2.1
    have kf1_2_0 := q.2.2.1
    have kf1_2_1 := q.2.2.2.1
    have kl1_2 := q.2.2.2.2.1
    have kn1_2 := q.2.2.2.2.2.1
    have km1_2 := q.2.2.2.2.2.2
    clear q
    have kz1 := h1.size
    (try simp only [World.size_alloc, World.size_setCell, World.size_drew] at kz1)
    have H1 := Lib.hid h1
    clear h1
    go_wp2_with fail
    with_reducible refine (V2.out _).mono ?_
    rintro e w2 ⟨rfl, h2⟩
    have q := keep2 h2 (b := w.heap.size) (by first | (simp; done) | (simp; omega) | omega)
    have kc2_0_0 := q.1
    have kc2_0_1 := q.2.1
    have kf2_0_0 := q.2.2.1
    have kf2_0_1 := q.2.2.2.1
    have kl2_0 := q.2.2.2.2.1
    have kn2_0 := q.2.2.2.2.2.1
    have km2_0 := q.2.2.2.2.2.2
    clear q
    have q := keep2 h2 (b := w.heap.size + 1) (by first | (simp; done) | (simp; omega) | omega)
    have kc2_1_0 := q.1
    have kc2_1_1 := q.2.1
    have kf2_1_0 := q.2.2.1
    have kf2_1_1 := q.2.2.2.1
    have kl2_1 := q.2.2.2.2.1
    have kn2_1 := q.2.2.2.2.2.1
    have km2_1 := q.2.2.2.2.2.2
    clear q
    have q := keep2 h2 (b := w.heap.size + 2) (by first | (simp; done) | (simp; omega) | omega)
    have kc2_2_0 := q.1
    have kc2_2_1 := q.2.1
    have kf2_2_0 := q.2.2.1
    have kf2_2_1 := q.2.2.2.1
    have kl2_2 := q.2.2.2.2.1
    have kn2_2 := q.2.2.2.2.2.1
    have km2_2 := q.2.2.2.2.2.2
    clear q
    have kz2 := h2.size
    (try simp only [World.size_alloc, World.size_setCell, World.size_drew] at kz2)
    have H2 := Lib.hid h2
    clear h2
    go_wp2_with fail
    refine wp_region_calm (fun _ w' => w'.cell? { block := w.heap.size, off := 0 } = some (.int .i64 a) ∧ w'.cell? { block := w.heap.size, off := 1 } = some (.int .i64 b) ∧ w'.cell? { block := w.heap.size + 1, off := 0 } = some (.int .i64 c) ∧ w'.cell? { block := w.heap.size + 1, off := 1 } = some (.int .i64 d)) (fun _ => false) [0, 1, 2, 3, 4, 5, 6, 7, 8, 9, 10, 11, 12, 13, 14, 15] 2 (by kernel_rfl) (by kernel_rfl) ?hst ?hS0 (fun w0 h0 => ?_)
    case hst => exact fun _ _ _ h r => ⟨r.cell h.1, r.cell h.2.1, r.cell h.2.2.1, r.cell h.2.2.2⟩
    case hS0 => exact ⟨by go_simp, by go_simp, by go_simp, by go_simp⟩
    iterate 3
      refine wpCalm_go rfl (by kernel_rfl) (fun K hK => ?_)
      apply Exists.intro
      refine ⟨fun M w hM hS => ?_, hK _ ?_⟩
      · have c1 := hS.1
        have c2 := hS.2.1
        have c3 := hS.2.2.1
        have c4 := hS.2.2.2
        unfold calmAt
        go_simp
        exact ⟨rfl, Rel.refl _⟩
      clear hK K
    refine wpCalm_go rfl (by kernel_rfl) (fun K hK => ?_)
    apply Exists.intro
    refine ⟨fun M w hM hS => ?_, hK _ ?_⟩
    · have c1 := hS.1
      have c2 := hS.2.1
      have c3 := hS.2.2.1
      have c4 := hS.2.2.2
      unfold calmAt
      go_simp
      with_reducible refine (S1.out _).mono ?_
      rintro e w1 ⟨rfl, rfl⟩
      exact ⟨rfl, Rel.refl _⟩
    clear hK K
    iterate 2
      refine wpCalm_go rfl (by kernel_rfl) (fun K hK => ?_)
      apply Exists.intro
      refine ⟨fun M w hM hS => ?_, hK _ ?_⟩
      · have c1 := hS.1
        have c2 := hS.2.1
        have c3 := hS.2.2.1
        have c4 := hS.2.2.2
        unfold calmAt
        go_simp
        exact ⟨rfl, Rel.refl _⟩
      clear hK K
    refine wpCalm_go rfl (by kernel_rfl) (fun K hK => ?_)
    apply Exists.intro
    refine ⟨fun M w hM hS => ?_, hK _ ?_⟩
    · have c1 := hS.1
      have c2 := hS.2.1
      have c3 := hS.2.2.1
      have c4 := hS.2.2.2
      unfold calmAt
      go_simp
      with_reducible refine (S2.out _).mono ?_
      rintro e w1 ⟨rfl, rfl⟩
      exact ⟨rfl, Rel.refl _⟩
    clear hK K
    iterate 2
      refine wpCalm_go rfl (by kernel_rfl) (fun K hK => ?_)
      apply Exists.intro
      refine ⟨fun M w hM hS => ?_, hK _ ?_⟩
      · have c1 := hS.1
        have c2 := hS.2.1
        have c3 := hS.2.2.1
        have c4 := hS.2.2.2
        unfold calmAt
        go_simp
        exact ⟨rfl, Rel.refl _⟩
      clear hK K
    refine wpCalm_go rfl (by kernel_rfl) (fun K hK => ?_)
    apply Exists.intro
    refine ⟨fun M w hM hS => ?_, hK _ ?_⟩
    · have c1 := hS.1
      have c2 := hS.2.1
      have c3 := hS.2.2.1
      have c4 := hS.2.2.2
      unfold calmAt
      go_simp
      with_reducible refine (S3.out _).mono ?_
      rintro e w1 ⟨rfl, rfl⟩
      exact ⟨rfl, Rel.refl _⟩
    clear hK K
    iterate 2
      refine wpCalm_go rfl (by kernel_rfl) (fun K hK => ?_)
      apply Exists.intro
      refine ⟨fun M w hM hS => ?_, hK _ ?_⟩
      · have c1 := hS.1
        have c2 := hS.2.1
        have c3 := hS.2.2.1
        have c4 := hS.2.2.2
        unfold calmAt
        go_simp
        exact ⟨rfl, Rel.refl _⟩
      clear hK K
    refine wpCalm_go rfl (by kernel_rfl) (fun K hK => ?_)
    apply Exists.intro
    refine ⟨fun M w hM hS => ?_, hK _ ?_⟩
    · have c1 := hS.1
      have c2 := hS.2.1
      have c3 := hS.2.2.1
      have c4 := hS.2.2.2
      unfold calmAt
      go_simp
      with_reducible refine (S4.out _).mono ?_
      rintro e w1 ⟨rfl, rfl⟩
      exact ⟨rfl, Rel.refl _⟩
    clear hK K
    refine wpCalm_go rfl (by kernel_rfl) (fun K hK => ?_)
    apply Exists.intro
    refine ⟨fun M w hM hS => ?_, hK _ ?_⟩
    · unfold calmAt
      go_simp
      with_reducible refine (hQ.out _).mono ?_
      rintro e w1 ⟨rfl, hb⟩
      exact ⟨rfl, hb⟩
    clear hK K
    iterate 2
      refine wpCalm_go rfl (by kernel_rfl) (fun K hK => ?_)
      apply Exists.intro
      refine ⟨fun M w hM hS => ?_, hK _ ?_⟩
      · unfold calmAt
        go_simp
        exact ⟨rfl, Rel.refl _⟩
      clear hK K
    refine wpCalm_nil ?_
    have q := keep2 h0 (b := w.heap.size) (by first | (simp; done) | (simp; omega) | omega)
    have kc3_0_0 := q.1
    have kc3_0_1 := q.2.1
    have kf3_0_0 := q.2.2.1
    have kf3_0_1 := q.2.2.2.1
    have kl3_0 := q.2.2.2.2.1
    have kn3_0 := q.2.2.2.2.2.1
    have km3_0 := q.2.2.2.2.2.2
    clear q
    have q := keep2 h0 (b := w.heap.size + 1) (by first | (simp; done) | (simp; omega) | omega)
    have kc3_1_0 := q.1
    have kc3_1_1 := q.2.1
    have kf3_1_0 := q.2.2.1
    have kf3_1_1 := q.2.2.2.1
    have kl3_1 := q.2.2.2.2.1
    have kn3_1 := q.2.2.2.2.2.1
    have km3_1 := q.2.2.2.2.2.2
    clear q
    have q := keep2 h0 (b := w.heap.size + 2) (by first | (simp; done) | (simp; omega) | omega)
    have kc3_2_0 := q.1
    have kc3_2_1 := q.2.1
    have kf3_2_0 := q.2.2.1
    have kf3_2_1 := q.2.2.2.1
    have kl3_2 := q.2.2.2.2.1
    have kn3_2 := q.2.2.2.2.2.1
    have km3_2 := q.2.2.2.2.2.2
    clear q
    have kz3 := h0.size
    (try simp only [World.size_alloc, World.size_setCell, World.size_drew] at kz3)
    have H3 := Lib.hid h0
    clear h0
    refine wpAnyR_ready (rs := [16]) (by kernel_rfl) (by simp) (AllR.cons rfl (fun w4 h4 K' hK' => ?_) AllR.nil)
    have q := keep2 h4 (b := w.heap.size) (by first | (simp; done) | (simp; omega) | omega)
    have kc4_0_0 := q.1
    have kc4_0_1 := q.2.1
    have kf4_0_0 := q.2.2.1
    have kf4_0_1 := q.2.2.2.1
    have kl4_0 := q.2.2.2.2.1
    have kn4_0 := q.2.2.2.2.2.1
    have km4_0 := q.2.2.2.2.2.2
    clear q
    have q := keep2 h4 (b := w.heap.size + 1) (by first | (simp; done) | (simp; omega) | omega)
    have kc4_1_0 := q.1
    have kc4_1_1 := q.2.1
    have kf4_1_0 := q.2.2.1
    have kf4_1_1 := q.2.2.2.1
    have kl4_1 := q.2.2.2.2.1
    have kn4_1 := q.2.2.2.2.2.1
    have km4_1 := q.2.2.2.2.2.2
    clear q
    have q := keep2 h4 (b := w.heap.size + 2) (by first | (simp; done) | (simp; omega) | omega)
    have kc4_2_0 := q.1
    have kc4_2_1 := q.2.1
    have kf4_2_0 := q.2.2.1
    have kf4_2_1 := q.2.2.2.1
    have kl4_2 := q.2.2.2.2.1
    have kn4_2 := q.2.2.2.2.2.1
    have km4_2 := q.2.2.2.2.2.2
    clear q
    have kz4 := h4.size
    (try simp only [World.size_alloc, World.size_setCell, World.size_drew] at kz4)
    have H4 := Lib.hid h4
    clear h4
    go_simp
    refine hK'.out _ _ ⟨by go_simp, by go_simp, by go_simp, by go_simp⟩ ?_
    clear hK' K'
    refine wpAnyR_ready (rs := [17]) (by kernel_rfl) (by simp) (AllR.cons rfl (fun w5 h5 K' hK' => ?_) AllR.nil)
    have q := keep2 h5 (b := w.heap.size) (by first | (simp; done) | (simp; omega) | omega)
    have kc5_0_0 := q.1
    have kc5_0_1 := q.2.1
    have kf5_0_0 := q.2.2.1
    have kf5_0_1 := q.2.2.2.1
    have kl5_0 := q.2.2.2.2.1
    have kn5_0 := q.2.2.2.2.2.1
    have km5_0 := q.2.2.2.2.2.2
    clear q
    have q := keep2 h5 (b := w.heap.size + 1) (by first | (simp; done) | (simp; omega) | omega)
    have kc5_1_0 := q.1
    have kc5_1_1 := q.2.1
    have kf5_1_0 := q.2.2.1
    have kf5_1_1 := q.2.2.2.1
    have kl5_1 := q.2.2.2.2.1
    have kn5_1 := q.2.2.2.2.2.1
    have km5_1 := q.2.2.2.2.2.2
    clear q
    have q := keep2 h5 (b := w.heap.size + 2) (by first | (simp; done) | (simp; omega) | omega)
    have kc5_2_0 := q.1
    have kc5_2_1 := q.2.1
    have kf5_2_0 := q.2.2.1
    have kf5_2_1 := q.2.2.2.1
    have kl5_2 := q.2.2.2.2.1
    have kn5_2 := q.2.2.2.2.2.1
    have km5_2 := q.2.2.2.2.2.2
    clear q
    have kz5 := h5.size
    (try simp only [World.size_alloc, World.size_setCell, World.size_drew] at kz5)
    have H5 := Lib.hid h5
    clear h5
    go_simp
    refine hK'.out _ _ ⟨by go_simp, by go_simp, by go_simp, by go_simp⟩ ?_
    clear hK' K'
    refine wpAnyR_end (by kernel_rfl) (fun w6 h6 => ?_)
    (try simp only [Act.put, List.setIfInBounds_toArray, List.set_cons_zero, List.set_cons_succ])
    have q := keep2 h6 (b := w.heap.size) (by first | (simp; done) | (simp; omega) | omega)
    have kc6_0_0 := q.1
    have kc6_0_1 := q.2.1
    have kf6_0_0 := q.2.2.1
    have kf6_0_1 := q.2.2.2.1
    have kl6_0 := q.2.2.2.2.1
    have kn6_0 := q.2.2.2.2.2.1
    have km6_0 := q.2.2.2.2.2.2
    clear q
    have q := keep2 h6 (b := w.heap.size + 1) (by first | (simp; done) | (simp; omega) | omega)
    have kc6_1_0 := q.1
    have kc6_1_1 := q.2.1
    have kf6_1_0 := q.2.2.1
    have kf6_1_1 := q.2.2.2.1
    have kl6_1 := q.2.2.2.2.1
    have kn6_1 := q.2.2.2.2.2.1
    have km6_1 := q.2.2.2.2.2.2
    clear q
    have q := keep2 h6 (b := w.heap.size + 2) (by first | (simp; done) | (simp; omega) | omega)
    have kc6_2_0 := q.1
    have kc6_2_1 := q.2.1
    have kf6_2_0 := q.2.2.1
    have kf6_2_1 := q.2.2.2.1
    have kl6_2 := q.2.2.2.2.1
    have kn6_2 := q.2.2.2.2.2.1
    have km6_2 := q.2.2.2.2.2.2
    clear q
    have kz6 := h6.size
    (try simp only [World.size_alloc, World.size_setCell, World.size_drew] at kz6)
    have H6 := Lib.hid h6
    clear h6
    go_wp2
    refine bodyPost_ret ?_ rfl ⟨rfl, ?_⟩
    · simp [results, Try.results27, go_sem, kc6_2_0, kc6_2_1, kl6_2, kc5_2_0, kc5_2_1, kl5_2, kc4_2_0, kc4_2_1, kl4_2, kc3_2_0, kc3_2_1, kl3_2, kc2_2_0, kc2_2_1, kl2_2, kc1_2_0, kc1_2_1, kl1_2]
    · (repeat (first | with_reducible exact Rel.refl _ | with_reducible refine Rel.alloc ?_ _ | with_reducible refine Rel.setCell ?_ (by first | (simp; done) | (simp; omega)) _ | with_reducible refine Rel.drew ?_ | with_reducible refine Rel.trans ?_ H6.out | with_reducible refine Rel.trans ?_ H5.out | with_reducible refine Rel.trans ?_ H4.out | with_reducible refine Rel.trans ?_ H3.out | with_reducible refine Rel.trans ?_ H2.out | with_reducible refine Rel.trans ?_ H1.out))
  · have z1 := hP a (by omega); have z2 := hN' a (by omega); clear hN hP hN' hP' h1
    go_enter Try.func27, Try.ntmps27
    go_wp2_with fail
    with_reducible refine (V1.out _).mono ?_
    rintro e w1 ⟨rfl, h1⟩
    have q := keep2 h1 (b := w.heap.size) (by first | (simp; done) | (simp; omega) | omega)
    have kc1_0_0 := q.1
    have kc1_0_1 := q.2.1
    have kf1_0_0 := q.2.2.1
    have kf1_0_1 := q.2.2.2.1
    have kl1_0 := q.2.2.2.2.1
    have kn1_0 := q.2.2.2.2.2.1
    have km1_0 := q.2.2.2.2.2.2
    clear q
    have q := keep2 h1 (b := w.heap.size + 1) (by first | (simp; done) | (simp; omega) | omega)
    have kc1_1_0 := q.1
    have kc1_1_1 := q.2.1
    have kf1_1_0 := q.2.2.1
    have kf1_1_1 := q.2.2.2.1
    have kl1_1 := q.2.2.2.2.1
    have kn1_1 := q.2.2.2.2.2.1
    have km1_1 := q.2.2.2.2.2.2
    clear q
    have q := keep2 h1 (b := w.heap.size + 2) (by first | (simp; done) | (simp; omega) | omega)
    have kc1_2_0 := q.1
    have kc1_2_1 := q.2.1
    have kf1_2_0 := q.2.2.1
    have kf1_2_1 := q.2.2.2.1
    have kl1_2 := q.2.2.2.2.1
    have kn1_2 := q.2.2.2.2.2.1
    have km1_2 := q.2.2.2.2.2.2
    clear q
    have kz1 := h1.size
    (try simp only [World.size_alloc, World.size_setCell, World.size_drew] at kz1)
    have H1 := Lib.hid h1
    clear h1
    go_wp2_with fail
    with_reducible refine (V2.out _).mono ?_
    rintro e w2 ⟨rfl, h2⟩
    have q := keep2 h2 (b := w.heap.size) (by first | (simp; done) | (simp; omega) | omega)
    have kc2_0_0 := q.1
    have kc2_0_1 := q.2.1
    have kf2_0_0 := q.2.2.1
    have kf2_0_1 := q.2.2.2.1
    have kl2_0 := q.2.2.2.2.1
    have kn2_0 := q.2.2.2.2.2.1
    have km2_0 := q.2.2.2.2.2.2
    clear q
    have q := keep2 h2 (b := w.heap.size + 1) (by first | (simp; done) | (simp; omega) | omega)
    have kc2_1_0 := q.1
    have kc2_1_1 := q.2.1
    have kf2_1_0 := q.2.2.1
    have kf2_1_1 := q.2.2.2.1
    have kl2_1 := q.2.2.2.2.1
    have kn2_1 := q.2.2.2.2.2.1
    have km2_1 := q.2.2.2.2.2.2
    clear q
    have q := keep2 h2 (b := w.heap.size + 2) (by first | (simp; done) | (simp; omega) | omega)
    have kc2_2_0 := q.1
    have kc2_2_1 := q.2.1
    have kf2_2_0 := q.2.2.1
    have kf2_2_1 := q.2.2.2.1
    have kl2_2 := q.2.2.2.2.1
    have kn2_2 := q.2.2.2.2.2.1
    have km2_2 := q.2.2.2.2.2.2
    clear q
    have kz2 := h2.size
    (try simp only [World.size_alloc, World.size_setCell, World.size_drew] at kz2)
    have H2 := Lib.hid h2
    clear h2
    go_wp2_with fail
    refine wp_region_calm (fun _ w' => w'.cell? { block := w.heap.size, off := 0 } = some (.int .i64 a) ∧ w'.cell? { block := w.heap.size, off := 1 } = some (.int .i64 b) ∧ w'.cell? { block := w.heap.size + 1, off := 0 } = some (.int .i64 c) ∧ w'.cell? { block := w.heap.size + 1, off := 1 } = some (.int .i64 d)) (fun _ => false) [0, 1, 2, 3, 4, 5, 6, 7, 8, 9, 10, 11, 12, 13, 14, 15] 2 (by kernel_rfl) (by kernel_rfl) ?hst ?hS0 (fun w0 h0 => ?_)
    case hst => exact fun _ _ _ h r => ⟨r.cell h.1, r.cell h.2.1, r.cell h.2.2.1, r.cell h.2.2.2⟩
    case hS0 => exact ⟨by go_simp, by go_simp, by go_simp, by go_simp⟩
    iterate 3
      refine wpCalm_go rfl (by kernel_rfl) (fun K hK => ?_)
      apply Exists.intro
      refine ⟨fun M w hM hS => ?_, hK _ ?_⟩
      · have c1 := hS.1
        have c2 := hS.2.1
        have c3 := hS.2.2.1
        have c4 := hS.2.2.2
        unfold calmAt
        go_simp
        exact ⟨rfl, Rel.refl _⟩
      clear hK K
    refine wpCalm_go rfl (by kernel_rfl) (fun K hK => ?_)
    apply Exists.intro
    refine ⟨fun M w hM hS => ?_, hK _ ?_⟩
    · have c1 := hS.1
      have c2 := hS.2.1
      have c3 := hS.2.2.1
      have c4 := hS.2.2.2
      unfold calmAt
      go_simp
      with_reducible refine (S1.out _).mono ?_
      rintro e w1 ⟨rfl, rfl⟩
      exact ⟨rfl, Rel.refl _⟩
    clear hK K
    iterate 2
      refine wpCalm_go rfl (by kernel_rfl) (fun K hK => ?_)
      apply Exists.intro
      refine ⟨fun M w hM hS => ?_, hK _ ?_⟩
      · have c1 := hS.1
        have c2 := hS.2.1
        have c3 := hS.2.2.1
        have c4 := hS.2.2.2
        unfold calmAt
        go_simp
        exact ⟨rfl, Rel.refl _⟩
      clear hK K
    refine wpCalm_go rfl (by kernel_rfl) (fun K hK => ?_)
    apply Exists.intro
    refine ⟨fun M w hM hS => ?_, hK _ ?_⟩
    · have c1 := hS.1
      have c2 := hS.2.1
      have c3 := hS.2.2.1
      have c4 := hS.2.2.2
      unfold calmAt
      go_simp
      with_reducible refine (S2.out _).mono ?_
      rintro e w1 ⟨rfl, rfl⟩
      exact ⟨rfl, Rel.refl _⟩
    clear hK K
    iterate 2
      refine wpCalm_go rfl (by kernel_rfl) (fun K hK => ?_)
      apply Exists.intro
      refine ⟨fun M w hM hS => ?_, hK _ ?_⟩
      · have c1 := hS.1
        have c2 := hS.2.1
        have c3 := hS.2.2.1
        have c4 := hS.2.2.2
        unfold calmAt
        go_simp
        exact ⟨rfl, Rel.refl _⟩
      clear hK K
    refine wpCalm_go rfl (by kernel_rfl) (fun K hK => ?_)
    apply Exists.intro
    refine ⟨fun M w hM hS => ?_, hK _ ?_⟩
    · have c1 := hS.1
      have c2 := hS.2.1
      have c3 := hS.2.2.1
      have c4 := hS.2.2.2
      unfold calmAt
      go_simp
      with_reducible refine (S3.out _).mono ?_
      rintro e w1 ⟨rfl, rfl⟩
      exact ⟨rfl, Rel.refl _⟩
    clear hK K
    iterate 2
      refine wpCalm_go rfl (by kernel_rfl) (fun K hK => ?_)
      apply Exists.intro
      refine ⟨fun M w hM hS => ?_, hK _ ?_⟩
      · have c1 := hS.1
        have c2 := hS.2.1
        have c3 := hS.2.2.1
        have c4 := hS.2.2.2
        unfold calmAt
        go_simp
        exact ⟨rfl, Rel.refl _⟩
      clear hK K
    refine wpCalm_go rfl (by kernel_rfl) (fun K hK => ?_)
    apply Exists.intro
    refine ⟨fun M w hM hS => ?_, hK _ ?_⟩
    · have c1 := hS.1
      have c2 := hS.2.1
      have c3 := hS.2.2.1
      have c4 := hS.2.2.2
      unfold calmAt
      go_simp
      with_reducible refine (S4.out _).mono ?_
      rintro e w1 ⟨rfl, rfl⟩
      exact ⟨rfl, Rel.refl _⟩
    clear hK K
    refine wpCalm_go rfl (by kernel_rfl) (fun K hK => ?_)
    apply Exists.intro
    refine ⟨fun M w hM hS => ?_, hK _ ?_⟩
    · unfold calmAt
      go_simp
      with_reducible refine (hQ.out _).mono ?_
      rintro e w1 ⟨rfl, hb⟩
      exact ⟨rfl, hb⟩
    clear hK K
    iterate 2
      refine wpCalm_go rfl (by kernel_rfl) (fun K hK => ?_)
      apply Exists.intro
      refine ⟨fun M w hM hS => ?_, hK _ ?_⟩
      · unfold calmAt
        go_simp
        exact ⟨rfl, Rel.refl _⟩
      clear hK K
    refine wpCalm_nil ?_
    have q := keep2 h0 (b := w.heap.size) (by first | (simp; done) | (simp; omega) | omega)
    have kc3_0_0 := q.1
    have kc3_0_1 := q.2.1
    have kf3_0_0 := q.2.2.1
    have kf3_0_1 := q.2.2.2.1
    have kl3_0 := q.2.2.2.2.1
    have kn3_0 := q.2.2.2.2.2.1
    have km3_0 := q.2.2.2.2.2.2
    clear q
    have q := keep2 h0 (b := w.heap.size + 1) (by first | (simp; done) | (simp; omega) | omega)
    have kc3_1_0 := q.1
    have kc3_1_1 := q.2.1
    have kf3_1_0 := q.2.2.1
    have kf3_1_1 := q.2.2.2.1
    have kl3_1 := q.2.2.2.2.1
    have kn3_1 := q.2.2.2.2.2.1
    have km3_1 := q.2.2.2.2.2.2
    clear q
    have q := keep2 h0 (b := w.heap.size + 2) (by first | (simp; done) | (simp; omega) | omega)
    have kc3_2_0 := q.1
    have kc3_2_1 := q.2.1
    have kf3_2_0 := q.2.2.1
    have kf3_2_1 := q.2.2.2.1
    have kl3_2 := q.2.2.2.2.1
    have kn3_2 := q.2.2.2.2.2.1
    have km3_2 := q.2.2.2.2.2.2
    clear q
    have kz3 := h0.size
    (try simp only [World.size_alloc, World.size_setCell, World.size_drew] at kz3)
    have H3 := Lib.hid h0
    clear h0
    refine wpAnyR_ready (rs := [16]) (by kernel_rfl) (by simp) (AllR.cons rfl (fun w4 h4 K' hK' => ?_) AllR.nil)
    have q := keep2 h4 (b := w.heap.size) (by first | (simp; done) | (simp; omega) | omega)
    have kc4_0_0 := q.1
    have kc4_0_1 := q.2.1
    have kf4_0_0 := q.2.2.1
    have kf4_0_1 := q.2.2.2.1
    have kl4_0 := q.2.2.2.2.1
    have kn4_0 := q.2.2.2.2.2.1
    have km4_0 := q.2.2.2.2.2.2
    clear q
    have q := keep2 h4 (b := w.heap.size + 1) (by first | (simp; done) | (simp; omega) | omega)
    have kc4_1_0 := q.1
    have kc4_1_1 := q.2.1
    have kf4_1_0 := q.2.2.1
    have kf4_1_1 := q.2.2.2.1
    have kl4_1 := q.2.2.2.2.1
    have kn4_1 := q.2.2.2.2.2.1
    have km4_1 := q.2.2.2.2.2.2
    clear q
    have q := keep2 h4 (b := w.heap.size + 2) (by first | (simp; done) | (simp; omega) | omega)
    have kc4_2_0 := q.1
    have kc4_2_1 := q.2.1
    have kf4_2_0 := q.2.2.1
    have kf4_2_1 := q.2.2.2.1
    have kl4_2 := q.2.2.2.2.1
    have kn4_2 := q.2.2.2.2.2.1
    have km4_2 := q.2.2.2.2.2.2
    clear q
    have kz4 := h4.size
    (try simp only [World.size_alloc, World.size_setCell, World.size_drew] at kz4)
    have H4 := Lib.hid h4
    clear h4
    go_simp
    refine hK'.out _ _ ⟨by go_simp, by go_simp, by go_simp, by go_simp⟩ ?_
    clear hK' K'
    refine wpAnyR_ready (rs := [17]) (by kernel_rfl) (by simp) (AllR.cons rfl (fun w5 h5 K' hK' => ?_) AllR.nil)
    have q := keep2 h5 (b := w.heap.size) (by first | (simp; done) | (simp; omega) | omega)
    have kc5_0_0 := q.1
    have kc5_0_1 := q.2.1
    have kf5_0_0 := q.2.2.1
    have kf5_0_1 := q.2.2.2.1
    have kl5_0 := q.2.2.2.2.1
    have kn5_0 := q.2.2.2.2.2.1
    have km5_0 := q.2.2.2.2.2.2
    clear q
    have q := keep2 h5 (b := w.heap.size + 1) (by first | (simp; done) | (simp; omega) | omega)
    have kc5_1_0 := q.1
    have kc5_1_1 := q.2.1
    have kf5_1_0 := q.2.2.1
    have kf5_1_1 := q.2.2.2.1
    have kl5_1 := q.2.2.2.2.1
    have kn5_1 := q.2.2.2.2.2.1
    have km5_1 := q.2.2.2.2.2.2
    clear q
    have q := keep2 h5 (b := w.heap.size + 2) (by first | (simp; done) | (simp; omega) | omega)
    have kc5_2_0 := q.1
    have kc5_2_1 := q.2.1
    have kf5_2_0 := q.2.2.1
    have kf5_2_1 := q.2.2.2.1
    have kl5_2 := q.2.2.2.2.1
    have kn5_2 := q.2.2.2.2.2.1
    have km5_2 := q.2.2.2.2.2.2
    clear q
    have kz5 := h5.size
    (try simp only [World.size_alloc, World.size_setCell, World.size_drew] at kz5)
    have H5 := Lib.hid h5
    clear h5
    go_simp
    refine hK'.out _ _ ⟨by go_simp, by go_simp, by go_simp, by go_simp⟩ ?_
    clear hK' K'
    refine wpAnyR_end (by kernel_rfl) (fun w6 h6 => ?_)
    (try simp only [Act.put, List.setIfInBounds_toArray, List.set_cons_zero, List.set_cons_succ])
    have q := keep2 h6 (b := w.heap.size) (by first | (simp; done) | (simp; omega) | omega)
    have kc6_0_0 := q.1
    have kc6_0_1 := q.2.1
    have kf6_0_0 := q.2.2.1
    have kf6_0_1 := q.2.2.2.1
    have kl6_0 := q.2.2.2.2.1
    have kn6_0 := q.2.2.2.2.2.1
    have km6_0 := q.2.2.2.2.2.2
    clear q
    have q := keep2 h6 (b := w.heap.size + 1) (by first | (simp; done) | (simp; omega) | omega)
    have kc6_1_0 := q.1
    have kc6_1_1 := q.2.1
    have kf6_1_0 := q.2.2.1
    have kf6_1_1 := q.2.2.2.1
    have kl6_1 := q.2.2.2.2.1
    have kn6_1 := q.2.2.2.2.2.1
    have km6_1 := q.2.2.2.2.2.2
    clear q
    have q := keep2 h6 (b := w.heap.size + 2) (by first | (simp; done) | (simp; omega) | omega)
    have kc6_2_0 := q.1
    have kc6_2_1 := q.2.1
    have kf6_2_0 := q.2.2.1
    have kf6_2_1 := q.2.2.2.1
    have kl6_2 := q.2.2.2.2.1
    have kn6_2 := q.2.2.2.2.2.1
    have km6_2 := q.2.2.2.2.2.2
    clear q
    have kz6 := h6.size
    (try simp only [World.size_alloc, World.size_setCell, World.size_drew] at kz6)
    have H6 := Lib.hid h6
    clear h6
    go_wp2
    refine bodyPost_ret ?_ rfl ⟨rfl, ?_⟩
    · simp [results, Try.results27, go_sem, kc6_2_0, kc6_2_1, kl6_2, kc5_2_0, kc5_2_1, kl5_2, kc4_2_0, kc4_2_1, kl4_2, kc3_2_0, kc3_2_1, kl3_2, kc2_2_0, kc2_2_1, kl2_2, kc1_2_0, kc1_2_1, kl1_2]
    · (repeat (first | with_reducible exact Rel.refl _ | with_reducible refine Rel.alloc ?_ _ | with_reducible refine Rel.setCell ?_ (by first | (simp; done) | (simp; omega)) _ | with_reducible refine Rel.drew ?_ | with_reducible refine Rel.trans ?_ H6.out | with_reducible refine Rel.trans ?_ H5.out | with_reducible refine Rel.trans ?_ H4.out | with_reducible refine Rel.trans ?_ H3.out | with_reducible refine Rel.trans ?_ H2.out | with_reducible refine Rel.trans ?_ H1.out))
  · have z1 := hP a (by omega); have z2 := hP' a h1; have z3 := hN c h2; have z4 := hN' c (by omega); clear hN hP hN' hP'
    go_enter Try.func27, Try.ntmps27
    go_wp2_with fail
    with_reducible refine (V1.out _).mono ?_
    rintro e w1 ⟨rfl, h1⟩
    have q := keep2 h1 (b := w.heap.size) (by first | (simp; done) | (simp; omega) | omega)
    have kc1_0_0 := q.1
    have kc1_0_1 := q.2.1
    have kf1_0_0 := q.2.2.1
    have kf1_0_1 := q.2.2.2.1
    have kl1_0 := q.2.2.2.2.1
    have kn1_0 := q.2.2.2.2.2.1
    have km1_0 := q.2.2.2.2.2.2
    clear q
    have q := keep2 h1 (b := w.heap.size + 1) (by first | (simp; done) | (simp; omega) | omega)
    have kc1_1_0 := q.1
    have kc1_1_1 := q.2.1
    have kf1_1_0 := q.2.2.1
    have kf1_1_1 := q.2.2.2.1
    have kl1_1 := q.2.2.2.2.1
    have kn1_1 := q.2.2.2.2.2.1
    have km1_1 := q.2.2.2.2.2.2
    clear q
    have q := keep2 h1 (b := w.heap.size + 2) (by first | (simp; done) | (simp; omega) | omega)
    have kc1_2_0 := q.1
    have kc1_2_1 := q.2.1
    have kf1_2_0 := q.2.2.1
    have kf1_2_1 := q.2.2.2.1
    have kl1_2 := q.2.2.2.2.1
    have kn1_2 := q.2.2.2.2.2.1
    have km1_2 := q.2.2.2.2.2.2
    clear q
    have kz1 := h1.size
    (try simp only [World.size_alloc, World.size_setCell, World.size_drew] at kz1)
    have H1 := Lib.hid h1
    clear h1
    go_wp2_with fail
    with_reducible refine (V2.out _).mono ?_
    rintro e w2 ⟨rfl, h2⟩
    have q := keep2 h2 (b := w.heap.size) (by first | (simp; done) | (simp; omega) | omega)
    have kc2_0_0 := q.1
    have kc2_0_1 := q.2.1
    have kf2_0_0 := q.2.2.1
    have kf2_0_1 := q.2.2.2.1
    have kl2_0 := q.2.2.2.2.1
    have kn2_0 := q.2.2.2.2.2.1
    have km2_0 := q.2.2.2.2.2.2
    clear q
    have q := keep2 h2 (b := w.heap.size + 1) (by first | (simp; done) | (simp; omega) | omega)
    have kc2_1_0 := q.1
    have kc2_1_1 := q.2.1
    have kf2_1_0 := q.2.2.1
    have kf2_1_1 := q.2.2.2.1
    have kl2_1 := q.2.2.2.2.1
    have kn2_1 := q.2.2.2.2.2.1
    have km2_1 := q.2.2.2.2.2.2
    clear q
    have q := keep2 h2 (b := w.heap.size + 2) (by first | (simp; done) | (simp; omega) | omega)
    have kc2_2_0 := q.1
    have kc2_2_1 := q.2.1
    have kf2_2_0 := q.2.2.1
    have kf2_2_1 := q.2.2.2.1
    have kl2_2 := q.2.2.2.2.1
    have kn2_2 := q.2.2.2.2.2.1
    have km2_2 := q.2.2.2.2.2.2
    clear q
    have kz2 := h2.size
    (try simp only [World.size_alloc, World.size_setCell, World.size_drew] at kz2)
    have H2 := Lib.hid h2
    clear h2
    go_wp2_with fail
    refine wp_region_calm (fun _ w' => w'.cell? { block := w.heap.size, off := 0 } = some (.int .i64 a) ∧ w'.cell? { block := w.heap.size, off := 1 } = some (.int .i64 b) ∧ w'.cell? { block := w.heap.size + 1, off := 0 } = some (.int .i64 c) ∧ w'.cell? { block := w.heap.size + 1, off := 1 } = some (.int .i64 d)) (fun _ => false) [0, 1, 2, 3, 4, 5, 6, 7, 8, 9, 10, 11, 12, 13, 14, 15] 2 (by kernel_rfl) (by kernel_rfl) ?hst ?hS0 (fun w0 h0 => ?_)
    case hst => exact fun _ _ _ h r => ⟨r.cell h.1, r.cell h.2.1, r.cell h.2.2.1, r.cell h.2.2.2⟩
    case hS0 => exact ⟨by go_simp, by go_simp, by go_simp, by go_simp⟩
    iterate 3
      refine wpCalm_go rfl (by kernel_rfl) (fun K hK => ?_)
      apply Exists.intro
      refine ⟨fun M w hM hS => ?_, hK _ ?_⟩
      · have c1 := hS.1
        have c2 := hS.2.1
        have c3 := hS.2.2.1
        have c4 := hS.2.2.2
        unfold calmAt
        go_simp
        exact ⟨rfl, Rel.refl _⟩
      clear hK K
    refine wpCalm_go rfl (by kernel_rfl) (fun K hK => ?_)
    apply Exists.intro
    refine ⟨fun M w hM hS => ?_, hK _ ?_⟩
    · have c1 := hS.1
      have c2 := hS.2.1
      have c3 := hS.2.2.1
      have c4 := hS.2.2.2
      unfold calmAt
      go_simp
      with_reducible refine (S1.out _).mono ?_
      rintro e w1 ⟨rfl, rfl⟩
      exact ⟨rfl, Rel.refl _⟩
    clear hK K
    iterate 2
      refine wpCalm_go rfl (by kernel_rfl) (fun K hK => ?_)
      apply Exists.intro
      refine ⟨fun M w hM hS => ?_, hK _ ?_⟩
      · have c1 := hS.1
        have c2 := hS.2.1
        have c3 := hS.2.2.1
        have c4 := hS.2.2.2
        unfold calmAt
        go_simp
        exact ⟨rfl, Rel.refl _⟩
      clear hK K
    refine wpCalm_go rfl (by kernel_rfl) (fun K hK => ?_)
    apply Exists.intro
    refine ⟨fun M w hM hS => ?_, hK _ ?_⟩
    · have c1 := hS.1
      have c2 := hS.2.1
      have c3 := hS.2.2.1
      have c4 := hS.2.2.2
      unfold calmAt
      go_simp
      with_reducible refine (S2.out _).mono ?_
      rintro e w1 ⟨rfl, rfl⟩
      exact ⟨rfl, Rel.refl _⟩
    clear hK K
    iterate 2
      refine wpCalm_go rfl (by kernel_rfl) (fun K hK => ?_)
      apply Exists.intro
      refine ⟨fun M w hM hS => ?_, hK _ ?_⟩
      · have c1 := hS.1
        have c2 := hS.2.1
        have c3 := hS.2.2.1
        have c4 := hS.2.2.2
        unfold calmAt
        go_simp
        exact ⟨rfl, Rel.refl _⟩
      clear hK K
    refine wpCalm_go rfl (by kernel_rfl) (fun K hK => ?_)
    apply Exists.intro
    refine ⟨fun M w hM hS => ?_, hK _ ?_⟩
    · have c1 := hS.1
      have c2 := hS.2.1
      have c3 := hS.2.2.1
      have c4 := hS.2.2.2
      unfold calmAt
      go_simp
      with_reducible refine (S3.out _).mono ?_
      rintro e w1 ⟨rfl, rfl⟩
      exact ⟨rfl, Rel.refl _⟩
    clear hK K
    iterate 2
      refine wpCalm_go rfl (by kernel_rfl) (fun K hK => ?_)
      apply Exists.intro
      refine ⟨fun M w hM hS => ?_, hK _ ?_⟩
      · have c1 := hS.1
        have c2 := hS.2.1
        have c3 := hS.2.2.1
        have c4 := hS.2.2.2
        unfold calmAt
        go_simp
        exact ⟨rfl, Rel.refl _⟩
      clear hK K
    refine wpCalm_go rfl (by kernel_rfl) (fun K hK => ?_)
    apply Exists.intro
    refine ⟨fun M w hM hS => ?_, hK _ ?_⟩
    · have c1 := hS.1
      have c2 := hS.2.1
      have c3 := hS.2.2.1
      have c4 := hS.2.2.2
      unfold calmAt
      go_simp
      with_reducible refine (S4.out _).mono ?_
      rintro e w1 ⟨rfl, rfl⟩
      exact ⟨rfl, Rel.refl _⟩
    clear hK K
    refine wpCalm_go rfl (by kernel_rfl) (fun K hK => ?_)
    apply Exists.intro
    refine ⟨fun M w hM hS => ?_, hK _ ?_⟩
    · unfold calmAt
      go_simp
      with_reducible refine (hQ.out _).mono ?_
      rintro e w1 ⟨rfl, hb⟩
      exact ⟨rfl, hb⟩
    clear hK K
    iterate 2
      refine wpCalm_go rfl (by kernel_rfl) (fun K hK => ?_)
      apply Exists.intro
      refine ⟨fun M w hM hS => ?_, hK _ ?_⟩
      · unfold calmAt
        go_simp
        exact ⟨rfl, Rel.refl _⟩
      clear hK K
    refine wpCalm_nil ?_
    have q := keep2 h0 (b := w.heap.size) (by first | (simp; done) | (simp; omega) | omega)
    have kc3_0_0 := q.1
    have kc3_0_1 := q.2.1
    have kf3_0_0 := q.2.2.1
    have kf3_0_1 := q.2.2.2.1
    have kl3_0 := q.2.2.2.2.1
    have kn3_0 := q.2.2.2.2.2.1
    have km3_0 := q.2.2.2.2.2.2
    clear q
    have q := keep2 h0 (b := w.heap.size + 1) (by first | (simp; done) | (simp; omega) | omega)
    have kc3_1_0 := q.1
    have kc3_1_1 := q.2.1
    have kf3_1_0 := q.2.2.1
    have kf3_1_1 := q.2.2.2.1
    have kl3_1 := q.2.2.2.2.1
    have kn3_1 := q.2.2.2.2.2.1
    have km3_1 := q.2.2.2.2.2.2
    clear q
    have q := keep2 h0 (b := w.heap.size + 2) (by first | (simp; done) | (simp; omega) | omega)
    have kc3_2_0 := q.1
    have kc3_2_1 := q.2.1
    have kf3_2_0 := q.2.2.1
    have kf3_2_1 := q.2.2.2.1
    have kl3_2 := q.2.2.2.2.1
    have kn3_2 := q.2.2.2.2.2.1
    have km3_2 := q.2.2.2.2.2.2
    clear q
    have kz3 := h0.size
    (try simp only [World.size_alloc, World.size_setCell, World.size_drew] at kz3)
    have H3 := Lib.hid h0
    clear h0
    refine wpAnyR_ready (rs := [16]) (by kernel_rfl) (by simp) (AllR.cons rfl (fun w4 h4 K' hK' => ?_) AllR.nil)
    have q := keep2 h4 (b := w.heap.size) (by first | (simp; done) | (simp; omega) | omega)
    have kc4_0_0 := q.1
    have kc4_0_1 := q.2.1
    have kf4_0_0 := q.2.2.1
    have kf4_0_1 := q.2.2.2.1
    have kl4_0 := q.2.2.2.2.1
    have kn4_0 := q.2.2.2.2.2.1
    have km4_0 := q.2.2.2.2.2.2
    clear q
    have q := keep2 h4 (b := w.heap.size + 1) (by first | (simp; done) | (simp; omega) | omega)
    have kc4_1_0 := q.1
    have kc4_1_1 := q.2.1
    have kf4_1_0 := q.2.2.1
    have kf4_1_1 := q.2.2.2.1
    have kl4_1 := q.2.2.2.2.1
    have kn4_1 := q.2.2.2.2.2.1
    have km4_1 := q.2.2.2.2.2.2
    clear q
    have q := keep2 h4 (b := w.heap.size + 2) (by first | (simp; done) | (simp; omega) | omega)
    have kc4_2_0 := q.1
    have kc4_2_1 := q.2.1
    have kf4_2_0 := q.2.2.1
    have kf4_2_1 := q.2.2.2.1
    have kl4_2 := q.2.2.2.2.1
    have kn4_2 := q.2.2.2.2.2.1
    have km4_2 := q.2.2.2.2.2.2
    clear q
    have kz4 := h4.size
    (try simp only [World.size_alloc, World.size_setCell, World.size_drew] at kz4)
    have H4 := Lib.hid h4
    clear h4
    go_simp
    refine hK'.out _ _ ⟨by go_simp, by go_simp, by go_simp, by go_simp⟩ ?_
    clear hK' K'
    refine wpAnyR_ready (rs := [17]) (by kernel_rfl) (by simp) (AllR.cons rfl (fun w5 h5 K' hK' => ?_) AllR.nil)
    have q := keep2 h5 (b := w.heap.size) (by first | (simp; done) | (simp; omega) | omega)
    have kc5_0_0 := q.1
    have kc5_0_1 := q.2.1
    have kf5_0_0 := q.2.2.1
    have kf5_0_1 := q.2.2.2.1
    have kl5_0 := q.2.2.2.2.1
    have kn5_0 := q.2.2.2.2.2.1
    have km5_0 := q.2.2.2.2.2.2
    clear q
    have q := keep2 h5 (b := w.heap.size + 1) (by first | (simp; done) | (simp; omega) | omega)
    have kc5_1_0 := q.1
    have kc5_1_1 := q.2.1
    have kf5_1_0 := q.2.2.1
    have kf5_1_1 := q.2.2.2.1
    have kl5_1 := q.2.2.2.2.1
    have kn5_1 := q.2.2.2.2.2.1
    have km5_1 := q.2.2.2.2.2.2
    clear q
    have q := keep2 h5 (b := w.heap.size + 2) (by first | (simp; done) | (simp; omega) | omega)
    have kc5_2_0 := q.1
    have kc5_2_1 := q.2.1
    have kf5_2_0 := q.2.2.1
    have kf5_2_1 := q.2.2.2.1
    have kl5_2 := q.2.2.2.2.1
    have kn5_2 := q.2.2.2.2.2.1
    have km5_2 := q.2.2.2.2.2.2
    clear q
    have kz5 := h5.size
    (try simp only [World.size_alloc, World.size_setCell, World.size_drew] at kz5)
    have H5 := Lib.hid h5
    clear h5
    go_simp
    refine hK'.out _ _ ⟨by go_simp, by go_simp, by go_simp, by go_simp⟩ ?_
    clear hK' K'
    refine wpAnyR_end (by kernel_rfl) (fun w6 h6 => ?_)
    (try simp only [Act.put, List.setIfInBounds_toArray, List.set_cons_zero, List.set_cons_succ])
    have q := keep2 h6 (b := w.heap.size) (by first | (simp; done) | (simp; omega) | omega)
    have kc6_0_0 := q.1
    have kc6_0_1 := q.2.1
    have kf6_0_0 := q.2.2.1
    have kf6_0_1 := q.2.2.2.1
    have kl6_0 := q.2.2.2.2.1
    have kn6_0 := q.2.2.2.2.2.1
    have km6_0 := q.2.2.2.2.2.2
    clear q
    have q := keep2 h6 (b := w.heap.size + 1) (by first | (simp; done) | (simp; omega) | omega)
    have kc6_1_0 := q.1
    have kc6_1_1 := q.2.1
    have kf6_1_0 := q.2.2.1
    have kf6_1_1 := q.2.2.2.1
    have kl6_1 := q.2.2.2.2.1
    have kn6_1 := q.2.2.2.2.2.1
    have km6_1 := q.2.2.2.2.2.2
    clear q
    have q := keep2 h6 (b := w.heap.size + 2) (by first | (simp; done) | (simp; omega) | omega)
    have kc6_2_0 := q.1
    have kc6_2_1 := q.2.1
    have kf6_2_0 := q.2.2.1
    have kf6_2_1 := q.2.2.2.1
    have kl6_2 := q.2.2.2.2.1
    have kn6_2 := q.2.2.2.2.2.1
    have km6_2 := q.2.2.2.2.2.2
    clear q
    have kz6 := h6.size
    (try simp only [World.size_alloc, World.size_setCell, World.size_drew] at kz6)
    have H6 := Lib.hid h6
    clear h6
    go_wp2
    refine bodyPost_ret ?_ rfl ⟨rfl, ?_⟩
    · simp [results, Try.results27, go_sem, kc6_2_0, kc6_2_1, kl6_2, kc5_2_0, kc5_2_1, kl5_2, kc4_2_0, kc4_2_1, kl4_2, kc3_2_0, kc3_2_1, kl3_2, kc2_2_0, kc2_2_1, kl2_2, kc1_2_0, kc1_2_1, kl1_2]
    · (repeat (first | with_reducible exact Rel.refl _ | with_reducible refine Rel.alloc ?_ _ | with_reducible refine Rel.setCell ?_ (by first | (simp; done) | (simp; omega)) _ | with_reducible refine Rel.drew ?_ | with_reducible refine Rel.trans ?_ H6.out | with_reducible refine Rel.trans ?_ H5.out | with_reducible refine Rel.trans ?_ H4.out | with_reducible refine Rel.trans ?_ H3.out | with_reducible refine Rel.trans ?_ H2.out | with_reducible refine Rel.trans ?_ H1.out))
  · have z1 := hP a (by omega); have z2 := hP' a h1; have z3 := hP c h2; clear hN hP hN' hP'
    go_enter Try.func27, Try.ntmps27
    go_wp2_with fail
    with_reducible refine (V1.out _).mono ?_
    rintro e w1 ⟨rfl, h1⟩
    have q := keep2 h1 (b := w.heap.size) (by first | (simp; done) | (simp; omega) | omega)
    have kc1_0_0 := q.1
    have kc1_0_1 := q.2.1
    have kf1_0_0 := q.2.2.1
    have kf1_0_1 := q.2.2.2.1
    have kl1_0 := q.2.2.2.2.1
    have kn1_0 := q.2.2.2.2.2.1
    have km1_0 := q.2.2.2.2.2.2
    clear q
    have q := keep2 h1 (b := w.heap.size + 1) (by first | (simp; done) | (simp; omega) | omega)
    have kc1_1_0 := q.1
    have kc1_1_1 := q.2.1
    have kf1_1_0 := q.2.2.1
    have kf1_1_1 := q.2.2.2.1
    have kl1_1 := q.2.2.2.2.1
    have kn1_1 := q.2.2.2.2.2.1
    have km1_1 := q.2.2.2.2.2.2
    clear q
    have q := keep2 h1 (b := w.heap.size + 2) (by first | (simp; done) | (simp; omega) | omega)
    have kc1_2_0 := q.1
    have kc1_2_1 := q.2.1
    have kf1_2_0 := q.2.2.1
    have kf1_2_1 := q.2.2.2.1
    have kl1_2 := q.2.2.2.2.1
    have kn1_2 := q.2.2.2.2.2.1
    have km1_2 := q.2.2.2.2.2.2
    clear q
    have kz1 := h1.size
    (try simp only [World.size_alloc, World.size_setCell, World.size_drew] at kz1)
    have H1 := Lib.hid h1
    clear h1
    go_wp2_with fail
    with_reducible refine (V2.out _).mono ?_
    rintro e w2 ⟨rfl, h2⟩
    have q := keep2 h2 (b := w.heap.size) (by first | (simp; done) | (simp; omega) | omega)
    have kc2_0_0 := q.1
    have kc2_0_1 := q.2.1
    have kf2_0_0 := q.2.2.1
    have kf2_0_1 := q.2.2.2.1
    have kl2_0 := q.2.2.2.2.1
    have kn2_0 := q.2.2.2.2.2.1
    have km2_0 := q.2.2.2.2.2.2
    clear q
    have q := keep2 h2 (b := w.heap.size + 1) (by first | (simp; done) | (simp; omega) | omega)
    have kc2_1_0 := q.1
    have kc2_1_1 := q.2.1
    have kf2_1_0 := q.2.2.1
    have kf2_1_1 := q.2.2.2.1
    have kl2_1 := q.2.2.2.2.1
    have kn2_1 := q.2.2.2.2.2.1
    have km2_1 := q.2.2.2.2.2.2
    clear q
    have q := keep2 h2 (b := w.heap.size + 2) (by first | (simp; done) | (simp; omega) | omega)
    have kc2_2_0 := q.1
    have kc2_2_1 := q.2.1
    have kf2_2_0 := q.2.2.1
    have kf2_2_1 := q.2.2.2.1
    have kl2_2 := q.2.2.2.2.1
    have kn2_2 := q.2.2.2.2.2.1
    have km2_2 := q.2.2.2.2.2.2
    clear q
    have kz2 := h2.size
    (try simp only [World.size_alloc, World.size_setCell, World.size_drew] at kz2)
    have H2 := Lib.hid h2
    clear h2
    go_wp2_with fail
    refine wp_region_calm (fun _ w' => w'.cell? { block := w.heap.size, off := 0 } = some (.int .i64 a) ∧ w'.cell? { block := w.heap.size, off := 1 } = some (.int .i64 b) ∧ w'.cell? { block := w.heap.size + 1, off := 0 } = some (.int .i64 c) ∧ w'.cell? { block := w.heap.size + 1, off := 1 } = some (.int .i64 d)) (fun _ => false) [0, 1, 2, 3, 4, 5, 6, 7, 8, 9, 10, 11, 12, 13, 14, 15] 2 (by kernel_rfl) (by kernel_rfl) ?hst ?hS0 (fun w0 h0 => ?_)
    case hst => exact fun _ _ _ h r => ⟨r.cell h.1, r.cell h.2.1, r.cell h.2.2.1, r.cell h.2.2.2⟩
    case hS0 => exact ⟨by go_simp, by go_simp, by go_simp, by go_simp⟩
    iterate 3
      refine wpCalm_go rfl (by kernel_rfl) (fun K hK => ?_)
      apply Exists.intro
      refine ⟨fun M w hM hS => ?_, hK _ ?_⟩
      · have c1 := hS.1
        have c2 := hS.2.1
        have c3 := hS.2.2.1
        have c4 := hS.2.2.2
        unfold calmAt
        go_simp
        exact ⟨rfl, Rel.refl _⟩
      clear hK K
    refine wpCalm_go rfl (by kernel_rfl) (fun K hK => ?_)
    apply Exists.intro
    refine ⟨fun M w hM hS => ?_, hK _ ?_⟩
    · have c1 := hS.1
      have c2 := hS.2.1
      have c3 := hS.2.2.1
      have c4 := hS.2.2.2
      unfold calmAt
      go_simp
      with_reducible refine (S1.out _).mono ?_
      rintro e w1 ⟨rfl, rfl⟩
      exact ⟨rfl, Rel.refl _⟩
    clear hK K
    iterate 2
      refine wpCalm_go rfl (by kernel_rfl) (fun K hK => ?_)
      apply Exists.intro
      refine ⟨fun M w hM hS => ?_, hK _ ?_⟩
      · have c1 := hS.1
        have c2 := hS.2.1
        have c3 := hS.2.2.1
        have c4 := hS.2.2.2
        unfold calmAt
        go_simp
        exact ⟨rfl, Rel.refl _⟩
      clear hK K
    refine wpCalm_go rfl (by kernel_rfl) (fun K hK => ?_)
    apply Exists.intro
    refine ⟨fun M w hM hS => ?_, hK _ ?_⟩
    · have c1 := hS.1
      have c2 := hS.2.1
      have c3 := hS.2.2.1
      have c4 := hS.2.2.2
      unfold calmAt
      go_simp
      with_reducible refine (S2.out _).mono ?_
      rintro e w1 ⟨rfl, rfl⟩
      exact ⟨rfl, Rel.refl _⟩
    clear hK K
    iterate 2
      refine wpCalm_go rfl (by kernel_rfl) (fun K hK => ?_)
      apply Exists.intro
      refine ⟨fun M w hM hS => ?_, hK _ ?_⟩
      · have c1 := hS.1
        have c2 := hS.2.1
        have c3 := hS.2.2.1
        have c4 := hS.2.2.2
        unfold calmAt
        go_simp
        exact ⟨rfl, Rel.refl _⟩
      clear hK K
    refine wpCalm_go rfl (by kernel_rfl) (fun K hK => ?_)
    apply Exists.intro
    refine ⟨fun M w hM hS => ?_, hK _ ?_⟩
    · have c1 := hS.1
      have c2 := hS.2.1
      have c3 := hS.2.2.1
      have c4 := hS.2.2.2
      unfold calmAt
      go_simp
      with_reducible refine (S3.out _).mono ?_
      rintro e w1 ⟨rfl, rfl⟩
      exact ⟨rfl, Rel.refl _⟩
    clear hK K
    iterate 2
      refine wpCalm_go rfl (by kernel_rfl) (fun K hK => ?_)
      apply Exists.intro
      refine ⟨fun M w hM hS => ?_, hK _ ?_⟩
      · have c1 := hS.1
        have c2 := hS.2.1
        have c3 := hS.2.2.1
        have c4 := hS.2.2.2
        unfold calmAt
        go_simp
        exact ⟨rfl, Rel.refl _⟩
      clear hK K
    refine wpCalm_go rfl (by kernel_rfl) (fun K hK => ?_)
    apply Exists.intro
    refine ⟨fun M w hM hS => ?_, hK _ ?_⟩
    · have c1 := hS.1
      have c2 := hS.2.1
      have c3 := hS.2.2.1
      have c4 := hS.2.2.2
      unfold calmAt
      go_simp
      with_reducible refine (S4.out _).mono ?_
      rintro e w1 ⟨rfl, rfl⟩
      exact ⟨rfl, Rel.refl _⟩
    clear hK K
    refine wpCalm_go rfl (by kernel_rfl) (fun K hK => ?_)
    apply Exists.intro
    refine ⟨fun M w hM hS => ?_, hK _ ?_⟩
    · unfold calmAt
      go_simp
      with_reducible refine (hQ.out _).mono ?_
      rintro e w1 ⟨rfl, hb⟩
      exact ⟨rfl, hb⟩
    clear hK K
    iterate 2
      refine wpCalm_go rfl (by kernel_rfl) (fun K hK => ?_)
      apply Exists.intro
      refine ⟨fun M w hM hS => ?_, hK _ ?_⟩
      · unfold calmAt
        go_simp
        exact ⟨rfl, Rel.refl _⟩
      clear hK K
    refine wpCalm_nil ?_
    have q := keep2 h0 (b := w.heap.size) (by first | (simp; done) | (simp; omega) | omega)
    have kc3_0_0 := q.1
    have kc3_0_1 := q.2.1
    have kf3_0_0 := q.2.2.1
    have kf3_0_1 := q.2.2.2.1
    have kl3_0 := q.2.2.2.2.1
    have kn3_0 := q.2.2.2.2.2.1
    have km3_0 := q.2.2.2.2.2.2
    clear q
    have q := keep2 h0 (b := w.heap.size + 1) (by first | (simp; done) | (simp; omega) | omega)
    have kc3_1_0 := q.1
    have kc3_1_1 := q.2.1
    have kf3_1_0 := q.2.2.1
    have kf3_1_1 := q.2.2.2.1
    have kl3_1 := q.2.2.2.2.1
    have kn3_1 := q.2.2.2.2.2.1
    have km3_1 := q.2.2.2.2.2.2
    clear q
    have q := keep2 h0 (b := w.heap.size + 2) (by first | (simp; done) | (simp; omega) | omega)
    have kc3_2_0 := q.1
    have kc3_2_1 := q.2.1
    have kf3_2_0 := q.2.2.1
    have kf3_2_1 := q.2.2.2.1
    have kl3_2 := q.2.2.2.2.1
    have kn3_2 := q.2.2.2.2.2.1
    have km3_2 := q.2.2.2.2.2.2
    clear q
    have kz3 := h0.size
    (try simp only [World.size_alloc, World.size_setCell, World.size_drew] at kz3)
    have H3 := Lib.hid h0
    clear h0
    refine wpAnyR_ready (rs := [16]) (by kernel_rfl) (by simp) (AllR.cons rfl (fun w4 h4 K' hK' => ?_) AllR.nil)
    have q := keep2 h4 (b := w.heap.size) (by first | (simp; done) | (simp; omega) | omega)
    have kc4_0_0 := q.1
    have kc4_0_1 := q.2.1
    have kf4_0_0 := q.2.2.1
    have kf4_0_1 := q.2.2.2.1
    have kl4_0 := q.2.2.2.2.1
    have kn4_0 := q.2.2.2.2.2.1
    have km4_0 := q.2.2.2.2.2.2
    clear q
    have q := keep2 h4 (b := w.heap.size + 1) (by first | (simp; done) | (simp; omega) | omega)
    have kc4_1_0 := q.1
    have kc4_1_1 := q.2.1
    have kf4_1_0 := q.2.2.1
    have kf4_1_1 := q.2.2.2.1
    have kl4_1 := q.2.2.2.2.1
    have kn4_1 := q.2.2.2.2.2.1
    have km4_1 := q.2.2.2.2.2.2
    clear q
    have q := keep2 h4 (b := w.heap.size + 2) (by first | (simp; done) | (simp; omega) | omega)
    have kc4_2_0 := q.1
    have kc4_2_1 := q.2.1
    have kf4_2_0 := q.2.2.1
    have kf4_2_1 := q.2.2.2.1
    have kl4_2 := q.2.2.2.2.1
    have kn4_2 := q.2.2.2.2.2.1
    have km4_2 := q.2.2.2.2.2.2
    clear q
    have kz4 := h4.size
    (try simp only [World.size_alloc, World.size_setCell, World.size_drew] at kz4)
    have H4 := Lib.hid h4
    clear h4
    go_simp
    refine hK'.out _ _ ⟨by go_simp, by go_simp, by go_simp, by go_simp⟩ ?_
    clear hK' K'
    refine wpAnyR_ready (rs := [17]) (by kernel_rfl) (by simp) (AllR.cons rfl (fun w5 h5 K' hK' => ?_) AllR.nil)
    have q := keep2 h5 (b := w.heap.size) (by first | (simp; done) | (simp; omega) | omega)
    have kc5_0_0 := q.1
    have kc5_0_1 := q.2.1
    have kf5_0_0 := q.2.2.1
    have kf5_0_1 := q.2.2.2.1
    have kl5_0 := q.2.2.2.2.1
    have kn5_0 := q.2.2.2.2.2.1
    have km5_0 := q.2.2.2.2.2.2
    clear q
    have q := keep2 h5 (b := w.heap.size + 1) (by first | (simp; done) | (simp; omega) | omega)
    have kc5_1_0 := q.1
    have kc5_1_1 := q.2.1
    have kf5_1_0 := q.2.2.1
    have kf5_1_1 := q.2.2.2.1
    have kl5_1 := q.2.2.2.2.1
    have kn5_1 := q.2.2.2.2.2.1
    have km5_1 := q.2.2.2.2.2.2
    clear q
    have q := keep2 h5 (b := w.heap.size + 2) (by first | (simp; done) | (simp; omega) | omega)
    have kc5_2_0 := q.1
    have kc5_2_1 := q.2.1
    have kf5_2_0 := q.2.2.1
    have kf5_2_1 := q.2.2.2.1
    have kl5_2 := q.2.2.2.2.1
    have kn5_2 := q.2.2.2.2.2.1
    have km5_2 := q.2.2.2.2.2.2
    clear q
    have kz5 := h5.size
    (try simp only [World.size_alloc, World.size_setCell, World.size_drew] at kz5)
    have H5 := Lib.hid h5
    clear h5
    go_simp
    refine hK'.out _ _ ⟨by go_simp, by go_simp, by go_simp, by go_simp⟩ ?_
    clear hK' K'
    refine wpAnyR_end (by kernel_rfl) (fun w6 h6 => ?_)
    (try simp only [Act.put, List.setIfInBounds_toArray, List.set_cons_zero, List.set_cons_succ])
    have q := keep2 h6 (b := w.heap.size) (by first | (simp; done) | (simp; omega) | omega)
    have kc6_0_0 := q.1
    have kc6_0_1 := q.2.1
    have kf6_0_0 := q.2.2.1
    have kf6_0_1 := q.2.2.2.1
    have kl6_0 := q.2.2.2.2.1
    have kn6_0 := q.2.2.2.2.2.1
    have km6_0 := q.2.2.2.2.2.2
    clear q
    have q := keep2 h6 (b := w.heap.size + 1) (by first | (simp; done) | (simp; omega) | omega)
    have kc6_1_0 := q.1
    have kc6_1_1 := q.2.1
    have kf6_1_0 := q.2.2.1
    have kf6_1_1 := q.2.2.2.1
    have kl6_1 := q.2.2.2.2.1
    have kn6_1 := q.2.2.2.2.2.1
    have km6_1 := q.2.2.2.2.2.2
    clear q
    have q := keep2 h6 (b := w.heap.size + 2) (by first | (simp; done) | (simp; omega) | omega)
    have kc6_2_0 := q.1
    have kc6_2_1 := q.2.1
    have kf6_2_0 := q.2.2.1
    have kf6_2_1 := q.2.2.2.1
    have kl6_2 := q.2.2.2.2.1
    have kn6_2 := q.2.2.2.2.2.1
    have km6_2 := q.2.2.2.2.2.2
    clear q
    have kz6 := h6.size
    (try simp only [World.size_alloc, World.size_setCell, World.size_drew] at kz6)
    have H6 := Lib.hid h6
    clear h6
    go_wp2
    refine bodyPost_ret ?_ rfl ⟨rfl, ?_⟩
    · simp [results, Try.results27, go_sem, kc6_2_0, kc6_2_1, kl6_2, kc5_2_0, kc5_2_1, kl5_2, kc4_2_0, kc4_2_1, kl4_2, kc3_2_0, kc3_2_1, kl3_2, kc2_2_0, kc2_2_1, kl2_2, kc1_2_0, kc1_2_1, kl1_2]
    · (repeat (first | with_reducible exact Rel.refl _ | with_reducible refine Rel.alloc ?_ _ | with_reducible refine Rel.setCell ?_ (by first | (simp; done) | (simp; omega)) _ | with_reducible refine Rel.drew ?_ | with_reducible refine Rel.trans ?_ H6.out | with_reducible refine Rel.trans ?_ H5.out | with_reducible refine Rel.trans ?_ H4.out | with_reducible refine Rel.trans ?_ H3.out | with_reducible refine Rel.trans ?_ H2.out | with_reducible refine Rel.trans ?_ H1.out))

set_option maxHeartbeats 6400000 in
theorem div_core (a b c d : Int) (s : Bool) (A B C D : Nat) (R1 R2 R3 : Int) (w : World) (hc0 : c ≠ 0) 
    (h : (a < 0 ∧ 0 < c ∧ s = true) ∨ (a < 0 ∧ c ≤ 0 ∧ s = false) ∨ (a = 0 ∧ s = false) ∨ (0 < a ∧ c < 0 ∧ s = true) ∨ (0 < a ∧ 0 ≤ c ∧ s = false))
    (V1 : Hid (∀ w, Calls Try.prog 18 #[.agg #[.int .i64 a, .int .i64 b]] w fun e w' => e = .returned (.bool true) ∧ Rel w w'))
    (V2 : Hid (∀ w, Calls Try.prog 18 #[.agg #[.int .i64 c, .int .i64 d]] w fun e w' => e = .returned (.bool true) ∧ Rel w w'))
    (S1 : Hid (∀ w, Calls Try.prog 37 #[.int .i64 a] w fun e w' => e = .returned (.int .u64 A) ∧ w = w'))
    (S2 : Hid (∀ w, Calls Try.prog 37 #[.int .i64 b] w fun e w' => e = .returned (.int .u64 B) ∧ w = w'))
    (S3 : Hid (∀ w, Calls Try.prog 37 #[.int .i64 c] w fun e w' => e = .returned (.int .u64 C) ∧ w = w'))
    (S4 : Hid (∀ w, Calls Try.prog 37 #[.int .i64 d] w fun e w' => e = .returned (.int .u64 D) ∧ w = w'))
    (hQ : Hid (∀ w, Calls Try.prog 44 #[.bool s, .int .u64 A, .int .u64 B, .int .u64 D, .int .u64 C] w (FrRes R1 R2 R3 w))) :
    Calls Try.prog 29 #[.agg #[.int .i64 a, .int .i64 b], .agg #[.int .i64 c, .int .i64 d]] w (FrRes R1 R2 R3 w) := by
  unfold FrRes at hQ ⊢
  have z0 : (c == 0) = false := by simp; omega
  have hN : ∀ x : Int, x < 0 → decide (x < 0) = true := by simp
  have hP : ∀ x : Int, 0 ≤ x → decide (x < 0) = false := by intro x hx; simp; omega
  have hN' : ∀ x : Int, x ≤ 0 → decide (0 < x) = false := by intro x hx; simp; omega
  have hP' : ∀ x : Int, 0 < x → decide (0 < x) = true := by simp
  rcases h with ⟨h1, h2, rfl⟩ | ⟨h1, h2, rfl⟩ | ⟨h1, rfl⟩ | ⟨h1, h2, rfl⟩ | ⟨h1, h2, rfl⟩
  · have z1 := hN a h1; have z2 := hN' a (by omega); have z3 := hP c (by omega); have z4 := hP' c h2; clear hN hP hN' hP'
    go_enter Try.func29, Try.ntmps29
    go_wp2_with fail
    with_reducible refine (V1.out _).mono ?_
    rintro e w1 ⟨rfl, h1⟩
    have q := keep2 h1 (b := w.heap.size) (by first | (simp; done) | (simp; omega) | omega)
    have kc1_0_0 := q.1
    have kc1_0_1 := q.2.1
    have kf1_0_0 := q.2.2.1
    have kf1_0_1 := q.2.2.2.1
    have kl1_0 := q.2.2.2.2.1
    have kn1_0 := q.2.2.2.2.2.1
    have km1_0 := q.2.2.2.2.2.2
    clear q
    have q := keep2 h1 (b := w.heap.size + 1) (by first | (simp; done) | (simp; omega) | omega)
    have kc1_1_0 := q.1
    have kc1_1_1 := q.2.1
    have kf1_1_0 := q.2.2.1
    have kf1_1_1 := q.2.2.2.1
    have kl1_1 := q.2.2.2.2.1
    have kn1_1 := q.2.2.2.2.2.1
    have km1_1 := q.2.2.2.2.2.2
    clear q
    have q := keep2 h1 (b := w.heap.size + 2) (by first | (simp; done) | (simp; omega) | omega)
    have kc1_2_0 := q.1
    have kc1_2_1 := q.2.1
    have kf1_2_0 := q.2.2.1
    have kf1_2_1 := q.2.2.2.1
    have kl1_2 := q.2.2.2.2.1
    have kn1_2 := q.2.2.2.2.2.1
    have km1_2 := q.2.2.2.2.2.2
    clear q
    have kz1 := h1.size
    (try simp only [World.size_alloc, World.size_setCell, World.size_drew] at kz1)
    have H1 := Lib.hid h1
    clear h1
    go_wp2_with fail
    with_reducible refine (V2.out _).mono ?_
    rintro e w2 ⟨rfl, h2⟩
    have q := keep2 h2 (b := w.heap.size) (by first | (simp; done) | (simp; omega) | omega)
    have kc2_0_0 := q.1
    have kc2_0_1 := q.2.1
    have kf2_0_0 := q.2.2.1
    have kf2_0_1 := q.2.2.2.1
    have kl2_0 := q.2.2.2.2.1
    have kn2_0 := q.2.2.2.2.2.1
    have km2_0 := q.2.2.2.2.2.2
    clear q
    have q := keep2 h2 (b := w.heap.size + 1) (by first | (simp; done) | (simp; omega) | omega)
    have kc2_1_0 := q.1
    have kc2_1_1 := q.2.1
    have kf2_1_0 := q.2.2.1
    have kf2_1_1 := q.2.2.2.1
    have kl2_1 := q.2.2.2.2.1
    have kn2_1 := q.2.2.2.2.2.1
    have km2_1 := q.2.2.2.2.2.2
    clear q
    have q := keep2 h2 (b := w.heap.size + 2) (by first | (simp; done) | (simp; omega) | omega)
    have kc2_2_0 := q.1
    have kc2_2_1 := q.2.1
    have kf2_2_0 := q.2.2.1
    have kf2_2_1 := q.2.2.2.1
    have kl2_2 := q.2.2.2.2.1
    have kn2_2 := q.2.2.2.2.2.1
    have km2_2 := q.2.2.2.2.2.2
    clear q
    have kz2 := h2.size
    (try simp only [World.size_alloc, World.size_setCell, World.size_drew] at kz2)
    have H2 := Lib.hid h2
    clear h2
    go_wp2_with fail
    refine wp_region_calm (fun _ w' => w'.cell? { block := w.heap.size, off := 0 } = some (.int .i64 a) ∧ w'.cell? { block := w.heap.size, off := 1 } = some (.int .i64 b) ∧ w'.cell? { block := w.heap.size + 1, off := 0 } = some (.int .i64 c) ∧ w'.cell? { block := w.heap.size + 1, off := 1 } = some (.int .i64 d)) (fun _ => false) [0, 1, 2, 3, 4, 5, 6, 7, 8, 9, 10, 11, 12, 13, 14, 15] 2 (by kernel_rfl) (by kernel_rfl) ?hst ?hS0 (fun w0 h0 => ?_)
    case hst => exact fun _ _ _ h r => ⟨r.cell h.1, r.cell h.2.1, r.cell h.2.2.1, r.cell h.2.2.2⟩
    case hS0 => exact ⟨by go_simp, by go_simp, by go_simp, by go_simp⟩
    iterate 3
      refine wpCalm_go rfl (by kernel_rfl) (fun K hK => ?_)
      apply Exists.intro
      refine ⟨fun M w hM hS => ?_, hK _ ?_⟩
      · have c1 := hS.1
        have c2 := hS.2.1
        have c3 := hS.2.2.1
        have c4 := hS.2.2.2
        unfold calmAt
        go_simp
        exact ⟨rfl, Rel.refl _⟩
      clear hK K
    refine wpCalm_go rfl (by kernel_rfl) (fun K hK => ?_)
    apply Exists.intro
    refine ⟨fun M w hM hS => ?_, hK _ ?_⟩
    · have c1 := hS.1
      have c2 := hS.2.1
      have c3 := hS.2.2.1
      have c4 := hS.2.2.2
      unfold calmAt
      go_simp
      with_reducible refine (S1.out _).mono ?_
      rintro e w1 ⟨rfl, rfl⟩
      exact ⟨rfl, Rel.refl _⟩
    clear hK K
    iterate 2
      refine wpCalm_go rfl (by kernel_rfl) (fun K hK => ?_)
      apply Exists.intro
      refine ⟨fun M w hM hS => ?_, hK _ ?_⟩
      · have c1 := hS.1
        have c2 := hS.2.1
        have c3 := hS.2.2.1
        have c4 := hS.2.2.2
        unfold calmAt
        go_simp
        exact ⟨rfl, Rel.refl _⟩
      clear hK K
    refine wpCalm_go rfl (by kernel_rfl) (fun K hK => ?_)
    apply Exists.intro
    refine ⟨fun M w hM hS => ?_, hK _ ?_⟩
    · have c1 := hS.1
      have c2 := hS.2.1
      have c3 := hS.2.2.1
      have c4 := hS.2.2.2
      unfold calmAt
      go_simp
      with_reducible refine (S2.out _).mono ?_
      rintro e w1 ⟨rfl, rfl⟩
      exact ⟨rfl, Rel.refl _⟩
    clear hK K
    iterate 2
      refine wpCalm_go rfl (by kernel_rfl) (fun K hK => ?_)
      apply Exists.intro
      refine ⟨fun M w hM hS => ?_, hK _ ?_⟩
      · have c1 := hS.1
        have c2 := hS.2.1
        have c3 := hS.2.2.1
        have c4 := hS.2.2.2
        unfold calmAt
        go_simp
        exact ⟨rfl, Rel.refl _⟩
      clear hK K
    refine wpCalm_go rfl (by kernel_rfl) (fun K hK => ?_)
    apply Exists.intro
    refine ⟨fun M w hM hS => ?_, hK _ ?_⟩
    · have c1 := hS.1
      have c2 := hS.2.1
      have c3 := hS.2.2.1
      have c4 := hS.2.2.2
      unfold calmAt
      go_simp
      with_reducible refine (S4.out _).mono ?_
      rintro e w1 ⟨rfl, rfl⟩
      exact ⟨rfl, Rel.refl _⟩
    clear hK K
    iterate 2
      refine wpCalm_go rfl (by kernel_rfl) (fun K hK => ?_)
      apply Exists.intro
      refine ⟨fun M w hM hS => ?_, hK _ ?_⟩
      · have c1 := hS.1
        have c2 := hS.2.1
        have c3 := hS.2.2.1
        have c4 := hS.2.2.2
        unfold calmAt
        go_simp
        exact ⟨rfl, Rel.refl _⟩
      clear hK K
    refine wpCalm_go rfl (by kernel_rfl) (fun K hK => ?_)
    apply Exists.intro
    refine ⟨fun M w hM hS => ?_, hK _ ?_⟩
    · have c1 := hS.1
      have c2 := hS.2.1
      have c3 := hS.2.2.1
      have c4 := hS.2.2.2
      unfold calmAt
      go_simp
      with_reducible refine (S3.out _).mono ?_
      rintro e w1 ⟨rfl, rfl⟩
      exact ⟨rfl, Rel.refl _⟩
    clear hK K
    refine wpCalm_go rfl (by kernel_rfl) (fun K hK => ?_)
    apply Exists.intro
    refine ⟨fun M w hM hS => ?_, hK _ ?_⟩
    · unfold calmAt
      go_simp
      with_reducible refine (hQ.out _).mono ?_
      rintro e w1 ⟨rfl, hb⟩
      exact ⟨rfl, hb⟩
    clear hK K
    iterate 2
      refine wpCalm_go rfl (by kernel_rfl) (fun K hK => ?_)
      apply Exists.intro
      refine ⟨fun M w hM hS => ?_, hK _ ?_⟩
      · unfold calmAt
        go_simp
        exact ⟨rfl, Rel.refl _⟩
      clear hK K
    refine wpCalm_nil ?_
    have q := keep2 h0 (b := w.heap.size) (by first | (simp; done) | (simp; omega) | omega)
    have kc3_0_0 := q.1
    have kc3_0_1 := q.2.1
    have kf3_0_0 := q.2.2.1
    have kf3_0_1 := q.2.2.2.1
    have kl3_0 := q.2.2.2.2.1
    have kn3_0 := q.2.2.2.2.2.1
    have km3_0 := q.2.2.2.2.2.2
    clear q
    have q := keep2 h0 (b := w.heap.size + 1) (by first | (simp; done) | (simp; omega) | omega)
    have kc3_1_0 := q.1
    have kc3_1_1 := q.2.1
    have kf3_1_0 := q.2.2.1
    have kf3_1_1 := q.2.2.2.1
    have kl3_1 := q.2.2.2.2.1
    have kn3_1 := q.2.2.2.2.2.1
    have km3_1 := q.2.2.2.2.2.2
    clear q
    have q := keep2 h0 (b := w.heap.size + 2) (by first | (simp; done) | (simp; omega) | omega)
    have kc3_2_0 := q.1
    have kc3_2_1 := q.2.1
    have kf3_2_0 := q.2.2.1
    have kf3_2_1 := q.2.2.2.1
    have kl3_2 := q.2.2.2.2.1
    have kn3_2 := q.2.2.2.2.2.1
    have km3_2 := q.2.2.2.2.2.2
    clear q
    have kz3 := h0.size
    (try simp only [World.size_alloc, World.size_setCell, World.size_drew] at kz3)
    have H3 := Lib.hid h0
    clear h0
    refine wpAnyR_ready (rs := [16]) (by kernel_rfl) (by simp) (AllR.cons rfl (fun w4 h4 K' hK' => ?_) AllR.nil)
    have q := keep2 h4 (b := w.heap.size) (by first | (simp; done) | (simp; omega) | omega)
    have kc4_0_0 := q.1
    have kc4_0_1 := q.2.1
    have kf4_0_0 := q.2.2.1
    have kf4_0_1 := q.2.2.2.1
    have kl4_0 := q.2.2.2.2.1
    have kn4_0 := q.2.2.2.2.2.1
    have km4_0 := q.2.2.2.2.2.2
    clear q
    have q := keep2 h4 (b := w.heap.size + 1) (by first | (simp; done) | (simp; omega) | omega)
    have kc4_1_0 := q.1
    have kc4_1_1 := q.2.1
    have kf4_1_0 := q.2.2.1
    have kf4_1_1 := q.2.2.2.1
    have kl4_1 := q.2.2.2.2.1
    have kn4_1 := q.2.2.2.2.2.1
    have km4_1 := q.2.2.2.2.2.2
    clear q
    have q := keep2 h4 (b := w.heap.size + 2) (by first | (simp; done) | (simp; omega) | omega)
    have kc4_2_0 := q.1
    have kc4_2_1 := q.2.1
    have kf4_2_0 := q.2.2.1
    have kf4_2_1 := q.2.2.2.1
    have kl4_2 := q.2.2.2.2.1
    have kn4_2 := q.2.2.2.2.2.1
    have km4_2 := q.2.2.2.2.2.2
    clear q
    have kz4 := h4.size
    (try simp only [World.size_alloc, World.size_setCell, World.size_drew] at kz4)
    have H4 := Lib.hid h4
    clear h4
    go_simp
    refine hK'.out _ _ ⟨by go_simp, by go_simp, by go_simp, by go_simp⟩ ?_
    clear hK' K'
    refine wpAnyR_ready (rs := [17]) (by kernel_rfl) (by simp) (AllR.cons rfl (fun w5 h5 K' hK' => ?_) AllR.nil)
    have q := keep2 h5 (b := w.heap.size) (by first | (simp; done) | (simp; omega) | omega)
    have kc5_0_0 := q.1
    have kc5_0_1 := q.2.1
    have kf5_0_0 := q.2.2.1
    have kf5_0_1 := q.2.2.2.1
    have kl5_0 := q.2.2.2.2.1
    have kn5_0 := q.2.2.2.2.2.1
    have km5_0 := q.2.2.2.2.2.2
    clear q
    have q := keep2 h5 (b := w.heap.size + 1) (by first | (simp; done) | (simp; omega) | omega)
    have kc5_1_0 := q.1
    have kc5_1_1 := q.2.1
    have kf5_1_0 := q.2.2.1
    have kf5_1_1 := q.2.2.2.1
    have kl5_1 := q.2.2.2.2.1
    have kn5_1 := q.2.2.2.2.2.1
    have km5_1 := q.2.2.2.2.2.2
    clear q
    have q := keep2 h5 (b := w.heap.size + 2) (by first | (simp; done) | (simp; omega) | omega)
    have kc5_2_0 := q.1
    have kc5_2_1 := q.2.1
    have kf5_2_0 := q.2.2.1
    have kf5_2_1 := q.2.2.2.1
    have kl5_2 := q.2.2.2.2.1
    have kn5_2 := q.2.2.2.2.2.1
    have km5_2 := q.2.2.2.2.2.2
    clear q
    have kz5 := h5.size
    (try simp only [World.size_alloc, World.size_setCell, World.size_drew] at kz5)
    have H5 := Lib.hid h5
    clear h5
    go_simp
    refine hK'.out _ _ ⟨by go_simp, by go_simp, by go_simp, by go_simp⟩ ?_
    clear hK' K'
    refine wpAnyR_end (by kernel_rfl) (fun w6 h6 => ?_)
    (try simp only [Act.put, List.setIfInBounds_toArray, List.set_cons_zero, List.set_cons_succ])
    have q := keep2 h6 (b := w.heap.size) (by first | (simp; done) | (simp; omega) | omega)
    have kc6_0_0 := q.1
    have kc6_0_1 := q.2.1
    have kf6_0_0 := q.2.2.1
    have kf6_0_1 := q.2.2.2.1
    have kl6_0 := q.2.2.2.2.1
    have kn6_0 := q.2.2.2.2.2.1
    have km6_0 := q.2.2.2.2.2.2
    clear q
    have q := keep2 h6 (b := w.heap.size + 1) (by first | (simp; done) | (simp; omega) | omega)
    have kc6_1_0 := q.1
    have kc6_1_1 := q.2.1
    have kf6_1_0 := q.2.2.1
    have kf6_1_1 := q.2.2.2.1
    have kl6_1 := q.2.2.2.2.1
    have kn6_1 := q.2.2.2.2.2.1
    have km6_1 := q.2.2.2.2.2.2
    clear q
    have q := keep2 h6 (b := w.heap.size + 2) (by first | (simp; done) | (simp; omega) | omega)
    have kc6_2_0 := q.1
    have kc6_2_1 := q.2.1
    have kf6_2_0 := q.2.2.1
    have kf6_2_1 := q.2.2.2.1
    have kl6_2 := q.2.2.2.2.1
    have kn6_2 := q.2.2.2.2.2.1
    have km6_2 := q.2.2.2.2.2.2
    clear q
    have kz6 := h6.size
    (try simp only [World.size_alloc, World.size_setCell, World.size_drew] at kz6)
    have H6 := Lib.hid h6
    clear h6
    go_wp2
    refine bodyPost_ret ?_ rfl ⟨rfl, ?_⟩
    · simp [results, Try.results29, go_sem, kc6_2_0, kc6_2_1, kl6_2, kc5_2_0, kc5_2_1, kl5_2, kc4_2_0, kc4_2_1, kl4_2, kc3_2_0, kc3_2_1, kl3_2, kc2_2_0, kc2_2_1, kl2_2, kc1_2_0, kc1_2_1, kl1_2]
    · (repeat (first | with_reducible exact Rel.refl _ | with_reducible refine Rel.alloc ?_ _ | with_reducible refine Rel.setCell ?_ (by first | (simp; done) | (simp; omega)) _ | with_reducible refine Rel.drew ?_ | with_reducible refine Rel.trans ?_ H6.out | with_reducible refine Rel.trans ?_ H5.out | with_reducible refine Rel.trans ?_ H4.out | with_reducible refine Rel.trans ?_ H3.out | with_reducible refine Rel.trans ?_ H2.out | with_reducible refine Rel.trans ?_ H1.out))
  · have z1 := hN a h1; have z2 := hN' a (by omega); have z4 := hN' c h2; clear hN hP hN' hP'
    go_enter Try.func29, Try.ntmps29
    go_wp2_with fail
    with_reducible refine (V1.out _).mono ?_
    rintro e w1 ⟨rfl, h1⟩
    have q := keep2 h1 (b := w.heap.size) (by first | (simp; done) | (simp; omega) | omega)
    have kc1_0_0 := q.1
    have kc1_0_1 := q.2.1
    have kf1_0_0 := q.2.2.1
    have kf1_0_1 := q.2.2.2.1
    have kl1_0 := q.2.2.2.2.1
    have kn1_0 := q.2.2.2.2.2.1
    have km1_0 := q.2.2.2.2.2.2
    clear q
    have q := keep2 h1 (b := w.heap.size + 1) (by first | (simp; done) | (simp; omega) | omega)
    have kc1_1_0 := q.1
    have kc1_1_1 := q.2.1
    have kf1_1_0 := q.2.2.1
    have kf1_1_1 := q.2.2.2.1
    have kl1_1 := q.2.2.2.2.1
    have kn1_1 := q.2.2.2.2.2.1
    have km1_1 := q.2.2.2.2.2.2
    clear q
    have q := keep2 h1 (b := w.heap.size + 2) (by first | (simp; done) | (simp; omega) | omega)
    have kc1_2_0 := q.1
    have kc1_2_1 := q.2.1
    have kf1_2_0 := q.2.2.1
    have kf1_2_1 := q.2.2.2.1
    have kl1_2 := q.2.2.2.2.1
    have kn1_2 := q.2.2.2.2.2.1
    have km1_2 := q.2.2.2.2.2.2
    clear q
    have kz1 := h1.size
    (try simp only [World.size_alloc, World.size_setCell, World.size_drew] at kz1)
    have H1 := Lib.hid h1
    clear h1
    go_wp2_with fail
    with_reducible refine (V2.out _).mono ?_
    rintro e w2 ⟨rfl, h2⟩
    have q := keep2 h2 (b := w.heap.size) (by first | (simp; done) | (simp; omega) | omega)
    have kc2_0_0 := q.1
    have kc2_0_1 := q.2.1
    have kf2_0_0 := q.2.2.1
    have kf2_0_1 := q.2.2.2.1
    have kl2_0 := q.2.2.2.2.1
    have kn2_0 := q.2.2.2.2.2.1
    have km2_0 := q.2.2.2.2.2.2
    clear q
    have q := keep2 h2 (b := w.heap.size + 1) (by first | (simp; done) | (simp; omega) | omega)
    have kc2_1_0 := q.1
    have kc2_1_1 := q.2.1
    have kf2_1_0 := q.2.2.1
    have kf2_1_1 := q.2.2.2.1
    have kl2_1 := q.2.2.2.2.1
    have kn2_1 := q.2.2.2.2.2.1
    have km2_1 := q.2.2.2.2.2.2
    clear q
    have q := keep2 h2 (b := w.heap.size + 2) (by first | (simp; done) | (simp; omega) | omega)
    have kc2_2_0 := q.1
    have kc2_2_1 := q.2.1
    have kf2_2_0 := q.2.2.1
    have kf2_2_1 := q.2.2.2.1
    have kl2_2 := q.2.2.2.2.1
    have kn2_2 := q.2.2.2.2.2.1
    have km2_2 := q.2.2.2.2.2.2
    clear q
    have kz2 := h2.size
    (try simp only [World.size_alloc, World.size_setCell, World.size_drew] at kz2)
    have H2 := Lib.hid h2
    clear h2
    go_wp2_with fail
    refine wp_region_calm (fun _ w' => w'.cell? { block := w.heap.size, off := 0 } = some (.int .i64 a) ∧ w'.cell? { block := w.heap.size, off := 1 } = some (.int .i64 b) ∧ w'.cell? { block := w.heap.size + 1, off := 0 } = some (.int .i64 c) ∧ w'.cell? { block := w.heap.size + 1, off := 1 } = some (.int .i64 d)) (fun _ => false) [0, 1, 2, 3, 4, 5, 6, 7, 8, 9, 10, 11, 12, 13, 14, 15] 2 (by kernel_rfl) (by kernel_rfl) ?hst ?hS0 (fun w0 h0 => ?_)
    case hst => exact fun _ _ _ h r => ⟨r.cell h.1, r.cell h.2.1, r.cell h.2.2.1, r.cell h.2.2.2⟩
    case hS0 => exact ⟨by go_simp, by go_simp, by go_simp, by go_simp⟩
    iterate 3
      refine wpCalm_go rfl (by kernel_rfl) (fun K hK => ?_)
      apply Exists.intro
      refine ⟨fun M w hM hS => ?_, hK _ ?_⟩
      · have c1 := hS.1
        have c2 := hS.2.1
        have c3 := hS.2.2.1
        have c4 := hS.2.2.2
        unfold calmAt
        go_simp
        exact ⟨rfl, Rel.refl _⟩
      clear hK K
    refine wpCalm_go rfl (by kernel_rfl) (fun K hK => ?_)
    apply Exists.intro
    refine ⟨fun M w hM hS => ?_, hK _ ?_⟩
    · have c1 := hS.1
      have c2 := hS.2.1
      have c3 := hS.2.2.1
      have c4 := hS.2.2.2
      unfold calmAt
      go_simp
      with_reducible refine (S1.out _).mono ?_
      rintro e w1 ⟨rfl, rfl⟩
      exact ⟨rfl, Rel.refl _⟩
    clear hK K
    iterate 2
      refine wpCalm_go rfl (by kernel_rfl) (fun K hK => ?_)
      apply Exists.intro
      refine ⟨fun M w hM hS => ?_, hK _ ?_⟩
      · have c1 := hS.1
        have c2 := hS.2.1
        have c3 := hS.2.2.1
        have c4 := hS.2.2.2
        unfold calmAt
        go_simp
        exact ⟨rfl, Rel.refl _⟩
      clear hK K
    refine wpCalm_go rfl (by kernel_rfl) (fun K hK => ?_)
    apply Exists.intro
    refine ⟨fun M w hM hS => ?_, hK _ ?_⟩
    · have c1 := hS.1
      have c2 := hS.2.1
      have c3 := hS.2.2.1
      have c4 := hS.2.2.2
      unfold calmAt
      go_simp
      with_reducible refine (S2.out _).mono ?_
      rintro e w1 ⟨rfl, rfl⟩
      exact ⟨rfl, Rel.refl _⟩
    clear hK K
    iterate 2
      refine wpCalm_go rfl (by kernel_rfl) (fun K hK => ?_)
      apply Exists.intro
      refine ⟨fun M w hM hS => ?_, hK _ ?_⟩
      · have c1 := hS.1
        have c2 := hS.2.1
        have c3 := hS.2.2.1
        have c4 := hS.2.2.2
        unfold calmAt
        go_simp
        exact ⟨rfl, Rel.refl _⟩
      clear hK K
    refine wpCalm_go rfl (by kernel_rfl) (fun K hK => ?_)
    apply Exists.intro
    refine ⟨fun M w hM hS => ?_, hK _ ?_⟩
    · have c1 := hS.1
      have c2 := hS.2.1
      have c3 := hS.2.2.1
      have c4 := hS.2.2.2
      unfold calmAt
      go_simp
      with_reducible refine (S4.out _).mono ?_
      rintro e w1 ⟨rfl, rfl⟩
      exact ⟨rfl, Rel.refl _⟩
    clear hK K
    iterate 2
      refine wpCalm_go rfl (by kernel_rfl) (fun K hK => ?_)
      apply Exists.intro
      refine ⟨fun M w hM hS => ?_, hK _ ?_⟩
      · have c1 := hS.1
        have c2 := hS.2.1
        have c3 := hS.2.2.1
        have c4 := hS.2.2.2
        unfold calmAt
        go_simp
        exact ⟨rfl, Rel.refl _⟩
      clear hK K
    refine wpCalm_go rfl (by kernel_rfl) (fun K hK => ?_)
    apply Exists.intro
    refine ⟨fun M w hM hS => ?_, hK _ ?_⟩
    · have c1 := hS.1
      have c2 := hS.2.1
      have c3 := hS.2.2.1
      have c4 := hS.2.2.2
      unfold calmAt
      go_simp
      with_reducible refine (S3.out _).mono ?_
      rintro e w1 ⟨rfl, rfl⟩
      exact ⟨rfl, Rel.refl _⟩
    clear hK K
    refine wpCalm_go rfl (by kernel_rfl) (fun K hK => ?_)
    apply Exists.intro
    refine ⟨fun M w hM hS => ?_, hK _ ?_⟩
    · unfold calmAt
      go_simp
      with_reducible refine (hQ.out _).mono ?_
      rintro e w1 ⟨rfl, hb⟩
      exact ⟨rfl, hb⟩
    clear hK K
    iterate 2
      refine wpCalm_go rfl (by kernel_rfl) (fun K hK => ?_)
      apply Exists.intro
      refine ⟨fun M w hM hS => ?_, hK _ ?_⟩
      · unfold calmAt
        go_simp
        exact ⟨rfl, Rel.refl _⟩
      clear hK K
    refine wpCalm_nil ?_
    have q := keep2 h0 (b := w.heap.size) (by first | (simp; done) | (simp; omega) | omega)
    have kc3_0_0 := q.1
    have kc3_0_1 := q.2.1
    have kf3_0_0 := q.2.2.1
    have kf3_0_1 := q.2.2.2.1
    have kl3_0 := q.2.2.2.2.1
    have kn3_0 := q.2.2.2.2.2.1
    have km3_0 := q.2.2.2.2.2.2
    clear q
    have q := keep2 h0 (b := w.heap.size + 1) (by first | (simp; done) | (simp; omega) | omega)
    have kc3_1_0 := q.1
    have kc3_1_1 := q.2.1
    have kf3_1_0 := q.2.2.1
    have kf3_1_1 := q.2.2.2.1
    have kl3_1 := q.2.2.2.2.1
    have kn3_1 := q.2.2.2.2.2.1
    have km3_1 := q.2.2.2.2.2.2
    clear q
    have q := keep2 h0 (b := w.heap.size + 2) (by first | (simp; done) | (simp; omega) | omega)
    have kc3_2_0 := q.1
    have kc3_2_1 := q.2.1
    have kf3_2_0 := q.2.2.1
    have kf3_2_1 := q.2.2.2.1
    have kl3_2 := q.2.2.2.2.1
    have kn3_2 := q.2.2.2.2.2.1
    have km3_2 := q.2.2.2.2.2.2
    clear q
    have kz3 := h0.size
    (try simp only [World.size_alloc, World.size_setCell, World.size_drew] at kz3)
    have H3 := Lib.hid h0
    clear h0
    refine wpAnyR_ready (rs := [16]) (by kernel_rfl) (by simp) (AllR.cons rfl (fun w4 h4 K' hK' => ?_) AllR.nil)
    have q := keep2 h4 (b := w.heap.size) (by first | (simp; done) | (simp; omega) | omega)
    have kc4_0_0 := q.1
    have kc4_0_1 := q.2.1
    have kf4_0_0 := q.2.2.1
    have kf4_0_1 := q.2.2.2.1
    have kl4_0 := q.2.2.2.2.1
    have kn4_0 := q.2.2.2.2.2.1
    have km4_0 := q.2.2.2.2.2.2
    clear q
    have q := keep2 h4 (b := w.heap.size + 1) (by first | (simp; done) | (simp; omega) | omega)
    have kc4_1_0 := q.1
    have kc4_1_1 := q.2.1
    have kf4_1_0 := q.2.2.1
    have kf4_1_1 := q.2.2.2.1
    have kl4_1 := q.2.2.2.2.1
    have kn4_1 := q.2.2.2.2.2.1
    have km4_1 := q.2.2.2.2.2.2
    clear q
    have q := keep2 h4 (b := w.heap.size + 2) (by first | (simp; done) | (simp; omega) | omega)
    have kc4_2_0 := q.1
    have kc4_2_1 := q.2.1
    have kf4_2_0 := q.2.2.1
    have kf4_2_1 := q.2.2.2.1
    have kl4_2 := q.2.2.2.2.1
    have kn4_2 := q.2.2.2.2.2.1
    have km4_2 := q.2.2.2.2.2.2
    clear q
    have kz4 := h4.size
    (try simp only [World.size_alloc, World.size_setCell, World.size_drew] at kz4)
    have H4 := Lib.hid h4
    clear h4
    go_simp
    refine hK'.out _ _ ⟨by go_simp, by go_simp, by go_simp, by go_simp⟩ ?_
    clear hK' K'
    refine wpAnyR_ready (rs := [17]) (by kernel_rfl) (by simp) (AllR.cons rfl (fun w5 h5 K' hK' => ?_) AllR.nil)
    have q := keep2 h5 (b := w.heap.size) (by first | (simp; done) | (simp; omega) | omega)
    have kc5_0_0 := q.1
    have kc5_0_1 := q.2.1
    have kf5_0_0 := q.2.2.1
    have kf5_0_1 := q.2.2.2.1
    have kl5_0 := q.2.2.2.2.1
    have kn5_0 := q.2.2.2.2.2.1
    have km5_0 := q.2.2.2.2.2.2
    clear q
    have q := keep2 h5 (b := w.heap.size + 1) (by first | (simp; done) | (simp; omega) | omega)
    have kc5_1_0 := q.1
    have kc5_1_1 := q.2.1
    have kf5_1_0 := q.2.2.1
    have kf5_1_1 := q.2.2.2.1
    have kl5_1 := q.2.2.2.2.1
    have kn5_1 := q.2.2.2.2.2.1
    have km5_1 := q.2.2.2.2.2.2
    clear q
    have q := keep2 h5 (b := w.heap.size + 2) (by first | (simp; done) | (simp; omega) | omega)
    have kc5_2_0 := q.1
    have kc5_2_1 := q.2.1
    have kf5_2_0 := q.2.2.1
    have kf5_2_1 := q.2.2.2.1
    have kl5_2 := q.2.2.2.2.1
    have kn5_2 := q.2.2.2.2.2.1
    have km5_2 := q.2.2.2.2.2.2
    clear q
    have kz5 := h5.size
    (try simp only [World.size_alloc, World.size_setCell, World.size_drew] at kz5)
    have H5 := Lib.hid h5
    clear h5
    go_simp
    refine hK'.out _ _ ⟨by go_simp, by go_simp, by go_simp, by go_simp⟩ ?_
    clear hK' K'
    refine wpAnyR_end (by kernel_rfl) (fun w6 h6 => ?_)
    (try simp only [Act.put, List.setIfInBounds_toArray, List.set_cons_zero, List.set_cons_succ])
    have q := keep2 h6 (b := w.heap.size) (by first | (simp; done) | (simp; omega) | omega)
    have kc6_0_0 := q.1
    have kc6_0_1 := q.2.1
    have kf6_0_0 := q.2.2.1
    have kf6_0_1 := q.2.2.2.1
    have kl6_0 := q.2.2.2.2.1
    have kn6_0 := q.2.2.2.2.2.1
    have km6_0 := q.2.2.2.2.2.2
    clear q
    have q := keep2 h6 (b := w.heap.size + 1) (by first | (simp; done) | (simp; omega) | omega)
    have kc6_1_0 := q.1
    have kc6_1_1 := q.2.1
    have kf6_1_0 := q.2.2.1
    have kf6_1_1 := q.2.2.2.1
    have kl6_1 := q.2.2.2.2.1
    have kn6_1 := q.2.2.2.2.2.1
    have km6_1 := q.2.2.2.2.2.2
    clear q
    have q := keep2 h6 (b := w.heap.size + 2) (by first | (simp; done) | (simp; omega) | omega)
    have kc6_2_0 := q.1
    have kc6_2_1 := q.2.1
    have kf6_2_0 := q.2.2.1
    have kf6_2_1 := q.2.2.2.1
    have kl6_2 := q.2.2.2.2.1
    have kn6_2 := q.2.2.2.2.2.1
    have km6_2 := q.2.2.2.2.2.2
    clear q
    have kz6 := h6.size
    (try simp only [World.size_alloc, World.size_setCell, World.size_drew] at kz6)
    have H6 := Lib.hid h6
    clear h6
    go_wp2
    refine bodyPost_ret ?_ rfl ⟨rfl, ?_⟩
    · simp [results, Try.results29, go_sem, kc6_2_0, kc6_2_1, kl6_2, kc5_2_0, kc5_2_1, kl5_2, kc4_2_0, kc4_2_1, kl4_2, kc3_2_0, kc3_2_1, kl3_2, kc2_2_0, kc2_2_1, kl2_2, kc1_2_0, kc1_2_1, kl1_2]
    · (repeat (first | with_reducible exact Rel.refl _ | with_reducible refine Rel.alloc ?_ _ | with_reducible refine Rel.setCell ?_ (by first | (simp; done) | (simp; omega)) _ | with_reducible refine Rel.drew ?_ | with_reducible refine Rel.trans ?_ H6.out | with_reducible refine Rel.trans ?_ H5.out | with_reducible refine Rel.trans ?_ H4.out | with_reducible refine Rel.trans ?_ H3.out | with_reducible refine Rel.trans ?_ H2.out | with_reducible refine Rel.trans ?_ H1.out))
  · have z1 := hP a (by omega); have z2 := hN' a (by omega); clear hN hP hN' hP' h1
    go_enter Try.func29, Try.ntmps29
    go_wp2_with fail
    with_reducible refine (V1.out _).mono ?_
    rintro e w1 ⟨rfl, h1⟩
    have q := keep2 h1 (b := w.heap.size) (by first | (simp; done) | (simp; omega) | omega)
    have kc1_0_0 := q.1
    have kc1_0_1 := q.2.1
    have kf1_0_0 := q.2.2.1
    have kf1_0_1 := q.2.2.2.1
    have kl1_0 := q.2.2.2.2.1
    have kn1_0 := q.2.2.2.2.2.1
    have km1_0 := q.2.2.2.2.2.2
    clear q
    have q := keep2 h1 (b := w.heap.size + 1) (by first | (simp; done) | (simp; omega) | omega)
    have kc1_1_0 := q.1
    have kc1_1_1 := q.2.1
    have kf1_1_0 := q.2.2.1
    have kf1_1_1 := q.2.2.2.1
    have kl1_1 := q.2.2.2.2.1
    have kn1_1 := q.2.2.2.2.2.1
    have km1_1 := q.2.2.2.2.2.2
    clear q
    have q := keep2 h1 (b := w.heap.size + 2) (by first | (simp; done) | (simp; omega) | omega)
    have kc1_2_0 := q.1
    have kc1_2_1 := q.2.1
    have kf1_2_0 := q.2.2.1
    have kf1_2_1 := q.2.2.2.1
    have kl1_2 := q.2.2.2.2.1
    have kn1_2 := q.2.2.2.2.2.1
    have km1_2 := q.2.2.2.2.2.2
    clear q
    have kz1 := h1.size
    (try simp only [World.size_alloc, World.size_setCell, World.size_drew] at kz1)
    have H1 := Lib.hid h1
    clear h1
    go_wp2_with fail
    with_reducible refine (V2.out _).mono ?_
    rintro e w2 ⟨rfl, h2⟩
    have q := keep2 h2 (b := w.heap.size) (by first | (simp; done) | (simp; omega) | omega)
    have kc2_0_0 := q.1
    have kc2_0_1 := q.2.1
    have kf2_0_0 := q.2.2.1
    have kf2_0_1 := q.2.2.2.1
    have kl2_0 := q.2.2.2.2.1
    have kn2_0 := q.2.2.2.2.2.1
    have km2_0 := q.2.2.2.2.2.2
    clear q
    have q := keep2 h2 (b := w.heap.size + 1) (by first | (simp; done) | (simp; omega) | omega)
    have kc2_1_0 := q.1
    have kc2_1_1 := q.2.1
    have kf2_1_0 := q.2.2.1
    have kf2_1_1 := q.2.2.2.1
    have kl2_1 := q.2.2.2.2.1
    have kn2_1 := q.2.2.2.2.2.1
    have km2_1 := q.2.2.2.2.2.2
    clear q
    have q := keep2 h2 (b := w.heap.size + 2) (by first | (simp; done) | (simp; omega) | omega)
    have kc2_2_0 := q.1
    have kc2_2_1 := q.2.1
    have kf2_2_0 := q.2.2.1
    have kf2_2_1 := q.2.2.2.1
    have kl2_2 := q.2.2.2.2.1
    have kn2_2 := q.2.2.2.2.2.1
    have km2_2 := q.2.2.2.2.2.2
    clear q
    have kz2 := h2.size
    (try simp only [World.size_alloc, World.size_setCell, World.size_drew] at kz2)
    have H2 := Lib.hid h2
    clear h2
    go_wp2_with fail
    refine wp_region_calm (fun _ w' => w'.cell? { block := w.heap.size, off := 0 } = some (.int .i64 a) ∧ w'.cell? { block := w.heap.size, off := 1 } = some (.int .i64 b) ∧ w'.cell? { block := w.heap.size + 1, off := 0 } = some (.int .i64 c) ∧ w'.cell? { block := w.heap.size + 1, off := 1 } = some (.int .i64 d)) (fun _ => false) [0, 1, 2, 3, 4, 5, 6, 7, 8, 9, 10, 11, 12, 13, 14, 15] 2 (by kernel_rfl) (by kernel_rfl) ?hst ?hS0 (fun w0 h0 => ?_)
    case hst => exact fun _ _ _ h r => ⟨r.cell h.1, r.cell h.2.1, r.cell h.2.2.1, r.cell h.2.2.2⟩
    case hS0 => exact ⟨by go_simp, by go_simp, by go_simp, by go_simp⟩
    iterate 3
      refine wpCalm_go rfl (by kernel_rfl) (fun K hK => ?_)
      apply Exists.intro
      refine ⟨fun M w hM hS => ?_, hK _ ?_⟩
      · have c1 := hS.1
        have c2 := hS.2.1
        have c3 := hS.2.2.1
        have c4 := hS.2.2.2
        unfold calmAt
        go_simp
        exact ⟨rfl, Rel.refl _⟩
      clear hK K
    refine wpCalm_go rfl (by kernel_rfl) (fun K hK => ?_)
    apply Exists.intro
    refine ⟨fun M w hM hS => ?_, hK _ ?_⟩
    · have c1 := hS.1
      have c2 := hS.2.1
      have c3 := hS.2.2.1
      have c4 := hS.2.2.2
      unfold calmAt
      go_simp
      with_reducible refine (S1.out _).mono ?_
      rintro e w1 ⟨rfl, rfl⟩
      exact ⟨rfl, Rel.refl _⟩
    clear hK K
    iterate 2
      refine wpCalm_go rfl (by kernel_rfl) (fun K hK => ?_)
      apply Exists.intro
      refine ⟨fun M w hM hS => ?_, hK _ ?_⟩
      · have c1 := hS.1
        have c2 := hS.2.1
        have c3 := hS.2.2.1
        have c4 := hS.2.2.2
        unfold calmAt
        go_simp
        exact ⟨rfl, Rel.refl _⟩
      clear hK K
    refine wpCalm_go rfl (by kernel_rfl) (fun K hK => ?_)
    apply Exists.intro
    refine ⟨fun M w hM hS => ?_, hK _ ?_⟩
    · have c1 := hS.1
      have c2 := hS.2.1
      have c3 := hS.2.2.1
      have c4 := hS.2.2.2
      unfold calmAt
      go_simp
      with_reducible refine (S2.out _).mono ?_
      rintro e w1 ⟨rfl, rfl⟩
      exact ⟨rfl, Rel.refl _⟩
    clear hK K
    iterate 2
      refine wpCalm_go rfl (by kernel_rfl) (fun K hK => ?_)
      apply Exists.intro
      refine ⟨fun M w hM hS => ?_, hK _ ?_⟩
      · have c1 := hS.1
        have c2 := hS.2.1
        have c3 := hS.2.2.1
        have c4 := hS.2.2.2
        unfold calmAt
        go_simp
        exact ⟨rfl, Rel.refl _⟩
      clear hK K
    refine wpCalm_go rfl (by kernel_rfl) (fun K hK => ?_)
    apply Exists.intro
    refine ⟨fun M w hM hS => ?_, hK _ ?_⟩
    · have c1 := hS.1
      have c2 := hS.2.1
      have c3 := hS.2.2.1
      have c4 := hS.2.2.2
      unfold calmAt
      go_simp
      with_reducible refine (S4.out _).mono ?_
      rintro e w1 ⟨rfl, rfl⟩
      exact ⟨rfl, Rel.refl _⟩
    clear hK K
    iterate 2
      refine wpCalm_go rfl (by kernel_rfl) (fun K hK => ?_)
      apply Exists.intro
      refine ⟨fun M w hM hS => ?_, hK _ ?_⟩
      · have c1 := hS.1
        have c2 := hS.2.1
        have c3 := hS.2.2.1
        have c4 := hS.2.2.2
        unfold calmAt
        go_simp
        exact ⟨rfl, Rel.refl _⟩
      clear hK K
    refine wpCalm_go rfl (by kernel_rfl) (fun K hK => ?_)
    apply Exists.intro
    refine ⟨fun M w hM hS => ?_, hK _ ?_⟩
    · have c1 := hS.1
      have c2 := hS.2.1
      have c3 := hS.2.2.1
      have c4 := hS.2.2.2
      unfold calmAt
      go_simp
      with_reducible refine (S3.out _).mono ?_
      rintro e w1 ⟨rfl, rfl⟩
      exact ⟨rfl, Rel.refl _⟩
    clear hK K
    refine wpCalm_go rfl (by kernel_rfl) (fun K hK => ?_)
    apply Exists.intro
    refine ⟨fun M w hM hS => ?_, hK _ ?_⟩
    · unfold calmAt
      go_simp
      with_reducible refine (hQ.out _).mono ?_
      rintro e w1 ⟨rfl, hb⟩
      exact ⟨rfl, hb⟩
    clear hK K
    iterate 2
      refine wpCalm_go rfl (by kernel_rfl) (fun K hK => ?_)
      apply Exists.intro
      refine ⟨fun M w hM hS => ?_, hK _ ?_⟩
      · unfold calmAt
        go_simp
        exact ⟨rfl, Rel.refl _⟩
      clear hK K
    refine wpCalm_nil ?_
    have q := keep2 h0 (b := w.heap.size) (by first | (simp; done) | (simp; omega) | omega)
    have kc3_0_0 := q.1
    have kc3_0_1 := q.2.1
    have kf3_0_0 := q.2.2.1
    have kf3_0_1 := q.2.2.2.1
    have kl3_0 := q.2.2.2.2.1
    have kn3_0 := q.2.2.2.2.2.1
    have km3_0 := q.2.2.2.2.2.2
    clear q
    have q := keep2 h0 (b := w.heap.size + 1) (by first | (simp; done) | (simp; omega) | omega)
    have kc3_1_0 := q.1
    have kc3_1_1 := q.2.1
    have kf3_1_0 := q.2.2.1
    have kf3_1_1 := q.2.2.2.1
    have kl3_1 := q.2.2.2.2.1
    have kn3_1 := q.2.2.2.2.2.1
    have km3_1 := q.2.2.2.2.2.2
    clear q
    have q := keep2 h0 (b := w.heap.size + 2) (by first | (simp; done) | (simp; omega) | omega)
    have kc3_2_0 := q.1
    have kc3_2_1 := q.2.1
    have kf3_2_0 := q.2.2.1
    have kf3_2_1 := q.2.2.2.1
    have kl3_2 := q.2.2.2.2.1
    have kn3_2 := q.2.2.2.2.2.1
    have km3_2 := q.2.2.2.2.2.2
    clear q
    have kz3 := h0.size
    (try simp only [World.size_alloc, World.size_setCell, World.size_drew] at kz3)
    have H3 := Lib.hid h0
    clear h0
    refine wpAnyR_ready (rs := [16]) (by kernel_rfl) (by simp) (AllR.cons rfl (fun w4 h4 K' hK' => ?_) AllR.nil)
    have q := keep2 h4 (b := w.heap.size) (by first | (simp; done) | (simp; omega) | omega)
    have kc4_0_0 := q.1
    have kc4_0_1 := q.2.1
    have kf4_0_0 := q.2.2.1
    have kf4_0_1 := q.2.2.2.1
    have kl4_0 := q.2.2.2.2.1
    have kn4_0 := q.2.2.2.2.2.1
    have km4_0 := q.2.2.2.2.2.2
    clear q
    have q := keep2 h4 (b := w.heap.size + 1) (by first | (simp; done) | (simp; omega) | omega)
    have kc4_1_0 := q.1
    have kc4_1_1 := q.2.1
    have kf4_1_0 := q.2.2.1
    have kf4_1_1 := q.2.2.2.1
    have kl4_1 := q.2.2.2.2.1
    have kn4_1 := q.2.2.2.2.2.1
    have km4_1 := q.2.2.2.2.2.2
    clear q
    have q := keep2 h4 (b := w.heap.size + 2) (by first | (simp; done) | (simp; omega) | omega)
    have kc4_2_0 := q.1
    have kc4_2_1 := q.2.1
    have kf4_2_0 := q.2.2.1
    have kf4_2_1 := q.2.2.2.1
    have kl4_2 := q.2.2.2.2.1
    have kn4_2 := q.2.2.2.2.2.1
    have km4_2 := q.2.2.2.2.2.2
    clear q
    have kz4 := h4.size
    (try simp only [World.size_alloc, World.size_setCell, World.size_drew] at kz4)
    have H4 := Lib.hid h4
    clear h4
    go_simp
    refine hK'.out _ _ ⟨by go_simp, by go_simp, by go_simp, by go_simp⟩ ?_
    clear hK' K'
    refine wpAnyR_ready (rs := [17]) (by kernel_rfl) (by simp) (AllR.cons rfl (fun w5 h5 K' hK' => ?_) AllR.nil)
    have q := keep2 h5 (b := w.heap.size) (by first | (simp; done) | (simp; omega) | omega)
    have kc5_0_0 := q.1
    have kc5_0_1 := q.2.1
    have kf5_0_0 := q.2.2.1
    have kf5_0_1 := q.2.2.2.1
    have kl5_0 := q.2.2.2.2.1
    have kn5_0 := q.2.2.2.2.2.1
    have km5_0 := q.2.2.2.2.2.2
    clear q
    have q := keep2 h5 (b := w.heap.size + 1) (by first | (simp; done) | (simp; omega) | omega)
    have kc5_1_0 := q.1
    have kc5_1_1 := q.2.1
    have kf5_1_0 := q.2.2.1
    have kf5_1_1 := q.2.2.2.1
    have kl5_1 := q.2.2.2.2.1
    have kn5_1 := q.2.2.2.2.2.1
    have km5_1 := q.2.2.2.2.2.2
    clear q
    have q := keep2 h5 (b := w.heap.size + 2) (by first | (simp; done) | (simp; omega) | omega)
    have kc5_2_0 := q.1
    have kc5_2_1 := q.2.1
    have kf5_2_0 := q.2.2.1
    have kf5_2_1 := q.2.2.2.1
    have kl5_2 := q.2.2.2.2.1
    have kn5_2 := q.2.2.2.2.2.1
    have km5_2 := q.2.2.2.2.2.2
    clear q
    have kz5 := h5.size
    (try simp only [World.size_alloc, World.size_setCell, World.size_drew] at kz5)
    have H5 := Lib.hid h5
    clear h5
    go_simp
    refine hK'.out _ _ ⟨by go_simp, by go_simp, by go_simp, by go_simp⟩ ?_
    clear hK' K'
    refine wpAnyR_end (by kernel_rfl) (fun w6 h6 => ?_)
    (try simp only [Act.put, List.setIfInBounds_toArray, List.set_cons_zero, List.set_cons_succ])
    have q := keep2 h6 (b := w.heap.size) (by first | (simp; done) | (simp; omega) | omega)
    have kc6_0_0 := q.1
    have kc6_0_1 := q.2.1
    have kf6_0_0 := q.2.2.1
    have kf6_0_1 := q.2.2.2.1
    have kl6_0 := q.2.2.2.2.1
    have kn6_0 := q.2.2.2.2.2.1
    have km6_0 := q.2.2.2.2.2.2
    clear q
    have q := keep2 h6 (b := w.heap.size + 1) (by first | (simp; done) | (simp; omega) | omega)
    have kc6_1_0 := q.1
    have kc6_1_1 := q.2.1
    have kf6_1_0 := q.2.2.1
    have kf6_1_1 := q.2.2.2.1
    have kl6_1 := q.2.2.2.2.1
    have kn6_1 := q.2.2.2.2.2.1
    have km6_1 := q.2.2.2.2.2.2
    clear q
    have q := keep2 h6 (b := w.heap.size + 2) (by first | (simp; done) | (simp; omega) | omega)
    have kc6_2_0 := q.1
    have kc6_2_1 := q.2.1
    have kf6_2_0 := q.2.2.1
    have kf6_2_1 := q.2.2.2.1
    have kl6_2 := q.2.2.2.2.1
    have kn6_2 := q.2.2.2.2.2.1
    have km6_2 := q.2.2.2.2.2.2
    clear q
    have kz6 := h6.size
    (try simp only [World.size_alloc, World.size_setCell, World.size_drew] at kz6)
    have H6 := Lib.hid h6
    clear h6
    go_wp2
    refine bodyPost_ret ?_ rfl ⟨rfl, ?_⟩
    · simp [results, Try.results29, go_sem, kc6_2_0, kc6_2_1, kl6_2, kc5_2_0, kc5_2_1, kl5_2, kc4_2_0, kc4_2_1, kl4_2, kc3_2_0, kc3_2_1, kl3_2, kc2_2_0, kc2_2_1, kl2_2, kc1_2_0, kc1_2_1, kl1_2]
    · (repeat (first | with_reducible exact Rel.refl _ | with_reducible refine Rel.alloc ?_ _ | with_reducible refine Rel.setCell ?_ (by first | (simp; done) | (simp; omega)) _ | with_reducible refine Rel.drew ?_ | with_reducible refine Rel.trans ?_ H6.out | with_reducible refine Rel.trans ?_ H5.out | with_reducible refine Rel.trans ?_ H4.out | with_reducible refine Rel.trans ?_ H3.out | with_reducible refine Rel.trans ?_ H2.out | with_reducible refine Rel.trans ?_ H1.out))
  · have z1 := hP a (by omega); have z2 := hP' a h1; have z3 := hN c h2; have z4 := hN' c (by omega); clear hN hP hN' hP'
    go_enter Try.func29, Try.ntmps29
    go_wp2_with fail
    with_reducible refine (V1.out _).mono ?_
    rintro e w1 ⟨rfl, h1⟩
    have q := keep2 h1 (b := w.heap.size) (by first | (simp; done) | (simp; omega) | omega)
    have kc1_0_0 := q.1
    have kc1_0_1 := q.2.1
    have kf1_0_0 := q.2.2.1
    have kf1_0_1 := q.2.2.2.1
    have kl1_0 := q.2.2.2.2.1
    have kn1_0 := q.2.2.2.2.2.1
    have km1_0 := q.2.2.2.2.2.2
    clear q
    have q := keep2 h1 (b := w.heap.size + 1) (by first | (simp; done) | (simp; omega) | omega)
    have kc1_1_0 := q.1
    have kc1_1_1 := q.2.1
    have kf1_1_0 := q.2.2.1
    have kf1_1_1 := q.2.2.2.1
    have kl1_1 := q.2.2.2.2.1
    have kn1_1 := q.2.2.2.2.2.1
    have km1_1 := q.2.2.2.2.2.2
    clear q
    have q := keep2 h1 (b := w.heap.size + 2) (by first | (simp; done) | (simp; omega) | omega)
    have kc1_2_0 := q.1
    have kc1_2_1 := q.2.1
    have kf1_2_0 := q.2.2.1
    have kf1_2_1 := q.2.2.2.1
    have kl1_2 := q.2.2.2.2.1
    have kn1_2 := q.2.2.2.2.2.1
    have km1_2 := q.2.2.2.2.2.2
    clear q
    have kz1 := h1.size
    (try simp only [World.size_alloc, World.size_setCell, World.size_drew] at kz1)
    have H1 := Lib.hid h1
    clear h1
    go_wp2_with fail
    with_reducible refine (V2.out _).mono ?_
    rintro e w2 ⟨rfl, h2⟩
    have q := keep2 h2 (b := w.heap.size) (by first | (simp; done) | (simp; omega) | omega)
    have kc2_0_0 := q.1
    have kc2_0_1 := q.2.1
    have kf2_0_0 := q.2.2.1
    have kf2_0_1 := q.2.2.2.1
    have kl2_0 := q.2.2.2.2.1
    have kn2_0 := q.2.2.2.2.2.1
    have km2_0 := q.2.2.2.2.2.2
    clear q
    have q := keep2 h2 (b := w.heap.size + 1) (by first | (simp; done) | (simp; omega) | omega)
    have kc2_1_0 := q.1
    have kc2_1_1 := q.2.1
    have kf2_1_0 := q.2.2.1
    have kf2_1_1 := q.2.2.2.1
    have kl2_1 := q.2.2.2.2.1
    have kn2_1 := q.2.2.2.2.2.1
    have km2_1 := q.2.2.2.2.2.2
    clear q
    have q := keep2 h2 (b := w.heap.size + 2) (by first | (simp; done) | (simp; omega) | omega)
    have kc2_2_0 := q.1
    have kc2_2_1 := q.2.1
    have kf2_2_0 := q.2.2.1
    have kf2_2_1 := q.2.2.2.1
    have kl2_2 := q.2.2.2.2.1
    have kn2_2 := q.2.2.2.2.2.1
    have km2_2 := q.2.2.2.2.2.2
    clear q
    have kz2 := h2.size
    (try simp only [World.size_alloc, World.size_setCell, World.size_drew] at kz2)
    have H2 := Lib.hid h2
    clear h2
    go_wp2_with fail
    refine wp_region_calm (fun _ w' => w'.cell? { block := w.heap.size, off := 0 } = some (.int .i64 a) ∧ w'.cell? { block := w.heap.size, off := 1 } = some (.int .i64 b) ∧ w'.cell? { block := w.heap.size + 1, off := 0 } = some (.int .i64 c) ∧ w'.cell? { block := w.heap.size + 1, off := 1 } = some (.int .i64 d)) (fun _ => false) [0, 1, 2, 3, 4, 5, 6, 7, 8, 9, 10, 11, 12, 13, 14, 15] 2 (by kernel_rfl) (by kernel_rfl) ?hst ?hS0 (fun w0 h0 => ?_)
    case hst => exact fun _ _ _ h r => ⟨r.cell h.1, r.cell h.2.1, r.cell h.2.2.1, r.cell h.2.2.2⟩
    case hS0 => exact ⟨by go_simp, by go_simp, by go_simp, by go_simp⟩
    iterate 3
      refine wpCalm_go rfl (by kernel_rfl) (fun K hK => ?_)
      apply Exists.intro
      refine ⟨fun M w hM hS => ?_, hK _ ?_⟩
      · have c1 := hS.1
        have c2 := hS.2.1
        have c3 := hS.2.2.1
        have c4 := hS.2.2.2
        unfold calmAt
        go_simp
        exact ⟨rfl, Rel.refl _⟩
      clear hK K
    refine wpCalm_go rfl (by kernel_rfl) (fun K hK => ?_)
    apply Exists.intro
    refine ⟨fun M w hM hS => ?_, hK _ ?_⟩
    · have c1 := hS.1
      have c2 := hS.2.1
      have c3 := hS.2.2.1
      have c4 := hS.2.2.2
      unfold calmAt
      go_simp
      with_reducible refine (S1.out _).mono ?_
      rintro e w1 ⟨rfl, rfl⟩
      exact ⟨rfl, Rel.refl _⟩
    clear hK K
    iterate 2
      refine wpCalm_go rfl (by kernel_rfl) (fun K hK => ?_)
      apply Exists.intro
      refine ⟨fun M w hM hS => ?_, hK _ ?_⟩
      · have c1 := hS.1
        have c2 := hS.2.1
        have c3 := hS.2.2.1
        have c4 := hS.2.2.2
        unfold calmAt
        go_simp
        exact ⟨rfl, Rel.refl _⟩
      clear hK K
    refine wpCalm_go rfl (by kernel_rfl) (fun K hK => ?_)
    apply Exists.intro
    refine ⟨fun M w hM hS => ?_, hK _ ?_⟩
    · have c1 := hS.1
      have c2 := hS.2.1
      have c3 := hS.2.2.1
      have c4 := hS.2.2.2
      unfold calmAt
      go_simp
      with_reducible refine (S2.out _).mono ?_
      rintro e w1 ⟨rfl, rfl⟩
      exact ⟨rfl, Rel.refl _⟩
    clear hK K
    iterate 2
      refine wpCalm_go rfl (by kernel_rfl) (fun K hK => ?_)
      apply Exists.intro
      refine ⟨fun M w hM hS => ?_, hK _ ?_⟩
      · have c1 := hS.1
        have c2 := hS.2.1
        have c3 := hS.2.2.1
        have c4 := hS.2.2.2
        unfold calmAt
        go_simp
        exact ⟨rfl, Rel.refl _⟩
      clear hK K
    refine wpCalm_go rfl (by kernel_rfl) (fun K hK => ?_)
    apply Exists.intro
    refine ⟨fun M w hM hS => ?_, hK _ ?_⟩
    · have c1 := hS.1
      have c2 := hS.2.1
      have c3 := hS.2.2.1
      have c4 := hS.2.2.2
      unfold calmAt
      go_simp
      with_reducible refine (S4.out _).mono ?_
      rintro e w1 ⟨rfl, rfl⟩
      exact ⟨rfl, Rel.refl _⟩
    clear hK K
    iterate 2
      refine wpCalm_go rfl (by kernel_rfl) (fun K hK => ?_)
      apply Exists.intro
      refine ⟨fun M w hM hS => ?_, hK _ ?_⟩
      · have c1 := hS.1
        have c2 := hS.2.1
        have c3 := hS.2.2.1
        have c4 := hS.2.2.2
        unfold calmAt
        go_simp
        exact ⟨rfl, Rel.refl _⟩
      clear hK K
    refine wpCalm_go rfl (by kernel_rfl) (fun K hK => ?_)
    apply Exists.intro
    refine ⟨fun M w hM hS => ?_, hK _ ?_⟩
    · have c1 := hS.1
      have c2 := hS.2.1
      have c3 := hS.2.2.1
      have c4 := hS.2.2.2
      unfold calmAt
      go_simp
      with_reducible refine (S3.out _).mono ?_
      rintro e w1 ⟨rfl, rfl⟩
      exact ⟨rfl, Rel.refl _⟩
    clear hK K
    refine wpCalm_go rfl (by kernel_rfl) (fun K hK => ?_)
    apply Exists.intro
    refine ⟨fun M w hM hS => ?_, hK _ ?_⟩
    · unfold calmAt
      go_simp
      with_reducible refine (hQ.out _).mono ?_
      rintro e w1 ⟨rfl, hb⟩
      exact ⟨rfl, hb⟩
    clear hK K
    iterate 2
      refine wpCalm_go rfl (by kernel_rfl) (fun K hK => ?_)
      apply Exists.intro
      refine ⟨fun M w hM hS => ?_, hK _ ?_⟩
      · unfold calmAt
        go_simp
        exact ⟨rfl, Rel.refl _⟩
      clear hK K
    refine wpCalm_nil ?_
    have q := keep2 h0 (b := w.heap.size) (by first | (simp; done) | (simp; omega) | omega)
    have kc3_0_0 := q.1
    have kc3_0_1 := q.2.1
    have kf3_0_0 := q.2.2.1
    have kf3_0_1 := q.2.2.2.1
    have kl3_0 := q.2.2.2.2.1
    have kn3_0 := q.2.2.2.2.2.1
    have km3_0 := q.2.2.2.2.2.2
    clear q
    have q := keep2 h0 (b := w.heap.size + 1) (by first | (simp; done) | (simp; omega) | omega)
    have kc3_1_0 := q.1
    have kc3_1_1 := q.2.1
    have kf3_1_0 := q.2.2.1
    have kf3_1_1 := q.2.2.2.1
    have kl3_1 := q.2.2.2.2.1
    have kn3_1 := q.2.2.2.2.2.1
    have km3_1 := q.2.2.2.2.2.2
    clear q
    have q := keep2 h0 (b := w.heap.size + 2) (by first | (simp; done) | (simp; omega) | omega)
    have kc3_2_0 := q.1
    have kc3_2_1 := q.2.1
    have kf3_2_0 := q.2.2.1
    have kf3_2_1 := q.2.2.2.1
    have kl3_2 := q.2.2.2.2.1
    have kn3_2 := q.2.2.2.2.2.1
    have km3_2 := q.2.2.2.2.2.2
    clear q
    have kz3 := h0.size
    (try simp only [World.size_alloc, World.size_setCell, World.size_drew] at kz3)
    have H3 := Lib.hid h0
    clear h0
    refine wpAnyR_ready (rs := [16]) (by kernel_rfl) (by simp) (AllR.cons rfl (fun w4 h4 K' hK' => ?_) AllR.nil)
    have q := keep2 h4 (b := w.heap.size) (by first | (simp; done) | (simp; omega) | omega)
    have kc4_0_0 := q.1
    have kc4_0_1 := q.2.1
    have kf4_0_0 := q.2.2.1
    have kf4_0_1 := q.2.2.2.1
    have kl4_0 := q.2.2.2.2.1
    have kn4_0 := q.2.2.2.2.2.1
    have km4_0 := q.2.2.2.2.2.2
    clear q
    have q := keep2 h4 (b := w.heap.size + 1) (by first | (simp; done) | (simp; omega) | omega)
    have kc4_1_0 := q.1
    have kc4_1_1 := q.2.1
    have kf4_1_0 := q.2.2.1
    have kf4_1_1 := q.2.2.2.1
    have kl4_1 := q.2.2.2.2.1
    have kn4_1 := q.2.2.2.2.2.1
    have km4_1 := q.2.2.2.2.2.2
    clear q
    have q := keep2 h4 (b := w.heap.size + 2) (by first | (simp; done) | (simp; omega) | omega)
    have kc4_2_0 := q.1
    have kc4_2_1 := q.2.1
    have kf4_2_0 := q.2.2.1
    have kf4_2_1 := q.2.2.2.1
    have kl4_2 := q.2.2.2.2.1
    have kn4_2 := q.2.2.2.2.2.1
    have km4_2 := q.2.2.2.2.2.2
    clear q
    have kz4 := h4.size
    (try simp only [World.size_alloc, World.size_setCell, World.size_drew] at kz4)
    have H4 := Lib.hid h4
    clear h4
    go_simp
    refine hK'.out _ _ ⟨by go_simp, by go_simp, by go_simp, by go_simp⟩ ?_
    clear hK' K'
    refine wpAnyR_ready (rs := [17]) (by kernel_rfl) (by simp) (AllR.cons rfl (fun w5 h5 K' hK' => ?_) AllR.nil)
    have q := keep2 h5 (b := w.heap.size) (by first | (simp; done) | (simp; omega) | omega)
    have kc5_0_0 := q.1
    have kc5_0_1 := q.2.1
    have kf5_0_0 := q.2.2.1
    have kf5_0_1 := q.2.2.2.1
    have kl5_0 := q.2.2.2.2.1
    have kn5_0 := q.2.2.2.2.2.1
    have km5_0 := q.2.2.2.2.2.2
    clear q
    have q := keep2 h5 (b := w.heap.size + 1) (by first | (simp; done) | (simp; omega) | omega)
    have kc5_1_0 := q.1
    have kc5_1_1 := q.2.1
    have kf5_1_0 := q.2.2.1
    have kf5_1_1 := q.2.2.2.1
    have kl5_1 := q.2.2.2.2.1
    have kn5_1 := q.2.2.2.2.2.1
    have km5_1 := q.2.2.2.2.2.2
    clear q
    have q := keep2 h5 (b := w.heap.size + 2) (by first | (simp; done) | (simp; omega) | omega)
    have kc5_2_0 := q.1
    have kc5_2_1 := q.2.1
    have kf5_2_0 := q.2.2.1
    have kf5_2_1 := q.2.2.2.1
    have kl5_2 := q.2.2.2.2.1
    have kn5_2 := q.2.2.2.2.2.1
    have km5_2 := q.2.2.2.2.2.2
    clear q
    have kz5 := h5.size
    (try simp only [World.size_alloc, World.size_setCell, World.size_drew] at kz5)
    have H5 := Lib.hid h5
    clear h5
    go_simp
    refine hK'.out _ _ ⟨by go_simp, by go_simp, by go_simp, by go_simp⟩ ?_
    clear hK' K'
    refine wpAnyR_end (by kernel_rfl) (fun w6 h6 => ?_)
    (try simp only [Act.put, List.setIfInBounds_toArray, List.set_cons_zero, List.set_cons_succ])
    have q := keep2 h6 (b := w.heap.size) (by first | (simp; done) | (simp; omega) | omega)
    have kc6_0_0 := q.1
    have kc6_0_1 := q.2.1
    have kf6_0_0 := q.2.2.1
    have kf6_0_1 := q.2.2.2.1
    have kl6_0 := q.2.2.2.2.1
    have kn6_0 := q.2.2.2.2.2.1
    have km6_0 := q.2.2.2.2.2.2
    clear q
    have q := keep2 h6 (b := w.heap.size + 1) (by first | (simp; done) | (simp; omega) | omega)
    have kc6_1_0 := q.1
    have kc6_1_1 := q.2.1
    have kf6_1_0 := q.2.2.1
    have kf6_1_1 := q.2.2.2.1
    have kl6_1 := q.2.2.2.2.1
    have kn6_1 := q.2.2.2.2.2.1
    have km6_1 := q.2.2.2.2.2.2
    clear q
    have q := keep2 h6 (b := w.heap.size + 2) (by first | (simp; done) | (simp; omega) | omega)
    have kc6_2_0 := q.1
    have kc6_2_1 := q.2.1
    have kf6_2_0 := q.2.2.1
    have kf6_2_1 := q.2.2.2.1
    have kl6_2 := q.2.2.2.2.1
    have kn6_2 := q.2.2.2.2.2.1
    have km6_2 := q.2.2.2.2.2.2
    clear q
    have kz6 := h6.size
    (try simp only [World.size_alloc, World.size_setCell, World.size_drew] at kz6)
    have H6 := Lib.hid h6
    clear h6
    go_wp2
    refine bodyPost_ret ?_ rfl ⟨rfl, ?_⟩
    · simp [results, Try.results29, go_sem, kc6_2_0, kc6_2_1, kl6_2, kc5_2_0, kc5_2_1, kl5_2, kc4_2_0, kc4_2_1, kl4_2, kc3_2_0, kc3_2_1, kl3_2, kc2_2_0, kc2_2_1, kl2_2, kc1_2_0, kc1_2_1, kl1_2]
    · (repeat (first | with_reducible exact Rel.refl _ | with_reducible refine Rel.alloc ?_ _ | with_reducible refine Rel.setCell ?_ (by first | (simp; done) | (simp; omega)) _ | with_reducible refine Rel.drew ?_ | with_reducible refine Rel.trans ?_ H6.out | with_reducible refine Rel.trans ?_ H5.out | with_reducible refine Rel.trans ?_ H4.out | with_reducible refine Rel.trans ?_ H3.out | with_reducible refine Rel.trans ?_ H2.out | with_reducible refine Rel.trans ?_ H1.out))
  · have z1 := hP a (by omega); have z2 := hP' a h1; have z3 := hP c h2; clear hN hP hN' hP'
    go_enter Try.func29, Try.ntmps29
    go_wp2_with fail
    with_reducible refine (V1.out _).mono ?_
    rintro e w1 ⟨rfl, h1⟩
    have q := keep2 h1 (b := w.heap.size) (by first | (simp; done) | (simp; omega) | omega)
    have kc1_0_0 := q.1
    have kc1_0_1 := q.2.1
    have kf1_0_0 := q.2.2.1
    have kf1_0_1 := q.2.2.2.1
    have kl1_0 := q.2.2.2.2.1
    have kn1_0 := q.2.2.2.2.2.1
    have km1_0 := q.2.2.2.2.2.2
    clear q
    have q := keep2 h1 (b := w.heap.size + 1) (by first | (simp; done) | (simp; omega) | omega)
    have kc1_1_0 := q.1
    have kc1_1_1 := q.2.1
    have kf1_1_0 := q.2.2.1
    have kf1_1_1 := q.2.2.2.1
    have kl1_1 := q.2.2.2.2.1
    have kn1_1 := q.2.2.2.2.2.1
    have km1_1 := q.2.2.2.2.2.2
    clear q
    have q := keep2 h1 (b := w.heap.size + 2) (by first | (simp; done) | (simp; omega) | omega)
    have kc1_2_0 := q.1
    have kc1_2_1 := q.2.1
    have kf1_2_0 := q.2.2.1
    have kf1_2_1 := q.2.2.2.1
    have kl1_2 := q.2.2.2.2.1
    have kn1_2 := q.2.2.2.2.2.1
    have km1_2 := q.2.2.2.2.2.2
    clear q
    have kz1 := h1.size
    (try simp only [World.size_alloc, World.size_setCell, World.size_drew] at kz1)
    have H1 := Lib.hid h1
    clear h1
    go_wp2_with fail
    with_reducible refine (V2.out _).mono ?_
    rintro e w2 ⟨rfl, h2⟩
    have q := keep2 h2 (b := w.heap.size) (by first | (simp; done) | (simp; omega) | omega)
    have kc2_0_0 := q.1
    have kc2_0_1 := q.2.1
    have kf2_0_0 := q.2.2.1
    have kf2_0_1 := q.2.2.2.1
    have kl2_0 := q.2.2.2.2.1
    have kn2_0 := q.2.2.2.2.2.1
    have km2_0 := q.2.2.2.2.2.2
    clear q
    have q := keep2 h2 (b := w.heap.size + 1) (by first | (simp; done) | (simp; omega) | omega)
    have kc2_1_0 := q.1
    have kc2_1_1 := q.2.1
    have kf2_1_0 := q.2.2.1
    have kf2_1_1 := q.2.2.2.1
    have kl2_1 := q.2.2.2.2.1
    have kn2_1 := q.2.2.2.2.2.1
    have km2_1 := q.2.2.2.2.2.2
    clear q
    have q := keep2 h2 (b := w.heap.size + 2) (by first | (simp; done) | (simp; omega) | omega)
    have kc2_2_0 := q.1
    have kc2_2_1 := q.2.1
    have kf2_2_0 := q.2.2.1
    have kf2_2_1 := q.2.2.2.1
    have kl2_2 := q.2.2.2.2.1
    have kn2_2 := q.2.2.2.2.2.1
    have km2_2 := q.2.2.2.2.2.2
    clear q
    have kz2 := h2.size
    (try simp only [World.size_alloc, World.size_setCell, World.size_drew] at kz2)
    have H2 := Lib.hid h2
    clear h2
    go_wp2_with fail
    refine wp_region_calm (fun _ w' => w'.cell? { block := w.heap.size, off := 0 } = some (.int .i64 a) ∧ w'.cell? { block := w.heap.size, off := 1 } = some (.int .i64 b) ∧ w'.cell? { block := w.heap.size + 1, off := 0 } = some (.int .i64 c) ∧ w'.cell? { block := w.heap.size + 1, off := 1 } = some (.int .i64 d)) (fun _ => false) [0, 1, 2, 3, 4, 5, 6, 7, 8, 9, 10, 11, 12, 13, 14, 15] 2 (by kernel_rfl) (by kernel_rfl) ?hst ?hS0 (fun w0 h0 => ?_)
    case hst => exact fun _ _ _ h r => ⟨r.cell h.1, r.cell h.2.1, r.cell h.2.2.1, r.cell h.2.2.2⟩
    case hS0 => exact ⟨by go_simp, by go_simp, by go_simp, by go_simp⟩
    iterate 3
      refine wpCalm_go rfl (by kernel_rfl) (fun K hK => ?_)
      apply Exists.intro
      refine ⟨fun M w hM hS => ?_, hK _ ?_⟩
      · have c1 := hS.1
        have c2 := hS.2.1
        have c3 := hS.2.2.1
        have c4 := hS.2.2.2
        unfold calmAt
        go_simp
        exact ⟨rfl, Rel.refl _⟩
      clear hK K
    refine wpCalm_go rfl (by kernel_rfl) (fun K hK => ?_)
    apply Exists.intro
    refine ⟨fun M w hM hS => ?_, hK _ ?_⟩
    · have c1 := hS.1
      have c2 := hS.2.1
      have c3 := hS.2.2.1
      have c4 := hS.2.2.2
      unfold calmAt
      go_simp
      with_reducible refine (S1.out _).mono ?_
      rintro e w1 ⟨rfl, rfl⟩
      exact ⟨rfl, Rel.refl _⟩
    clear hK K
    iterate 2
      refine wpCalm_go rfl (by kernel_rfl) (fun K hK => ?_)
      apply Exists.intro
      refine ⟨fun M w hM hS => ?_, hK _ ?_⟩
      · have c1 := hS.1
        have c2 := hS.2.1
        have c3 := hS.2.2.1
        have c4 := hS.2.2.2
        unfold calmAt
        go_simp
        exact ⟨rfl, Rel.refl _⟩
      clear hK K
    refine wpCalm_go rfl (by kernel_rfl) (fun K hK => ?_)
    apply Exists.intro
    refine ⟨fun M w hM hS => ?_, hK _ ?_⟩
    · have c1 := hS.1
      have c2 := hS.2.1
      have c3 := hS.2.2.1
      have c4 := hS.2.2.2
      unfold calmAt
      go_simp
      with_reducible refine (S2.out _).mono ?_
      rintro e w1 ⟨rfl, rfl⟩
      exact ⟨rfl, Rel.refl _⟩
    clear hK K
    iterate 2
      refine wpCalm_go rfl (by kernel_rfl) (fun K hK => ?_)
      apply Exists.intro
      refine ⟨fun M w hM hS => ?_, hK _ ?_⟩
      · have c1 := hS.1
        have c2 := hS.2.1
        have c3 := hS.2.2.1
        have c4 := hS.2.2.2
        unfold calmAt
        go_simp
        exact ⟨rfl, Rel.refl _⟩
      clear hK K
    refine wpCalm_go rfl (by kernel_rfl) (fun K hK => ?_)
    apply Exists.intro
    refine ⟨fun M w hM hS => ?_, hK _ ?_⟩
    · have c1 := hS.1
      have c2 := hS.2.1
      have c3 := hS.2.2.1
      have c4 := hS.2.2.2
      unfold calmAt
      go_simp
      with_reducible refine (S4.out _).mono ?_
      rintro e w1 ⟨rfl, rfl⟩
      exact ⟨rfl, Rel.refl _⟩
    clear hK K
    iterate 2
      refine wpCalm_go rfl (by kernel_rfl) (fun K hK => ?_)
      apply Exists.intro
      refine ⟨fun M w hM hS => ?_, hK _ ?_⟩
      · have c1 := hS.1
        have c2 := hS.2.1
        have c3 := hS.2.2.1
        have c4 := hS.2.2.2
        unfold calmAt
        go_simp
        exact ⟨rfl, Rel.refl _⟩
      clear hK K
    refine wpCalm_go rfl (by kernel_rfl) (fun K hK => ?_)
    apply Exists.intro
    refine ⟨fun M w hM hS => ?_, hK _ ?_⟩
    · have c1 := hS.1
      have c2 := hS.2.1
      have c3 := hS.2.2.1
      have c4 := hS.2.2.2
      unfold calmAt
      go_simp
      with_reducible refine (S3.out _).mono ?_
      rintro e w1 ⟨rfl, rfl⟩
      exact ⟨rfl, Rel.refl _⟩
    clear hK K
    refine wpCalm_go rfl (by kernel_rfl) (fun K hK => ?_)
    apply Exists.intro
    refine ⟨fun M w hM hS => ?_, hK _ ?_⟩
    · unfold calmAt
      go_simp
      with_reducible refine (hQ.out _).mono ?_
      rintro e w1 ⟨rfl, hb⟩
      exact ⟨rfl, hb⟩
    clear hK K
    iterate 2
      refine wpCalm_go rfl (by kernel_rfl) (fun K hK => ?_)
      apply Exists.intro
      refine ⟨fun M w hM hS => ?_, hK _ ?_⟩
      · unfold calmAt
        go_simp
        exact ⟨rfl, Rel.refl _⟩
      clear hK K
    refine wpCalm_nil ?_
    have q := keep2 h0 (b := w.heap.size) (by first | (simp; done) | (simp; omega) | omega)
    have kc3_0_0 := q.1
    have kc3_0_1 := q.2.1
    have kf3_0_0 := q.2.2.1
    have kf3_0_1 := q.2.2.2.1
    have kl3_0 := q.2.2.2.2.1
    have kn3_0 := q.2.2.2.2.2.1
    have km3_0 := q.2.2.2.2.2.2
    clear q
    have q := keep2 h0 (b := w.heap.size + 1) (by first | (simp; done) | (simp; omega) | omega)
    have kc3_1_0 := q.1
    have kc3_1_1 := q.2.1
    have kf3_1_0 := q.2.2.1
    have kf3_1_1 := q.2.2.2.1
    have kl3_1 := q.2.2.2.2.1
    have kn3_1 := q.2.2.2.2.2.1
    have km3_1 := q.2.2.2.2.2.2
    clear q
    have q := keep2 h0 (b := w.heap.size + 2) (by first | (simp; done) | (simp; omega) | omega)
    have kc3_2_0 := q.1
    have kc3_2_1 := q.2.1
    have kf3_2_0 := q.2.2.1
    have kf3_2_1 := q.2.2.2.1
    have kl3_2 := q.2.2.2.2.1
    have kn3_2 := q.2.2.2.2.2.1
    have km3_2 := q.2.2.2.2.2.2
    clear q
    have kz3 := h0.size
    (try simp only [World.size_alloc, World.size_setCell, World.size_drew] at kz3)
    have H3 := Lib.hid h0
    clear h0
    refine wpAnyR_ready (rs := [16]) (by kernel_rfl) (by simp) (AllR.cons rfl (fun w4 h4 K' hK' => ?_) AllR.nil)
    have q := keep2 h4 (b := w.heap.size) (by first | (simp; done) | (simp; omega) | omega)
    have kc4_0_0 := q.1
    have kc4_0_1 := q.2.1
    have kf4_0_0 := q.2.2.1
    have kf4_0_1 := q.2.2.2.1
    have kl4_0 := q.2.2.2.2.1
    have kn4_0 := q.2.2.2.2.2.1
    have km4_0 := q.2.2.2.2.2.2
    clear q
    have q := keep2 h4 (b := w.heap.size + 1) (by first | (simp; done) | (simp; omega) | omega)
    have kc4_1_0 := q.1
    have kc4_1_1 := q.2.1
    have kf4_1_0 := q.2.2.1
    have kf4_1_1 := q.2.2.2.1
    have kl4_1 := q.2.2.2.2.1
    have kn4_1 := q.2.2.2.2.2.1
    have km4_1 := q.2.2.2.2.2.2
    clear q
    have q := keep2 h4 (b := w.heap.size + 2) (by first | (simp; done) | (simp; omega) | omega)
    have kc4_2_0 := q.1
    have kc4_2_1 := q.2.1
    have kf4_2_0 := q.2.2.1
    have kf4_2_1 := q.2.2.2.1
    have kl4_2 := q.2.2.2.2.1
    have kn4_2 := q.2.2.2.2.2.1
    have km4_2 := q.2.2.2.2.2.2
    clear q
    have kz4 := h4.size
    (try simp only [World.size_alloc, World.size_setCell, World.size_drew] at kz4)
    have H4 := Lib.hid h4
    clear h4
    go_simp
    refine hK'.out _ _ ⟨by go_simp, by go_simp, by go_simp, by go_simp⟩ ?_
    clear hK' K'
    refine wpAnyR_ready (rs := [17]) (by kernel_rfl) (by simp) (AllR.cons rfl (fun w5 h5 K' hK' => ?_) AllR.nil)
    have q := keep2 h5 (b := w.heap.size) (by first | (simp; done) | (simp; omega) | omega)
    have kc5_0_0 := q.1
    have kc5_0_1 := q.2.1
    have kf5_0_0 := q.2.2.1
    have kf5_0_1 := q.2.2.2.1
    have kl5_0 := q.2.2.2.2.1
    have kn5_0 := q.2.2.2.2.2.1
    have km5_0 := q.2.2.2.2.2.2
    clear q
    have q := keep2 h5 (b := w.heap.size + 1) (by first | (simp; done) | (simp; omega) | omega)
    have kc5_1_0 := q.1
    have kc5_1_1 := q.2.1
    have kf5_1_0 := q.2.2.1
    have kf5_1_1 := q.2.2.2.1
    have kl5_1 := q.2.2.2.2.1
    have kn5_1 := q.2.2.2.2.2.1
    have km5_1 := q.2.2.2.2.2.2
    clear q
    have q := keep2 h5 (b := w.heap.size + 2) (by first | (simp; done) | (simp; omega) | omega)
    have kc5_2_0 := q.1
    have kc5_2_1 := q.2.1
    have kf5_2_0 := q.2.2.1
    have kf5_2_1 := q.2.2.2.1
    have kl5_2 := q.2.2.2.2.1
    have kn5_2 := q.2.2.2.2.2.1
    have km5_2 := q.2.2.2.2.2.2
    clear q
    have kz5 := h5.size
    (try simp only [World.size_alloc, World.size_setCell, World.size_drew] at kz5)
    have H5 := Lib.hid h5
    clear h5
    go_simp
    refine hK'.out _ _ ⟨by go_simp, by go_simp, by go_simp, by go_simp⟩ ?_
    clear hK' K'
    refine wpAnyR_end (by kernel_rfl) (fun w6 h6 => ?_)
    (try simp only [Act.put, List.setIfInBounds_toArray, List.set_cons_zero, List.set_cons_succ])
    have q := keep2 h6 (b := w.heap.size) (by first | (simp; done) | (simp; omega) | omega)
    have kc6_0_0 := q.1
    have kc6_0_1 := q.2.1
    have kf6_0_0 := q.2.2.1
    have kf6_0_1 := q.2.2.2.1
    have kl6_0 := q.2.2.2.2.1
    have kn6_0 := q.2.2.2.2.2.1
    have km6_0 := q.2.2.2.2.2.2
    clear q
    have q := keep2 h6 (b := w.heap.size + 1) (by first | (simp; done) | (simp; omega) | omega)
    have kc6_1_0 := q.1
    have kc6_1_1 := q.2.1
    have kf6_1_0 := q.2.2.1
    have kf6_1_1 := q.2.2.2.1
    have kl6_1 := q.2.2.2.2.1
    have kn6_1 := q.2.2.2.2.2.1
    have km6_1 := q.2.2.2.2.2.2
    clear q
    have q := keep2 h6 (b := w.heap.size + 2) (by first | (simp; done) | (simp; omega) | omega)
    have kc6_2_0 := q.1
    have kc6_2_1 := q.2.1
    have kf6_2_0 := q.2.2.1
    have kf6_2_1 := q.2.2.2.1
    have kl6_2 := q.2.2.2.2.1
    have kn6_2 := q.2.2.2.2.2.1
    have km6_2 := q.2.2.2.2.2.2
    clear q
    have kz6 := h6.size
    (try simp only [World.size_alloc, World.size_setCell, World.size_drew] at kz6)
    have H6 := Lib.hid h6
    clear h6
    go_wp2
    refine bodyPost_ret ?_ rfl ⟨rfl, ?_⟩
    · simp [results, Try.results29, go_sem, kc6_2_0, kc6_2_1, kl6_2, kc5_2_0, kc5_2_1, kl5_2, kc4_2_0, kc4_2_1, kl4_2, kc3_2_0, kc3_2_1, kl3_2, kc2_2_0, kc2_2_1, kl2_2, kc1_2_0, kc1_2_1, kl1_2]
    · (repeat (first | with_reducible exact Rel.refl _ | with_reducible refine Rel.alloc ?_ _ | with_reducible refine Rel.setCell ?_ (by first | (simp; done) | (simp; omega)) _ | with_reducible refine Rel.drew ?_ | with_reducible refine Rel.trans ?_ H6.out | with_reducible refine Rel.trans ?_ H5.out | with_reducible refine Rel.trans ?_ H4.out | with_reducible refine Rel.trans ?_ H3.out | with_reducible refine Rel.trans ?_ H2.out | with_reducible refine Rel.trans ?_ H1.out))

set_option maxHeartbeats 6400000 in
theorem rmul_core (a c : Int) (s : Bool) (A B C D : Nat) (R1 R2 R3 : Int) (w : World) (hB : B < 18446744073709551616) (hD : D < 18446744073709551616)
    (h : (a < 0 ∧ c < 0 ∧ s = false) ∨ (a < 0 ∧ 0 ≤ c ∧ s = true) ∨ (0 ≤ a ∧ c < 0 ∧ s = true) ∨ (0 ≤ a ∧ 0 ≤ c ∧ s = false))
    (V1 : Hid (∀ w, Calls Try.prog 19 #[.agg #[.int .i64 a, .int .i64 B]] w fun e w' => e = .returned (.bool true) ∧ Rel w w'))
    (V2 : Hid (∀ w, Calls Try.prog 19 #[.agg #[.int .i64 c, .int .i64 D]] w fun e w' => e = .returned (.bool true) ∧ Rel w w'))
    (S1 : Hid (∀ w, Calls Try.prog 41 #[.int .i64 a] w fun e w' => e = .returned (.int .u64 A) ∧ w = w'))
    (S3 : Hid (∀ w, Calls Try.prog 41 #[.int .i64 c] w fun e w' => e = .returned (.int .u64 C) ∧ w = w'))
    (hQ : Hid (∀ w, Calls Try.prog 45 #[.bool s, .int .u64 A, .int .u64 B, .int .u64 C, .int .u64 D] w (FrRes R1 R2 R3 w))) :
    Calls Try.prog 28 #[.agg #[.int .i64 a, .int .i64 B], .agg #[.int .i64 c, .int .i64 D]] w (FrRes R1 R2 R3 w) := by
  unfold FrRes at hQ ⊢
  skip
  have q1 := u64_nat hB
  have q2 := u64_nat hD
  have hN : ∀ x : Int, x < 0 → decide (x < 0) = true := by simp
  have hP : ∀ x : Int, 0 ≤ x → decide (x < 0) = false := by intro x hx; simp; omega
  have hN' : ∀ x : Int, x ≤ 0 → decide (0 < x) = false := by intro x hx; simp; omega
  have hP' : ∀ x : Int, 0 < x → decide (0 < x) = true := by simp
  rcases h with ⟨h1, h2, rfl⟩ | ⟨h1, h2, rfl⟩ | ⟨h1, h2, rfl⟩ | ⟨h1, h2, rfl⟩
  · have z1 := hN a h1; have z3 := hN c h2; clear hN hP hN' hP'
    go_enter Try.func28, Try.ntmps28
    go_wp2_with fail
    with_reducible refine (V1.out _).mono ?_
    rintro e w1 ⟨rfl, h1⟩
    have q := keep2 h1 (b := w.heap.size) (by first | (simp; done) | (simp; omega) | omega)
    have kc1_0_0 := q.1
    have kc1_0_1 := q.2.1
    have kf1_0_0 := q.2.2.1
    have kf1_0_1 := q.2.2.2.1
    have kl1_0 := q.2.2.2.2.1
    have kn1_0 := q.2.2.2.2.2.1
    have km1_0 := q.2.2.2.2.2.2
    clear q
    have q := keep2 h1 (b := w.heap.size + 1) (by first | (simp; done) | (simp; omega) | omega)
    have kc1_1_0 := q.1
    have kc1_1_1 := q.2.1
    have kf1_1_0 := q.2.2.1
    have kf1_1_1 := q.2.2.2.1
    have kl1_1 := q.2.2.2.2.1
    have kn1_1 := q.2.2.2.2.2.1
    have km1_1 := q.2.2.2.2.2.2
    clear q
    have q := keep2 h1 (b := w.heap.size + 2) (by first | (simp; done) | (simp; omega) | omega)
    have kc1_2_0 := q.1
    have kc1_2_1 := q.2.1
    have kf1_2_0 := q.2.2.1
    have kf1_2_1 := q.2.2.2.1
    have kl1_2 := q.2.2.2.2.1
    have kn1_2 := q.2.2.2.2.2.1
    have km1_2 := q.2.2.2.2.2.2
    clear q
    have kz1 := h1.size
    (try simp only [World.size_alloc, World.size_setCell, World.size_drew] at kz1)
    have H1 := Lib.hid h1
    clear h1
    go_wp2_with fail
    with_reducible refine (V2.out _).mono ?_
    rintro e w2 ⟨rfl, h2⟩
    have q := keep2 h2 (b := w.heap.size) (by first | (simp; done) | (simp; omega) | omega)
    have kc2_0_0 := q.1
    have kc2_0_1 := q.2.1
    have kf2_0_0 := q.2.2.1
    have kf2_0_1 := q.2.2.2.1
    have kl2_0 := q.2.2.2.2.1
    have kn2_0 := q.2.2.2.2.2.1
    have km2_0 := q.2.2.2.2.2.2
    clear q
    have q := keep2 h2 (b := w.heap.size + 1) (by first | (simp; done) | (simp; omega) | omega)
    have kc2_1_0 := q.1
    have kc2_1_1 := q.2.1
    have kf2_1_0 := q.2.2.1
    have kf2_1_1 := q.2.2.2.1
    have kl2_1 := q.2.2.2.2.1
    have kn2_1 := q.2.2.2.2.2.1
    have km2_1 := q.2.2.2.2.2.2
    clear q
    have q := keep2 h2 (b := w.heap.size + 2) (by first | (simp; done) | (simp; omega) | omega)
    have kc2_2_0 := q.1
    have kc2_2_1 := q.2.1
    have kf2_2_0 := q.2.2.1
    have kf2_2_1 := q.2.2.2.1
    have kl2_2 := q.2.2.2.2.1
    have kn2_2 := q.2.2.2.2.2.1
    have km2_2 := q.2.2.2.2.2.2
    clear q
    have kz2 := h2.size
    (try simp only [World.size_alloc, World.size_setCell, World.size_drew] at kz2)
    have H2 := Lib.hid h2
    clear h2
    go_wp2_with fail
    refine wp_region_calm (fun _ w' => w'.cell? { block := w.heap.size, off := 0 } = some (.int .i64 a) ∧ w'.cell? { block := w.heap.size, off := 1 } = some (.int .i64 B) ∧ w'.cell? { block := w.heap.size + 1, off := 0 } = some (.int .i64 c) ∧ w'.cell? { block := w.heap.size + 1, off := 1 } = some (.int .i64 D)) (fun _ => false) [0, 1, 2, 3, 4, 5, 6, 7, 8, 9, 10, 11, 12, 13, 14, 15, 16, 17, 18, 19, 20, 21] 2 (by kernel_rfl) (by kernel_rfl) ?hst ?hS0 (fun w0 h0 => ?_)
    case hst => exact fun _ _ _ h r => ⟨r.cell h.1, r.cell h.2.1, r.cell h.2.2.1, r.cell h.2.2.2⟩
    case hS0 => exact ⟨by go_simp, by go_simp, by go_simp, by go_simp⟩
    iterate 9
      refine wpCalm_go rfl (by kernel_rfl) (fun K hK => ?_)
      apply Exists.intro
      refine ⟨fun M w hM hS => ?_, hK _ ?_⟩
      · have c1 := hS.1
        have c2 := hS.2.1
        have c3 := hS.2.2.1
        have c4 := hS.2.2.2
        unfold calmAt
        go_simp
        exact ⟨rfl, Rel.refl _⟩
      clear hK K
    refine wpCalm_go rfl (by kernel_rfl) (fun K hK => ?_)
    apply Exists.intro
    refine ⟨fun M w hM hS => ?_, hK _ ?_⟩
    · have c1 := hS.1
      have c2 := hS.2.1
      have c3 := hS.2.2.1
      have c4 := hS.2.2.2
      unfold calmAt
      go_simp
      with_reducible refine (S1.out _).mono ?_
      rintro e w1 ⟨rfl, rfl⟩
      exact ⟨rfl, Rel.refl _⟩
    clear hK K
    iterate 5
      refine wpCalm_go rfl (by kernel_rfl) (fun K hK => ?_)
      apply Exists.intro
      refine ⟨fun M w hM hS => ?_, hK _ ?_⟩
      · have c1 := hS.1
        have c2 := hS.2.1
        have c3 := hS.2.2.1
        have c4 := hS.2.2.2
        unfold calmAt
        go_simp
        exact ⟨rfl, Rel.refl _⟩
      clear hK K
    refine wpCalm_go rfl (by kernel_rfl) (fun K hK => ?_)
    apply Exists.intro
    refine ⟨fun M w hM hS => ?_, hK _ ?_⟩
    · have c1 := hS.1
      have c2 := hS.2.1
      have c3 := hS.2.2.1
      have c4 := hS.2.2.2
      unfold calmAt
      go_simp
      with_reducible refine (S3.out _).mono ?_
      rintro e w1 ⟨rfl, rfl⟩
      exact ⟨rfl, Rel.refl _⟩
    clear hK K
    iterate 3
      refine wpCalm_go rfl (by kernel_rfl) (fun K hK => ?_)
      apply Exists.intro
      refine ⟨fun M w hM hS => ?_, hK _ ?_⟩
      · have c1 := hS.1
        have c2 := hS.2.1
        have c3 := hS.2.2.1
        have c4 := hS.2.2.2
        unfold calmAt
        go_simp
        exact ⟨rfl, Rel.refl _⟩
      clear hK K
    refine wpCalm_go rfl (by kernel_rfl) (fun K hK => ?_)
    apply Exists.intro
    refine ⟨fun M w hM hS => ?_, hK _ ?_⟩
    · unfold calmAt
      go_simp
      with_reducible refine (hQ.out _).mono ?_
      rintro e w1 ⟨rfl, hb⟩
      exact ⟨rfl, hb⟩
    clear hK K
    iterate 2
      refine wpCalm_go rfl (by kernel_rfl) (fun K hK => ?_)
      apply Exists.intro
      refine ⟨fun M w hM hS => ?_, hK _ ?_⟩
      · unfold calmAt
        go_simp
        exact ⟨rfl, Rel.refl _⟩
      clear hK K
    refine wpCalm_nil ?_
    have q := keep2 h0 (b := w.heap.size) (by first | (simp; done) | (simp; omega) | omega)
    have kc3_0_0 := q.1
    have kc3_0_1 := q.2.1
    have kf3_0_0 := q.2.2.1
    have kf3_0_1 := q.2.2.2.1
    have kl3_0 := q.2.2.2.2.1
    have kn3_0 := q.2.2.2.2.2.1
    have km3_0 := q.2.2.2.2.2.2
    clear q
    have q := keep2 h0 (b := w.heap.size + 1) (by first | (simp; done) | (simp; omega) | omega)
    have kc3_1_0 := q.1
    have kc3_1_1 := q.2.1
    have kf3_1_0 := q.2.2.1
    have kf3_1_1 := q.2.2.2.1
    have kl3_1 := q.2.2.2.2.1
    have kn3_1 := q.2.2.2.2.2.1
    have km3_1 := q.2.2.2.2.2.2
    clear q
    have q := keep2 h0 (b := w.heap.size + 2) (by first | (simp; done) | (simp; omega) | omega)
    have kc3_2_0 := q.1
    have kc3_2_1 := q.2.1
    have kf3_2_0 := q.2.2.1
    have kf3_2_1 := q.2.2.2.1
    have kl3_2 := q.2.2.2.2.1
    have kn3_2 := q.2.2.2.2.2.1
    have km3_2 := q.2.2.2.2.2.2
    clear q
    have kz3 := h0.size
    (try simp only [World.size_alloc, World.size_setCell, World.size_drew] at kz3)
    have H3 := Lib.hid h0
    clear h0
    refine wpAnyR_ready (rs := [22]) (by kernel_rfl) (by simp) (AllR.cons rfl (fun w4 h4 K' hK' => ?_) AllR.nil)
    have q := keep2 h4 (b := w.heap.size) (by first | (simp; done) | (simp; omega) | omega)
    have kc4_0_0 := q.1
    have kc4_0_1 := q.2.1
    have kf4_0_0 := q.2.2.1
    have kf4_0_1 := q.2.2.2.1
    have kl4_0 := q.2.2.2.2.1
    have kn4_0 := q.2.2.2.2.2.1
    have km4_0 := q.2.2.2.2.2.2
    clear q
    have q := keep2 h4 (b := w.heap.size + 1) (by first | (simp; done) | (simp; omega) | omega)
    have kc4_1_0 := q.1
    have kc4_1_1 := q.2.1
    have kf4_1_0 := q.2.2.1
    have kf4_1_1 := q.2.2.2.1
    have kl4_1 := q.2.2.2.2.1
    have kn4_1 := q.2.2.2.2.2.1
    have km4_1 := q.2.2.2.2.2.2
    clear q
    have q := keep2 h4 (b := w.heap.size + 2) (by first | (simp; done) | (simp; omega) | omega)
    have kc4_2_0 := q.1
    have kc4_2_1 := q.2.1
    have kf4_2_0 := q.2.2.1
    have kf4_2_1 := q.2.2.2.1
    have kl4_2 := q.2.2.2.2.1
    have kn4_2 := q.2.2.2.2.2.1
    have km4_2 := q.2.2.2.2.2.2
    clear q
    have kz4 := h4.size
    (try simp only [World.size_alloc, World.size_setCell, World.size_drew] at kz4)
    have H4 := Lib.hid h4
    clear h4
    go_simp
    refine hK'.out _ _ ⟨by go_simp, by go_simp, by go_simp, by go_simp⟩ ?_
    clear hK' K'
    refine wpAnyR_ready (rs := [23]) (by kernel_rfl) (by simp) (AllR.cons rfl (fun w5 h5 K' hK' => ?_) AllR.nil)
    have q := keep2 h5 (b := w.heap.size) (by first | (simp; done) | (simp; omega) | omega)
    have kc5_0_0 := q.1
    have kc5_0_1 := q.2.1
    have kf5_0_0 := q.2.2.1
    have kf5_0_1 := q.2.2.2.1
    have kl5_0 := q.2.2.2.2.1
    have kn5_0 := q.2.2.2.2.2.1
    have km5_0 := q.2.2.2.2.2.2
    clear q
    have q := keep2 h5 (b := w.heap.size + 1) (by first | (simp; done) | (simp; omega) | omega)
    have kc5_1_0 := q.1
    have kc5_1_1 := q.2.1
    have kf5_1_0 := q.2.2.1
    have kf5_1_1 := q.2.2.2.1
    have kl5_1 := q.2.2.2.2.1
    have kn5_1 := q.2.2.2.2.2.1
    have km5_1 := q.2.2.2.2.2.2
    clear q
    have q := keep2 h5 (b := w.heap.size + 2) (by first | (simp; done) | (simp; omega) | omega)
    have kc5_2_0 := q.1
    have kc5_2_1 := q.2.1
    have kf5_2_0 := q.2.2.1
    have kf5_2_1 := q.2.2.2.1
    have kl5_2 := q.2.2.2.2.1
    have kn5_2 := q.2.2.2.2.2.1
    have km5_2 := q.2.2.2.2.2.2
    clear q
    have kz5 := h5.size
    (try simp only [World.size_alloc, World.size_setCell, World.size_drew] at kz5)
    have H5 := Lib.hid h5
    clear h5
    go_simp
    refine hK'.out _ _ ⟨by go_simp, by go_simp, by go_simp, by go_simp⟩ ?_
    clear hK' K'
    refine wpAnyR_end (by kernel_rfl) (fun w6 h6 => ?_)
    (try simp only [Act.put, List.setIfInBounds_toArray, List.set_cons_zero, List.set_cons_succ])
    have q := keep2 h6 (b := w.heap.size) (by first | (simp; done) | (simp; omega) | omega)
    have kc6_0_0 := q.1
    have kc6_0_1 := q.2.1
    have kf6_0_0 := q.2.2.1
    have kf6_0_1 := q.2.2.2.1
    have kl6_0 := q.2.2.2.2.1
    have kn6_0 := q.2.2.2.2.2.1
    have km6_0 := q.2.2.2.2.2.2
    clear q
    have q := keep2 h6 (b := w.heap.size + 1) (by first | (simp; done) | (simp; omega) | omega)
    have kc6_1_0 := q.1
    have kc6_1_1 := q.2.1
    have kf6_1_0 := q.2.2.1
    have kf6_1_1 := q.2.2.2.1
    have kl6_1 := q.2.2.2.2.1
    have kn6_1 := q.2.2.2.2.2.1
    have km6_1 := q.2.2.2.2.2.2
    clear q
    have q := keep2 h6 (b := w.heap.size + 2) (by first | (simp; done) | (simp; omega) | omega)
    have kc6_2_0 := q.1
    have kc6_2_1 := q.2.1
    have kf6_2_0 := q.2.2.1
    have kf6_2_1 := q.2.2.2.1
    have kl6_2 := q.2.2.2.2.1
    have kn6_2 := q.2.2.2.2.2.1
    have km6_2 := q.2.2.2.2.2.2
    clear q
    have kz6 := h6.size
    (try simp only [World.size_alloc, World.size_setCell, World.size_drew] at kz6)
    have H6 := Lib.hid h6
    clear h6
    go_wp2
    refine bodyPost_ret ?_ rfl ⟨rfl, ?_⟩
    · simp [results, Try.results28, go_sem, kc6_2_0, kc6_2_1, kl6_2, kc5_2_0, kc5_2_1, kl5_2, kc4_2_0, kc4_2_1, kl4_2, kc3_2_0, kc3_2_1, kl3_2, kc2_2_0, kc2_2_1, kl2_2, kc1_2_0, kc1_2_1, kl1_2]
    · (repeat (first | with_reducible exact Rel.refl _ | with_reducible refine Rel.alloc ?_ _ | with_reducible refine Rel.setCell ?_ (by first | (simp; done) | (simp; omega)) _ | with_reducible refine Rel.drew ?_ | with_reducible refine Rel.trans ?_ H6.out | with_reducible refine Rel.trans ?_ H5.out | with_reducible refine Rel.trans ?_ H4.out | with_reducible refine Rel.trans ?_ H3.out | with_reducible refine Rel.trans ?_ H2.out | with_reducible refine Rel.trans ?_ H1.out))
  · have z1 := hN a h1; have z3 := hP c h2; clear hN hP hN' hP'
    go_enter Try.func28, Try.ntmps28
    go_wp2_with fail
    with_reducible refine (V1.out _).mono ?_
    rintro e w1 ⟨rfl, h1⟩
    have q := keep2 h1 (b := w.heap.size) (by first | (simp; done) | (simp; omega) | omega)
    have kc1_0_0 := q.1
    have kc1_0_1 := q.2.1
    have kf1_0_0 := q.2.2.1
    have kf1_0_1 := q.2.2.2.1
    have kl1_0 := q.2.2.2.2.1
    have kn1_0 := q.2.2.2.2.2.1
    have km1_0 := q.2.2.2.2.2.2
    clear q
    have q := keep2 h1 (b := w.heap.size + 1) (by first | (simp; done) | (simp; omega) | omega)
    have kc1_1_0 := q.1
    have kc1_1_1 := q.2.1
    have kf1_1_0 := q.2.2.1
    have kf1_1_1 := q.2.2.2.1
    have kl1_1 := q.2.2.2.2.1
    have kn1_1 := q.2.2.2.2.2.1
    have km1_1 := q.2.2.2.2.2.2
    clear q
    have q := keep2 h1 (b := w.heap.size + 2) (by first | (simp; done) | (simp; omega) | omega)
    have kc1_2_0 := q.1
    have kc1_2_1 := q.2.1
    have kf1_2_0 := q.2.2.1
    have kf1_2_1 := q.2.2.2.1
    have kl1_2 := q.2.2.2.2.1
    have kn1_2 := q.2.2.2.2.2.1
    have km1_2 := q.2.2.2.2.2.2
    clear q
    have kz1 := h1.size
    (try simp only [World.size_alloc, World.size_setCell, World.size_drew] at kz1)
    have H1 := Lib.hid h1
    clear h1
    go_wp2_with fail
    with_reducible refine (V2.out _).mono ?_
    rintro e w2 ⟨rfl, h2⟩
    have q := keep2 h2 (b := w.heap.size) (by first | (simp; done) | (simp; omega) | omega)
    have kc2_0_0 := q.1
    have kc2_0_1 := q.2.1
    have kf2_0_0 := q.2.2.1
    have kf2_0_1 := q.2.2.2.1
    have kl2_0 := q.2.2.2.2.1
    have kn2_0 := q.2.2.2.2.2.1
    have km2_0 := q.2.2.2.2.2.2
    clear q
    have q := keep2 h2 (b := w.heap.size + 1) (by first | (simp; done) | (simp; omega) | omega)
    have kc2_1_0 := q.1
    have kc2_1_1 := q.2.1
    have kf2_1_0 := q.2.2.1
    have kf2_1_1 := q.2.2.2.1
    have kl2_1 := q.2.2.2.2.1
    have kn2_1 := q.2.2.2.2.2.1
    have km2_1 := q.2.2.2.2.2.2
    clear q
    have q := keep2 h2 (b := w.heap.size + 2) (by first | (simp; done) | (simp; omega) | omega)
    have kc2_2_0 := q.1
    have kc2_2_1 := q.2.1
    have kf2_2_0 := q.2.2.1
    have kf2_2_1 := q.2.2.2.1
    have kl2_2 := q.2.2.2.2.1
    have kn2_2 := q.2.2.2.2.2.1
    have km2_2 := q.2.2.2.2.2.2
    clear q
    have kz2 := h2.size
    (try simp only [World.size_alloc, World.size_setCell, World.size_drew] at kz2)
    have H2 := Lib.hid h2
    clear h2
    go_wp2_with fail
    refine wp_region_calm (fun _ w' => w'.cell? { block := w.heap.size, off := 0 } = some (.int .i64 a) ∧ w'.cell? { block := w.heap.size, off := 1 } = some (.int .i64 B) ∧ w'.cell? { block := w.heap.size + 1, off := 0 } = some (.int .i64 c) ∧ w'.cell? { block := w.heap.size + 1, off := 1 } = some (.int .i64 D)) (fun _ => false) [0, 1, 2, 3, 4, 5, 6, 7, 8, 9, 10, 11, 12, 13, 14, 15, 16, 17, 18, 19, 20, 21] 2 (by kernel_rfl) (by kernel_rfl) ?hst ?hS0 (fun w0 h0 => ?_)
    case hst => exact fun _ _ _ h r => ⟨r.cell h.1, r.cell h.2.1, r.cell h.2.2.1, r.cell h.2.2.2⟩
    case hS0 => exact ⟨by go_simp, by go_simp, by go_simp, by go_simp⟩
    iterate 9
      refine wpCalm_go rfl (by kernel_rfl) (fun K hK => ?_)
      apply Exists.intro
      refine ⟨fun M w hM hS => ?_, hK _ ?_⟩
      · have c1 := hS.1
        have c2 := hS.2.1
        have c3 := hS.2.2.1
        have c4 := hS.2.2.2
        unfold calmAt
        go_simp
        exact ⟨rfl, Rel.refl _⟩
      clear hK K
    refine wpCalm_go rfl (by kernel_rfl) (fun K hK => ?_)
    apply Exists.intro
    refine ⟨fun M w hM hS => ?_, hK _ ?_⟩
    · have c1 := hS.1
      have c2 := hS.2.1
      have c3 := hS.2.2.1
      have c4 := hS.2.2.2
      unfold calmAt
      go_simp
      with_reducible refine (S1.out _).mono ?_
      rintro e w1 ⟨rfl, rfl⟩
      exact ⟨rfl, Rel.refl _⟩
    clear hK K
    iterate 5
      refine wpCalm_go rfl (by kernel_rfl) (fun K hK => ?_)
      apply Exists.intro
      refine ⟨fun M w hM hS => ?_, hK _ ?_⟩
      · have c1 := hS.1
        have c2 := hS.2.1
        have c3 := hS.2.2.1
        have c4 := hS.2.2.2
        unfold calmAt
        go_simp
        exact ⟨rfl, Rel.refl _⟩
      clear hK K
    refine wpCalm_go rfl (by kernel_rfl) (fun K hK => ?_)
    apply Exists.intro
    refine ⟨fun M w hM hS => ?_, hK _ ?_⟩
    · have c1 := hS.1
      have c2 := hS.2.1
      have c3 := hS.2.2.1
      have c4 := hS.2.2.2
      unfold calmAt
      go_simp
      with_reducible refine (S3.out _).mono ?_
      rintro e w1 ⟨rfl, rfl⟩
      exact ⟨rfl, Rel.refl _⟩
    clear hK K
    iterate 3
      refine wpCalm_go rfl (by kernel_rfl) (fun K hK => ?_)
      apply Exists.intro
      refine ⟨fun M w hM hS => ?_, hK _ ?_⟩
      · have c1 := hS.1
        have c2 := hS.2.1
        have c3 := hS.2.2.1
        have c4 := hS.2.2.2
        unfold calmAt
        go_simp
        exact ⟨rfl, Rel.refl _⟩
      clear hK K
    refine wpCalm_go rfl (by kernel_rfl) (fun K hK => ?_)
    apply Exists.intro
    refine ⟨fun M w hM hS => ?_, hK _ ?_⟩
    · unfold calmAt
      go_simp
      with_reducible refine (hQ.out _).mono ?_
      rintro e w1 ⟨rfl, hb⟩
      exact ⟨rfl, hb⟩
    clear hK K
    iterate 2
      refine wpCalm_go rfl (by kernel_rfl) (fun K hK => ?_)
      apply Exists.intro
      refine ⟨fun M w hM hS => ?_, hK _ ?_⟩
      · unfold calmAt
        go_simp
        exact ⟨rfl, Rel.refl _⟩
      clear hK K
    refine wpCalm_nil ?_
    have q := keep2 h0 (b := w.heap.size) (by first | (simp; done) | (simp; omega) | omega)
    have kc3_0_0 := q.1
    have kc3_0_1 := q.2.1
    have kf3_0_0 := q.2.2.1
    have kf3_0_1 := q.2.2.2.1
    have kl3_0 := q.2.2.2.2.1
    have kn3_0 := q.2.2.2.2.2.1
    have km3_0 := q.2.2.2.2.2.2
    clear q
    have q := keep2 h0 (b := w.heap.size + 1) (by first | (simp; done) | (simp; omega) | omega)
    have kc3_1_0 := q.1
    have kc3_1_1 := q.2.1
    have kf3_1_0 := q.2.2.1
    have kf3_1_1 := q.2.2.2.1
    have kl3_1 := q.2.2.2.2.1
    have kn3_1 := q.2.2.2.2.2.1
    have km3_1 := q.2.2.2.2.2.2
    clear q
    have q := keep2 h0 (b := w.heap.size + 2) (by first | (simp; done) | (simp; omega) | omega)
    have kc3_2_0 := q.1
    have kc3_2_1 := q.2.1
    have kf3_2_0 := q.2.2.1
    have kf3_2_1 := q.2.2.2.1
    have kl3_2 := q.2.2.2.2.1
    have kn3_2 := q.2.2.2.2.2.1
    have km3_2 := q.2.2.2.2.2.2
    clear q
    have kz3 := h0.size
    (try simp only [World.size_alloc, World.size_setCell, World.size_drew] at kz3)
    have H3 := Lib.hid h0
    clear h0
    refine wpAnyR_ready (rs := [22]) (by kernel_rfl) (by simp) (AllR.cons rfl (fun w4 h4 K' hK' => ?_) AllR.nil)
    have q := keep2 h4 (b := w.heap.size) (by first | (simp; done) | (simp; omega) | omega)
    have kc4_0_0 := q.1
    have kc4_0_1 := q.2.1
    have kf4_0_0 := q.2.2.1
    have kf4_0_1 := q.2.2.2.1
    have kl4_0 := q.2.2.2.2.1
    have kn4_0 := q.2.2.2.2.2.1
    have km4_0 := q.2.2.2.2.2.2
    clear q
    have q := keep2 h4 (b := w.heap.size + 1) (by first | (simp; done) | (simp; omega) | omega)
    have kc4_1_0 := q.1
    have kc4_1_1 := q.2.1
    have kf4_1_0 := q.2.2.1
    have kf4_1_1 := q.2.2.2.1
    have kl4_1 := q.2.2.2.2.1
    have kn4_1 := q.2.2.2.2.2.1
    have km4_1 := q.2.2.2.2.2.2
    clear q
    have q := keep2 h4 (b := w.heap.size + 2) (by first | (simp; done) | (simp; omega) | omega)
    have kc4_2_0 := q.1
    have kc4_2_1 := q.2.1
    have kf4_2_0 := q.2.2.1
    have kf4_2_1 := q.2.2.2.1
    have kl4_2 := q.2.2.2.2.1
    have kn4_2 := q.2.2.2.2.2.1
    have km4_2 := q.2.2.2.2.2.2
    clear q
    have kz4 := h4.size
    (try simp only [World.size_alloc, World.size_setCell, World.size_drew] at kz4)
    have H4 := Lib.hid h4
    clear h4
    go_simp
    refine hK'.out _ _ ⟨by go_simp, by go_simp, by go_simp, by go_simp⟩ ?_
    clear hK' K'
    refine wpAnyR_ready (rs := [23]) (by kernel_rfl) (by simp) (AllR.cons rfl (fun w5 h5 K' hK' => ?_) AllR.nil)
    have q := keep2 h5 (b := w.heap.size) (by first | (simp; done) | (simp; omega) | omega)
    have kc5_0_0 := q.1
    have kc5_0_1 := q.2.1
    have kf5_0_0 := q.2.2.1
    have kf5_0_1 := q.2.2.2.1
    have kl5_0 := q.2.2.2.2.1
    have kn5_0 := q.2.2.2.2.2.1
    have km5_0 := q.2.2.2.2.2.2
    clear q
    have q := keep2 h5 (b := w.heap.size + 1) (by first | (simp; done) | (simp; omega) | omega)
    have kc5_1_0 := q.1
    have kc5_1_1 := q.2.1
    have kf5_1_0 := q.2.2.1
    have kf5_1_1 := q.2.2.2.1
    have kl5_1 := q.2.2.2.2.1
    have kn5_1 := q.2.2.2.2.2.1
    have km5_1 := q.2.2.2.2.2.2
    clear q
    have q := keep2 h5 (b := w.heap.size + 2) (by first | (simp; done) | (simp; omega) | omega)
    have kc5_2_0 := q.1
    have kc5_2_1 := q.2.1
    have kf5_2_0 := q.2.2.1
    have kf5_2_1 := q.2.2.2.1
    have kl5_2 := q.2.2.2.2.1
    have kn5_2 := q.2.2.2.2.2.1
    have km5_2 := q.2.2.2.2.2.2
    clear q
    have kz5 := h5.size
    (try simp only [World.size_alloc, World.size_setCell, World.size_drew] at kz5)
    have H5 := Lib.hid h5
    clear h5
    go_simp
    refine hK'.out _ _ ⟨by go_simp, by go_simp, by go_simp, by go_simp⟩ ?_
    clear hK' K'
    refine wpAnyR_end (by kernel_rfl) (fun w6 h6 => ?_)
    (try simp only [Act.put, List.setIfInBounds_toArray, List.set_cons_zero, List.set_cons_succ])
    have q := keep2 h6 (b := w.heap.size) (by first | (simp; done) | (simp; omega) | omega)
    have kc6_0_0 := q.1
    have kc6_0_1 := q.2.1
    have kf6_0_0 := q.2.2.1
    have kf6_0_1 := q.2.2.2.1
    have kl6_0 := q.2.2.2.2.1
    have kn6_0 := q.2.2.2.2.2.1
    have km6_0 := q.2.2.2.2.2.2
    clear q
    have q := keep2 h6 (b := w.heap.size + 1) (by first | (simp; done) | (simp; omega) | omega)
    have kc6_1_0 := q.1
    have kc6_1_1 := q.2.1
    have kf6_1_0 := q.2.2.1
    have kf6_1_1 := q.2.2.2.1
    have kl6_1 := q.2.2.2.2.1
    have kn6_1 := q.2.2.2.2.2.1
    have km6_1 := q.2.2.2.2.2.2
    clear q
    have q := keep2 h6 (b := w.heap.size + 2) (by first | (simp; done) | (simp; omega) | omega)
    have kc6_2_0 := q.1
    have kc6_2_1 := q.2.1
    have kf6_2_0 := q.2.2.1
    have kf6_2_1 := q.2.2.2.1
    have kl6_2 := q.2.2.2.2.1
    have kn6_2 := q.2.2.2.2.2.1
    have km6_2 := q.2.2.2.2.2.2
    clear q
    have kz6 := h6.size
    (try simp only [World.size_alloc, World.size_setCell, World.size_drew] at kz6)
    have H6 := Lib.hid h6
    clear h6
    go_wp2
    refine bodyPost_ret ?_ rfl ⟨rfl, ?_⟩
    · simp [results, Try.results28, go_sem, kc6_2_0, kc6_2_1, kl6_2, kc5_2_0, kc5_2_1, kl5_2, kc4_2_0, kc4_2_1, kl4_2, kc3_2_0, kc3_2_1, kl3_2, kc2_2_0, kc2_2_1, kl2_2, kc1_2_0, kc1_2_1, kl1_2]
    · (repeat (first | with_reducible exact Rel.refl _ | with_reducible refine Rel.alloc ?_ _ | with_reducible refine Rel.setCell ?_ (by first | (simp; done) | (simp; omega)) _ | with_reducible refine Rel.drew ?_ | with_reducible refine Rel.trans ?_ H6.out | with_reducible refine Rel.trans ?_ H5.out | with_reducible refine Rel.trans ?_ H4.out | with_reducible refine Rel.trans ?_ H3.out | with_reducible refine Rel.trans ?_ H2.out | with_reducible refine Rel.trans ?_ H1.out))
  · have z1 := hP a h1; have z3 := hN c h2; clear hN hP hN' hP'
    go_enter Try.func28, Try.ntmps28
    go_wp2_with fail
    with_reducible refine (V1.out _).mono ?_
    rintro e w1 ⟨rfl, h1⟩
    have q := keep2 h1 (b := w.heap.size) (by first | (simp; done) | (simp; omega) | omega)
    have kc1_0_0 := q.1
    have kc1_0_1 := q.2.1
    have kf1_0_0 := q.2.2.1
    have kf1_0_1 := q.2.2.2.1
    have kl1_0 := q.2.2.2.2.1
    have kn1_0 := q.2.2.2.2.2.1
    have km1_0 := q.2.2.2.2.2.2
    clear q
    have q := keep2 h1 (b := w.heap.size + 1) (by first | (simp; done) | (simp; omega) | omega)
    have kc1_1_0 := q.1
    have kc1_1_1 := q.2.1
    have kf1_1_0 := q.2.2.1
    have kf1_1_1 := q.2.2.2.1
    have kl1_1 := q.2.2.2.2.1
    have kn1_1 := q.2.2.2.2.2.1
    have km1_1 := q.2.2.2.2.2.2
    clear q
    have q := keep2 h1 (b := w.heap.size + 2) (by first | (simp; done) | (simp; omega) | omega)
    have kc1_2_0 := q.1
    have kc1_2_1 := q.2.1
    have kf1_2_0 := q.2.2.1
    have kf1_2_1 := q.2.2.2.1
    have kl1_2 := q.2.2.2.2.1
    have kn1_2 := q.2.2.2.2.2.1
    have km1_2 := q.2.2.2.2.2.2
    clear q
    have kz1 := h1.size
    (try simp only [World.size_alloc, World.size_setCell, World.size_drew] at kz1)
    have H1 := Lib.hid h1
    clear h1
    go_wp2_with fail
    with_reducible refine (V2.out _).mono ?_
    rintro e w2 ⟨rfl, h2⟩
    have q := keep2 h2 (b := w.heap.size) (by first | (simp; done) | (simp; omega) | omega)
    have kc2_0_0 := q.1
    have kc2_0_1 := q.2.1
    have kf2_0_0 := q.2.2.1
    have kf2_0_1 := q.2.2.2.1
    have kl2_0 := q.2.2.2.2.1
    have kn2_0 := q.2.2.2.2.2.1
    have km2_0 := q.2.2.2.2.2.2
    clear q
    have q := keep2 h2 (b := w.heap.size + 1) (by first | (simp; done) | (simp; omega) | omega)
    have kc2_1_0 := q.1
    have kc2_1_1 := q.2.1
    have kf2_1_0 := q.2.2.1
    have kf2_1_1 := q.2.2.2.1
    have kl2_1 := q.2.2.2.2.1
    have kn2_1 := q.2.2.2.2.2.1
    have km2_1 := q.2.2.2.2.2.2
    clear q
    have q := keep2 h2 (b := w.heap.size + 2) (by first | (simp; done) | (simp; omega) | omega)
    have kc2_2_0 := q.1
    have kc2_2_1 := q.2.1
    have kf2_2_0 := q.2.2.1
    have kf2_2_1 := q.2.2.2.1
    have kl2_2 := q.2.2.2.2.1
    have kn2_2 := q.2.2.2.2.2.1
    have km2_2 := q.2.2.2.2.2.2
    clear q
    have kz2 := h2.size
    (try simp only [World.size_alloc, World.size_setCell, World.size_drew] at kz2)
    have H2 := Lib.hid h2
    clear h2
    go_wp2_with fail
    refine wp_region_calm (fun _ w' => w'.cell? { block := w.heap.size, off := 0 } = some (.int .i64 a) ∧ w'.cell? { block := w.heap.size, off := 1 } = some (.int .i64 B) ∧ w'.cell? { block := w.heap.size + 1, off := 0 } = some (.int .i64 c) ∧ w'.cell? { block := w.heap.size + 1, off := 1 } = some (.int .i64 D)) (fun _ => false) [0, 1, 2, 3, 4, 5, 6, 7, 8, 9, 10, 11, 12, 13, 14, 15, 16, 17, 18, 19, 20, 21] 2 (by kernel_rfl) (by kernel_rfl) ?hst ?hS0 (fun w0 h0 => ?_)
    case hst => exact fun _ _ _ h r => ⟨r.cell h.1, r.cell h.2.1, r.cell h.2.2.1, r.cell h.2.2.2⟩
    case hS0 => exact ⟨by go_simp, by go_simp, by go_simp, by go_simp⟩
    iterate 9
      refine wpCalm_go rfl (by kernel_rfl) (fun K hK => ?_)
      apply Exists.intro
      refine ⟨fun M w hM hS => ?_, hK _ ?_⟩
      · have c1 := hS.1
        have c2 := hS.2.1
        have c3 := hS.2.2.1
        have c4 := hS.2.2.2
        unfold calmAt
        go_simp
        exact ⟨rfl, Rel.refl _⟩
      clear hK K
    refine wpCalm_go rfl (by kernel_rfl) (fun K hK => ?_)
    apply Exists.intro
    refine ⟨fun M w hM hS => ?_, hK _ ?_⟩
    · have c1 := hS.1
      have c2 := hS.2.1
      have c3 := hS.2.2.1
      have c4 := hS.2.2.2
      unfold calmAt
      go_simp
      with_reducible refine (S1.out _).mono ?_
      rintro e w1 ⟨rfl, rfl⟩
      exact ⟨rfl, Rel.refl _⟩
    clear hK K
    iterate 5
      refine wpCalm_go rfl (by kernel_rfl) (fun K hK => ?_)
      apply Exists.intro
      refine ⟨fun M w hM hS => ?_, hK _ ?_⟩
      · have c1 := hS.1
        have c2 := hS.2.1
        have c3 := hS.2.2.1
        have c4 := hS.2.2.2
        unfold calmAt
        go_simp
        exact ⟨rfl, Rel.refl _⟩
      clear hK K
    refine wpCalm_go rfl (by kernel_rfl) (fun K hK => ?_)
    apply Exists.intro
    refine ⟨fun M w hM hS => ?_, hK _ ?_⟩
    · have c1 := hS.1
      have c2 := hS.2.1
      have c3 := hS.2.2.1
      have c4 := hS.2.2.2
      unfold calmAt
      go_simp
      with_reducible refine (S3.out _).mono ?_
      rintro e w1 ⟨rfl, rfl⟩
      exact ⟨rfl, Rel.refl _⟩
    clear hK K
    iterate 3
      refine wpCalm_go rfl (by kernel_rfl) (fun K hK => ?_)
      apply Exists.intro
      refine ⟨fun M w hM hS => ?_, hK _ ?_⟩
      · have c1 := hS.1
        have c2 := hS.2.1
        have c3 := hS.2.2.1
        have c4 := hS.2.2.2
        unfold calmAt
        go_simp
        exact ⟨rfl, Rel.refl _⟩
      clear hK K
    refine wpCalm_go rfl (by kernel_rfl) (fun K hK => ?_)
    apply Exists.intro
    refine ⟨fun M w hM hS => ?_, hK _ ?_⟩
    · unfold calmAt
      go_simp
      with_reducible refine (hQ.out _).mono ?_
      rintro e w1 ⟨rfl, hb⟩
      exact ⟨rfl, hb⟩
    clear hK K
    iterate 2
      refine wpCalm_go rfl (by kernel_rfl) (fun K hK => ?_)
      apply Exists.intro
      refine ⟨fun M w hM hS => ?_, hK _ ?_⟩
      · unfold calmAt
        go_simp
        exact ⟨rfl, Rel.refl _⟩
      clear hK K
    refine wpCalm_nil ?_
    have q := keep2 h0 (b := w.heap.size) (by first | (simp; done) | (simp; omega) | omega)
    have kc3_0_0 := q.1
    have kc3_0_1 := q.2.1
    have kf3_0_0 := q.2.2.1
    have kf3_0_1 := q.2.2.2.1
    have kl3_0 := q.2.2.2.2.1
    have kn3_0 := q.2.2.2.2.2.1
    have km3_0 := q.2.2.2.2.2.2
    clear q
    have q := keep2 h0 (b := w.heap.size + 1) (by first | (simp; done) | (simp; omega) | omega)
    have kc3_1_0 := q.1
    have kc3_1_1 := q.2.1
    have kf3_1_0 := q.2.2.1
    have kf3_1_1 := q.2.2.2.1
    have kl3_1 := q.2.2.2.2.1
    have kn3_1 := q.2.2.2.2.2.1
    have km3_1 := q.2.2.2.2.2.2
    clear q
    have q := keep2 h0 (b := w.heap.size + 2) (by first | (simp; done) | (simp; omega) | omega)
    have kc3_2_0 := q.1
    have kc3_2_1 := q.2.1
    have kf3_2_0 := q.2.2.1
    have kf3_2_1 := q.2.2.2.1
    have kl3_2 := q.2.2.2.2.1
    have kn3_2 := q.2.2.2.2.2.1
    have km3_2 := q.2.2.2.2.2.2
    clear q
    have kz3 := h0.size
    (try simp only [World.size_alloc, World.size_setCell, World.size_drew] at kz3)
    have H3 := Lib.hid h0
    clear h0
    refine wpAnyR_ready (rs := [22]) (by kernel_rfl) (by simp) (AllR.cons rfl (fun w4 h4 K' hK' => ?_) AllR.nil)
    have q := keep2 h4 (b := w.heap.size) (by first | (simp; done) | (simp; omega) | omega)
    have kc4_0_0 := q.1
    have kc4_0_1 := q.2.1
    have kf4_0_0 := q.2.2.1
    have kf4_0_1 := q.2.2.2.1
    have kl4_0 := q.2.2.2.2.1
    have kn4_0 := q.2.2.2.2.2.1
    have km4_0 := q.2.2.2.2.2.2
    clear q
    have q := keep2 h4 (b := w.heap.size + 1) (by first | (simp; done) | (simp; omega) | omega)
    have kc4_1_0 := q.1
    have kc4_1_1 := q.2.1
    have kf4_1_0 := q.2.2.1
    have kf4_1_1 := q.2.2.2.1
    have kl4_1 := q.2.2.2.2.1
    have kn4_1 := q.2.2.2.2.2.1
    have km4_1 := q.2.2.2.2.2.2
    clear q
    have q := keep2 h4 (b := w.heap.size + 2) (by first | (simp; done) | (simp; omega) | omega)
    have kc4_2_0 := q.1
    have kc4_2_1 := q.2.1
    have kf4_2_0 := q.2.2.1
    have kf4_2_1 := q.2.2.2.1
    have kl4_2 := q.2.2.2.2.1
    have kn4_2 := q.2.2.2.2.2.1
    have km4_2 := q.2.2.2.2.2.2
    clear q
    have kz4 := h4.size
    (try simp only [World.size_alloc, World.size_setCell, World.size_drew] at kz4)
    have H4 := Lib.hid h4
    clear h4
    go_simp
    refine hK'.out _ _ ⟨by go_simp, by go_simp, by go_simp, by go_simp⟩ ?_
    clear hK' K'
    refine wpAnyR_ready (rs := [23]) (by kernel_rfl) (by simp) (AllR.cons rfl (fun w5 h5 K' hK' => ?_) AllR.nil)
    have q := keep2 h5 (b := w.heap.size) (by first | (simp; done) | (simp; omega) | omega)
    have kc5_0_0 := q.1
    have kc5_0_1 := q.2.1
    have kf5_0_0 := q.2.2.1
    have kf5_0_1 := q.2.2.2.1
    have kl5_0 := q.2.2.2.2.1
    have kn5_0 := q.2.2.2.2.2.1
    have km5_0 := q.2.2.2.2.2.2
    clear q
    have q := keep2 h5 (b := w.heap.size + 1) (by first | (simp; done) | (simp; omega) | omega)
    have kc5_1_0 := q.1
    have kc5_1_1 := q.2.1
    have kf5_1_0 := q.2.2.1
    have kf5_1_1 := q.2.2.2.1
    have kl5_1 := q.2.2.2.2.1
    have kn5_1 := q.2.2.2.2.2.1
    have km5_1 := q.2.2.2.2.2.2
    clear q
    have q := keep2 h5 (b := w.heap.size + 2) (by first | (simp; done) | (simp; omega) | omega)
    have kc5_2_0 := q.1
    have kc5_2_1 := q.2.1
    have kf5_2_0 := q.2.2.1
    have kf5_2_1 := q.2.2.2.1
    have kl5_2 := q.2.2.2.2.1
    have kn5_2 := q.2.2.2.2.2.1
    have km5_2 := q.2.2.2.2.2.2
    clear q
    have kz5 := h5.size
    (try simp only [World.size_alloc, World.size_setCell, World.size_drew] at kz5)
    have H5 := Lib.hid h5
    clear h5
    go_simp
    refine hK'.out _ _ ⟨by go_simp, by go_simp, by go_simp, by go_simp⟩ ?_
    clear hK' K'
    refine wpAnyR_end (by kernel_rfl) (fun w6 h6 => ?_)
    (try simp only [Act.put, List.setIfInBounds_toArray, List.set_cons_zero, List.set_cons_succ])
    have q := keep2 h6 (b := w.heap.size) (by first | (simp; done) | (simp; omega) | omega)
    have kc6_0_0 := q.1
    have kc6_0_1 := q.2.1
    have kf6_0_0 := q.2.2.1
    have kf6_0_1 := q.2.2.2.1
    have kl6_0 := q.2.2.2.2.1
    have kn6_0 := q.2.2.2.2.2.1
    have km6_0 := q.2.2.2.2.2.2
    clear q
    have q := keep2 h6 (b := w.heap.size + 1) (by first | (simp; done) | (simp; omega) | omega)
    have kc6_1_0 := q.1
    have kc6_1_1 := q.2.1
    have kf6_1_0 := q.2.2.1
    have kf6_1_1 := q.2.2.2.1
    have kl6_1 := q.2.2.2.2.1
    have kn6_1 := q.2.2.2.2.2.1
    have km6_1 := q.2.2.2.2.2.2
    clear q
    have q := keep2 h6 (b := w.heap.size + 2) (by first | (simp; done) | (simp; omega) | omega)
    have kc6_2_0 := q.1
    have kc6_2_1 := q.2.1
    have kf6_2_0 := q.2.2.1
    have kf6_2_1 := q.2.2.2.1
    have kl6_2 := q.2.2.2.2.1
    have kn6_2 := q.2.2.2.2.2.1
    have km6_2 := q.2.2.2.2.2.2
    clear q
    have kz6 := h6.size
    (try simp only [World.size_alloc, World.size_setCell, World.size_drew] at kz6)
    have H6 := Lib.hid h6
    clear h6
    go_wp2
    refine bodyPost_ret ?_ rfl ⟨rfl, ?_⟩
    · simp [results, Try.results28, go_sem, kc6_2_0, kc6_2_1, kl6_2, kc5_2_0, kc5_2_1, kl5_2, kc4_2_0, kc4_2_1, kl4_2, kc3_2_0, kc3_2_1, kl3_2, kc2_2_0, kc2_2_1, kl2_2, kc1_2_0, kc1_2_1, kl1_2]
    · (repeat (first | with_reducible exact Rel.refl _ | with_reducible refine Rel.alloc ?_ _ | with_reducible refine Rel.setCell ?_ (by first | (simp; done) | (simp; omega)) _ | with_reducible refine Rel.drew ?_ | with_reducible refine Rel.trans ?_ H6.out | with_reducible refine Rel.trans ?_ H5.out | with_reducible refine Rel.trans ?_ H4.out | with_reducible refine Rel.trans ?_ H3.out | with_reducible refine Rel.trans ?_ H2.out | with_reducible refine Rel.trans ?_ H1.out))
  · have z1 := hP a h1; have z3 := hP c h2; clear hN hP hN' hP'
    go_enter Try.func28, Try.ntmps28
    go_wp2_with fail
    with_reducible refine (V1.out _).mono ?_
    rintro e w1 ⟨rfl, h1⟩
    have q := keep2 h1 (b := w.heap.size) (by first | (simp; done) | (simp; omega) | omega)
    have kc1_0_0 := q.1
    have kc1_0_1 := q.2.1
    have kf1_0_0 := q.2.2.1
    have kf1_0_1 := q.2.2.2.1
    have kl1_0 := q.2.2.2.2.1
    have kn1_0 := q.2.2.2.2.2.1
    have km1_0 := q.2.2.2.2.2.2
    clear q
    have q := keep2 h1 (b := w.heap.size + 1) (by first | (simp; done) | (simp; omega) | omega)
    have kc1_1_0 := q.1
    have kc1_1_1 := q.2.1
    have kf1_1_0 := q.2.2.1
    have kf1_1_1 := q.2.2.2.1
    have kl1_1 := q.2.2.2.2.1
    have kn1_1 := q.2.2.2.2.2.1
    have km1_1 := q.2.2.2.2.2.2
    clear q
    have q := keep2 h1 (b := w.heap.size + 2) (by first | (simp; done) | (simp; omega) | omega)
    have kc1_2_0 := q.1
    have kc1_2_1 := q.2.1
    have kf1_2_0 := q.2.2.1
    have kf1_2_1 := q.2.2.2.1
    have kl1_2 := q.2.2.2.2.1
    have kn1_2 := q.2.2.2.2.2.1
    have km1_2 := q.2.2.2.2.2.2
    clear q
    have kz1 := h1.size
    (try simp only [World.size_alloc, World.size_setCell, World.size_drew] at kz1)
    have H1 := Lib.hid h1
    clear h1
    go_wp2_with fail
    with_reducible refine (V2.out _).mono ?_
    rintro e w2 ⟨rfl, h2⟩
    have q := keep2 h2 (b := w.heap.size) (by first | (simp; done) | (simp; omega) | omega)
    have kc2_0_0 := q.1
    have kc2_0_1 := q.2.1
    have kf2_0_0 := q.2.2.1
    have kf2_0_1 := q.2.2.2.1
    have kl2_0 := q.2.2.2.2.1
    have kn2_0 := q.2.2.2.2.2.1
    have km2_0 := q.2.2.2.2.2.2
    clear q
    have q := keep2 h2 (b := w.heap.size + 1) (by first | (simp; done) | (simp; omega) | omega)
    have kc2_1_0 := q.1
    have kc2_1_1 := q.2.1
    have kf2_1_0 := q.2.2.1
    have kf2_1_1 := q.2.2.2.1
    have kl2_1 := q.2.2.2.2.1
    have kn2_1 := q.2.2.2.2.2.1
    have km2_1 := q.2.2.2.2.2.2
    clear q
    have q := keep2 h2 (b := w.heap.size + 2) (by first | (simp; done) | (simp; omega) | omega)
    have kc2_2_0 := q.1
    have kc2_2_1 := q.2.1
    have kf2_2_0 := q.2.2.1
    have kf2_2_1 := q.2.2.2.1
    have kl2_2 := q.2.2.2.2.1
    have kn2_2 := q.2.2.2.2.2.1
    have km2_2 := q.2.2.2.2.2.2
    clear q
    have kz2 := h2.size
    (try simp only [World.size_alloc, World.size_setCell, World.size_drew] at kz2)
    have H2 := Lib.hid h2
    clear h2
    go_wp2_with fail
    refine wp_region_calm (fun _ w' => w'.cell? { block := w.heap.size, off := 0 } = some (.int .i64 a) ∧ w'.cell? { block := w.heap.size, off := 1 } = some (.int .i64 B) ∧ w'.cell? { block := w.heap.size + 1, off := 0 } = some (.int .i64 c) ∧ w'.cell? { block := w.heap.size + 1, off := 1 } = some (.int .i64 D)) (fun _ => false) [0, 1, 2, 3, 4, 5, 6, 7, 8, 9, 10, 11, 12, 13, 14, 15, 16, 17, 18, 19, 20, 21] 2 (by kernel_rfl) (by kernel_rfl) ?hst ?hS0 (fun w0 h0 => ?_)
    case hst => exact fun _ _ _ h r => ⟨r.cell h.1, r.cell h.2.1, r.cell h.2.2.1, r.cell h.2.2.2⟩
    case hS0 => exact ⟨by go_simp, by go_simp, by go_simp, by go_simp⟩
    iterate 9
      refine wpCalm_go rfl (by kernel_rfl) (fun K hK => ?_)
      apply Exists.intro
      refine ⟨fun M w hM hS => ?_, hK _ ?_⟩
      · have c1 := hS.1
        have c2 := hS.2.1
        have c3 := hS.2.2.1
        have c4 := hS.2.2.2
        unfold calmAt
        go_simp
        exact ⟨rfl, Rel.refl _⟩
      clear hK K
    refine wpCalm_go rfl (by kernel_rfl) (fun K hK => ?_)
    apply Exists.intro
    refine ⟨fun M w hM hS => ?_, hK _ ?_⟩
    · have c1 := hS.1
      have c2 := hS.2.1
      have c3 := hS.2.2.1
      have c4 := hS.2.2.2
      unfold calmAt
      go_simp
      with_reducible refine (S1.out _).mono ?_
      rintro e w1 ⟨rfl, rfl⟩
      exact ⟨rfl, Rel.refl _⟩
    clear hK K
    iterate 5
      refine wpCalm_go rfl (by kernel_rfl) (fun K hK => ?_)
      apply Exists.intro
      refine ⟨fun M w hM hS => ?_, hK _ ?_⟩
      · have c1 := hS.1
        have c2 := hS.2.1
        have c3 := hS.2.2.1
        have c4 := hS.2.2.2
        unfold calmAt
        go_simp
        exact ⟨rfl, Rel.refl _⟩
      clear hK K
    refine wpCalm_go rfl (by kernel_rfl) (fun K hK => ?_)
    apply Exists.intro
    refine ⟨fun M w hM hS => ?_, hK _ ?_⟩
    · have c1 := hS.1
      have c2 := hS.2.1
      have c3 := hS.2.2.1
      have c4 := hS.2.2.2
      unfold calmAt
      go_simp
      with_reducible refine (S3.out _).mono ?_
      rintro e w1 ⟨rfl, rfl⟩
      exact ⟨rfl, Rel.refl _⟩
    clear hK K
    iterate 3
      refine wpCalm_go rfl (by kernel_rfl) (fun K hK => ?_)
      apply Exists.intro
      refine ⟨fun M w hM hS => ?_, hK _ ?_⟩
      · have c1 := hS.1
        have c2 := hS.2.1
        have c3 := hS.2.2.1
        have c4 := hS.2.2.2
        unfold calmAt
        go_simp
        exact ⟨rfl, Rel.refl _⟩
      clear hK K
    refine wpCalm_go rfl (by kernel_rfl) (fun K hK => ?_)
    apply Exists.intro
    refine ⟨fun M w hM hS => ?_, hK _ ?_⟩
    · unfold calmAt
      go_simp
      with_reducible refine (hQ.out _).mono ?_
      rintro e w1 ⟨rfl, hb⟩
      exact ⟨rfl, hb⟩
    clear hK K
    iterate 2
      refine wpCalm_go rfl (by kernel_rfl) (fun K hK => ?_)
      apply Exists.intro
      refine ⟨fun M w hM hS => ?_, hK _ ?_⟩
      · unfold calmAt
        go_simp
        exact ⟨rfl, Rel.refl _⟩
      clear hK K
    refine wpCalm_nil ?_
    have q := keep2 h0 (b := w.heap.size) (by first | (simp; done) | (simp; omega) | omega)
    have kc3_0_0 := q.1
    have kc3_0_1 := q.2.1
    have kf3_0_0 := q.2.2.1
    have kf3_0_1 := q.2.2.2.1
    have kl3_0 := q.2.2.2.2.1
    have kn3_0 := q.2.2.2.2.2.1
    have km3_0 := q.2.2.2.2.2.2
    clear q
    have q := keep2 h0 (b := w.heap.size + 1) (by first | (simp; done) | (simp; omega) | omega)
    have kc3_1_0 := q.1
    have kc3_1_1 := q.2.1
    have kf3_1_0 := q.2.2.1
    have kf3_1_1 := q.2.2.2.1
    have kl3_1 := q.2.2.2.2.1
    have kn3_1 := q.2.2.2.2.2.1
    have km3_1 := q.2.2.2.2.2.2
    clear q
    have q := keep2 h0 (b := w.heap.size + 2) (by first | (simp; done) | (simp; omega) | omega)
    have kc3_2_0 := q.1
    have kc3_2_1 := q.2.1
    have kf3_2_0 := q.2.2.1
    have kf3_2_1 := q.2.2.2.1
    have kl3_2 := q.2.2.2.2.1
    have kn3_2 := q.2.2.2.2.2.1
    have km3_2 := q.2.2.2.2.2.2
    clear q
    have kz3 := h0.size
    (try simp only [World.size_alloc, World.size_setCell, World.size_drew] at kz3)
    have H3 := Lib.hid h0
    clear h0
    refine wpAnyR_ready (rs := [22]) (by kernel_rfl) (by simp) (AllR.cons rfl (fun w4 h4 K' hK' => ?_) AllR.nil)
    have q := keep2 h4 (b := w.heap.size) (by first | (simp; done) | (simp; omega) | omega)
    have kc4_0_0 := q.1
    have kc4_0_1 := q.2.1
    have kf4_0_0 := q.2.2.1
    have kf4_0_1 := q.2.2.2.1
    have kl4_0 := q.2.2.2.2.1
    have kn4_0 := q.2.2.2.2.2.1
    have km4_0 := q.2.2.2.2.2.2
    clear q
    have q := keep2 h4 (b := w.heap.size + 1) (by first | (simp; done) | (simp; omega) | omega)
    have kc4_1_0 := q.1
    have kc4_1_1 := q.2.1
    have kf4_1_0 := q.2.2.1
    have kf4_1_1 := q.2.2.2.1
    have kl4_1 := q.2.2.2.2.1
    have kn4_1 := q.2.2.2.2.2.1
    have km4_1 := q.2.2.2.2.2.2
    clear q
    have q := keep2 h4 (b := w.heap.size + 2) (by first | (simp; done) | (simp; omega) | omega)
    have kc4_2_0 := q.1
    have kc4_2_1 := q.2.1
    have kf4_2_0 := q.2.2.1
    have kf4_2_1 := q.2.2.2.1
    have kl4_2 := q.2.2.2.2.1
    have kn4_2 := q.2.2.2.2.2.1
    have km4_2 := q.2.2.2.2.2.2
    clear q
    have kz4 := h4.size
    (try simp only [World.size_alloc, World.size_setCell, World.size_drew] at kz4)
    have H4 := Lib.hid h4
    clear h4
    go_simp
    refine hK'.out _ _ ⟨by go_simp, by go_simp, by go_simp, by go_simp⟩ ?_
    clear hK' K'
    refine wpAnyR_ready (rs := [23]) (by kernel_rfl) (by simp) (AllR.cons rfl (fun w5 h5 K' hK' => ?_) AllR.nil)
    have q := keep2 h5 (b := w.heap.size) (by first | (simp; done) | (simp; omega) | omega)
    have kc5_0_0 := q.1
    have kc5_0_1 := q.2.1
    have kf5_0_0 := q.2.2.1
    have kf5_0_1 := q.2.2.2.1
    have kl5_0 := q.2.2.2.2.1
    have kn5_0 := q.2.2.2.2.2.1
    have km5_0 := q.2.2.2.2.2.2
    clear q
    have q := keep2 h5 (b := w.heap.size + 1) (by first | (simp; done) | (simp; omega) | omega)
    have kc5_1_0 := q.1
    have kc5_1_1 := q.2.1
    have kf5_1_0 := q.2.2.1
    have kf5_1_1 := q.2.2.2.1
    have kl5_1 := q.2.2.2.2.1
    have kn5_1 := q.2.2.2.2.2.1
    have km5_1 := q.2.2.2.2.2.2
    clear q
    have q := keep2 h5 (b := w.heap.size + 2) (by first | (simp; done) | (simp; omega) | omega)
    have kc5_2_0 := q.1
    have kc5_2_1 := q.2.1
    have kf5_2_0 := q.2.2.1
    have kf5_2_1 := q.2.2.2.1
    have kl5_2 := q.2.2.2.2.1
    have kn5_2 := q.2.2.2.2.2.1
    have km5_2 := q.2.2.2.2.2.2
    clear q
    have kz5 := h5.size
    (try simp only [World.size_alloc, World.size_setCell, World.size_drew] at kz5)
    have H5 := Lib.hid h5
    clear h5
    go_simp
    refine hK'.out _ _ ⟨by go_simp, by go_simp, by go_simp, by go_simp⟩ ?_
    clear hK' K'
    refine wpAnyR_end (by kernel_rfl) (fun w6 h6 => ?_)
    (try simp only [Act.put, List.setIfInBounds_toArray, List.set_cons_zero, List.set_cons_succ])
    have q := keep2 h6 (b := w.heap.size) (by first | (simp; done) | (simp; omega) | omega)
    have kc6_0_0 := q.1
    have kc6_0_1 := q.2.1
    have kf6_0_0 := q.2.2.1
    have kf6_0_1 := q.2.2.2.1
    have kl6_0 := q.2.2.2.2.1
    have kn6_0 := q.2.2.2.2.2.1
    have km6_0 := q.2.2.2.2.2.2
    clear q
    have q := keep2 h6 (b := w.heap.size + 1) (by first | (simp; done) | (simp; omega) | omega)
    have kc6_1_0 := q.1
    have kc6_1_1 := q.2.1
    have kf6_1_0 := q.2.2.1
    have kf6_1_1 := q.2.2.2.1
    have kl6_1 := q.2.2.2.2.1
    have kn6_1 := q.2.2.2.2.2.1
    have km6_1 := q.2.2.2.2.2.2
    clear q
    have q := keep2 h6 (b := w.heap.size + 2) (by first | (simp; done) | (simp; omega) | omega)
    have kc6_2_0 := q.1
    have kc6_2_1 := q.2.1
    have kf6_2_0 := q.2.2.1
    have kf6_2_1 := q.2.2.2.1
    have kl6_2 := q.2.2.2.2.1
    have kn6_2 := q.2.2.2.2.2.1
    have km6_2 := q.2.2.2.2.2.2
    clear q
    have kz6 := h6.size
    (try simp only [World.size_alloc, World.size_setCell, World.size_drew] at kz6)
    have H6 := Lib.hid h6
    clear h6
    go_wp2
    refine bodyPost_ret ?_ rfl ⟨rfl, ?_⟩
    · simp [results, Try.results28, go_sem, kc6_2_0, kc6_2_1, kl6_2, kc5_2_0, kc5_2_1, kl5_2, kc4_2_0, kc4_2_1, kl4_2, kc3_2_0, kc3_2_1, kl3_2, kc2_2_0, kc2_2_1, kl2_2, kc1_2_0, kc1_2_1, kl1_2]
    · (repeat (first | with_reducible exact Rel.refl _ | with_reducible refine Rel.alloc ?_ _ | with_reducible refine Rel.setCell ?_ (by first | (simp; done) | (simp; omega)) _ | with_reducible refine Rel.drew ?_ | with_reducible refine Rel.trans ?_ H6.out | with_reducible refine Rel.trans ?_ H5.out | with_reducible refine Rel.trans ?_ H4.out | with_reducible refine Rel.trans ?_ H3.out | with_reducible refine Rel.trans ?_ H2.out | with_reducible refine Rel.trans ?_ H1.out))

set_option maxHeartbeats 6400000 in
theorem rdiv_core (a c : Int) (s : Bool) (A B C D : Nat) (R1 R2 R3 : Int) (w : World) (hc0 : c ≠ 0) (hB : B < 18446744073709551616) (hD : D < 18446744073709551616)
    (h : (a < 0 ∧ c < 0 ∧ s = false) ∨ (a < 0 ∧ 0 ≤ c ∧ s = true) ∨ (0 ≤ a ∧ c < 0 ∧ s = true) ∨ (0 ≤ a ∧ 0 ≤ c ∧ s = false))
    (V1 : Hid (∀ w, Calls Try.prog 19 #[.agg #[.int .i64 a, .int .i64 B]] w fun e w' => e = .returned (.bool true) ∧ Rel w w'))
    (V2 : Hid (∀ w, Calls Try.prog 19 #[.agg #[.int .i64 c, .int .i64 D]] w fun e w' => e = .returned (.bool true) ∧ Rel w w'))
    (S1 : Hid (∀ w, Calls Try.prog 41 #[.int .i64 a] w fun e w' => e = .returned (.int .u64 A) ∧ w = w'))
    (S3 : Hid (∀ w, Calls Try.prog 41 #[.int .i64 c] w fun e w' => e = .returned (.int .u64 C) ∧ w = w'))
    (hQ : Hid (∀ w, Calls Try.prog 45 #[.bool s, .int .u64 A, .int .u64 B, .int .u64 D, .int .u64 C] w (FrRes R1 R2 R3 w))) :
    Calls Try.prog 30 #[.agg #[.int .i64 a, .int .i64 B], .agg #[.int .i64 c, .int .i64 D]] w (FrRes R1 R2 R3 w) := by
  unfold FrRes at hQ ⊢
  have z0 : (c == 0) = false := by simp; omega
  have q1 := u64_nat hB
  have q2 := u64_nat hD
  have hN : ∀ x : Int, x < 0 → decide (x < 0) = true := by simp
  have hP : ∀ x : Int, 0 ≤ x → decide (x < 0) = false := by intro x hx; simp; omega
  have hN' : ∀ x : Int, x ≤ 0 → decide (0 < x) = false := by intro x hx; simp; omega
  have hP' : ∀ x : Int, 0 < x → decide (0 < x) = true := by simp
  rcases h with ⟨h1, h2, rfl⟩ | ⟨h1, h2, rfl⟩ | ⟨h1, h2, rfl⟩ | ⟨h1, h2, rfl⟩
  · have z1 := hN a h1; have z3 := hN c h2; clear hN hP hN' hP'
    go_enter Try.func30, Try.ntmps30
    go_wp2_with fail
    with_reducible refine (V1.out _).mono ?_
    rintro e w1 ⟨rfl, h1⟩
    have q := keep2 h1 (b := w.heap.size) (by first | (simp; done) | (simp; omega) | omega)
    have kc1_0_0 := q.1
    have kc1_0_1 := q.2.1
    have kf1_0_0 := q.2.2.1
    have kf1_0_1 := q.2.2.2.1
    have kl1_0 := q.2.2.2.2.1
    have kn1_0 := q.2.2.2.2.2.1
    have km1_0 := q.2.2.2.2.2.2
    clear q
    have q := keep2 h1 (b := w.heap.size + 1) (by first | (simp; done) | (simp; omega) | omega)
    have kc1_1_0 := q.1
    have kc1_1_1 := q.2.1
    have kf1_1_0 := q.2.2.1
    have kf1_1_1 := q.2.2.2.1
    have kl1_1 := q.2.2.2.2.1
    have kn1_1 := q.2.2.2.2.2.1
    have km1_1 := q.2.2.2.2.2.2
    clear q
    have q := keep2 h1 (b := w.heap.size + 2) (by first | (simp; done) | (simp; omega) | omega)
    have kc1_2_0 := q.1
    have kc1_2_1 := q.2.1
    have kf1_2_0 := q.2.2.1
    have kf1_2_1 := q.2.2.2.1
    have kl1_2 := q.2.2.2.2.1
    have kn1_2 := q.2.2.2.2.2.1
    have km1_2 := q.2.2.2.2.2.2
    clear q
    have kz1 := h1.size
    (try simp only [World.size_alloc, World.size_setCell, World.size_drew] at kz1)
    have H1 := Lib.hid h1
    clear h1
    go_wp2_with fail
    with_reducible refine (V2.out _).mono ?_
    rintro e w2 ⟨rfl, h2⟩
    have q := keep2 h2 (b := w.heap.size) (by first | (simp; done) | (simp; omega) | omega)
    have kc2_0_0 := q.1
    have kc2_0_1 := q.2.1
    have kf2_0_0 := q.2.2.1
    have kf2_0_1 := q.2.2.2.1
    have kl2_0 := q.2.2.2.2.1
    have kn2_0 := q.2.2.2.2.2.1
    have km2_0 := q.2.2.2.2.2.2
    clear q
    have q := keep2 h2 (b := w.heap.size + 1) (by first | (simp; done) | (simp; omega) | omega)
    have kc2_1_0 := q.1
    have kc2_1_1 := q.2.1
    have kf2_1_0 := q.2.2.1
    have kf2_1_1 := q.2.2.2.1
    have kl2_1 := q.2.2.2.2.1
    have kn2_1 := q.2.2.2.2.2.1
    have km2_1 := q.2.2.2.2.2.2
    clear q
    have q := keep2 h2 (b := w.heap.size + 2) (by first | (simp; done) | (simp; omega) | omega)
    have kc2_2_0 := q.1
    have kc2_2_1 := q.2.1
    have kf2_2_0 := q.2.2.1
    have kf2_2_1 := q.2.2.2.1
    have kl2_2 := q.2.2.2.2.1
    have kn2_2 := q.2.2.2.2.2.1
    have km2_2 := q.2.2.2.2.2.2
    clear q
    have kz2 := h2.size
    (try simp only [World.size_alloc, World.size_setCell, World.size_drew] at kz2)
    have H2 := Lib.hid h2
    clear h2
    go_wp2_with fail
    refine wp_region_calm (fun _ w' => w'.cell? { block := w.heap.size, off := 0 } = some (.int .i64 a) ∧ w'.cell? { block := w.heap.size, off := 1 } = some (.int .i64 B) ∧ w'.cell? { block := w.heap.size + 1, off := 0 } = some (.int .i64 c) ∧ w'.cell? { block := w.heap.size + 1, off := 1 } = some (.int .i64 D)) (fun _ => false) [0, 1, 2, 3, 4, 5, 6, 7, 8, 9, 10, 11, 12, 13, 14, 15, 16, 17, 18, 19, 20, 21] 2 (by kernel_rfl) (by kernel_rfl) ?hst ?hS0 (fun w0 h0 => ?_)
    case hst => exact fun _ _ _ h r => ⟨r.cell h.1, r.cell h.2.1, r.cell h.2.2.1, r.cell h.2.2.2⟩
    case hS0 => exact ⟨by go_simp, by go_simp, by go_simp, by go_simp⟩
    iterate 9
      refine wpCalm_go rfl (by kernel_rfl) (fun K hK => ?_)
      apply Exists.intro
      refine ⟨fun M w hM hS => ?_, hK _ ?_⟩
      · have c1 := hS.1
        have c2 := hS.2.1
        have c3 := hS.2.2.1
        have c4 := hS.2.2.2
        unfold calmAt
        go_simp
        exact ⟨rfl, Rel.refl _⟩
      clear hK K
    refine wpCalm_go rfl (by kernel_rfl) (fun K hK => ?_)
    apply Exists.intro
    refine ⟨fun M w hM hS => ?_, hK _ ?_⟩
    · have c1 := hS.1
      have c2 := hS.2.1
      have c3 := hS.2.2.1
      have c4 := hS.2.2.2
      unfold calmAt
      go_simp
      with_reducible refine (S1.out _).mono ?_
      rintro e w1 ⟨rfl, rfl⟩
      exact ⟨rfl, Rel.refl _⟩
    clear hK K
    iterate 8
      refine wpCalm_go rfl (by kernel_rfl) (fun K hK => ?_)
      apply Exists.intro
      refine ⟨fun M w hM hS => ?_, hK _ ?_⟩
      · have c1 := hS.1
        have c2 := hS.2.1
        have c3 := hS.2.2.1
        have c4 := hS.2.2.2
        unfold calmAt
        go_simp
        exact ⟨rfl, Rel.refl _⟩
      clear hK K
    refine wpCalm_go rfl (by kernel_rfl) (fun K hK => ?_)
    apply Exists.intro
    refine ⟨fun M w hM hS => ?_, hK _ ?_⟩
    · have c1 := hS.1
      have c2 := hS.2.1
      have c3 := hS.2.2.1
      have c4 := hS.2.2.2
      unfold calmAt
      go_simp
      with_reducible refine (S3.out _).mono ?_
      rintro e w1 ⟨rfl, rfl⟩
      exact ⟨rfl, Rel.refl _⟩
    clear hK K
    refine wpCalm_go rfl (by kernel_rfl) (fun K hK => ?_)
    apply Exists.intro
    refine ⟨fun M w hM hS => ?_, hK _ ?_⟩
    · unfold calmAt
      go_simp
      with_reducible refine (hQ.out _).mono ?_
      rintro e w1 ⟨rfl, hb⟩
      exact ⟨rfl, hb⟩
    clear hK K
    iterate 2
      refine wpCalm_go rfl (by kernel_rfl) (fun K hK => ?_)
      apply Exists.intro
      refine ⟨fun M w hM hS => ?_, hK _ ?_⟩
      · unfold calmAt
        go_simp
        exact ⟨rfl, Rel.refl _⟩
      clear hK K
    refine wpCalm_nil ?_
    have q := keep2 h0 (b := w.heap.size) (by first | (simp; done) | (simp; omega) | omega)
    have kc3_0_0 := q.1
    have kc3_0_1 := q.2.1
    have kf3_0_0 := q.2.2.1
    have kf3_0_1 := q.2.2.2.1
    have kl3_0 := q.2.2.2.2.1
    have kn3_0 := q.2.2.2.2.2.1
    have km3_0 := q.2.2.2.2.2.2
    clear q
    have q := keep2 h0 (b := w.heap.size + 1) (by first | (simp; done) | (simp; omega) | omega)
    have kc3_1_0 := q.1
    have kc3_1_1 := q.2.1
    have kf3_1_0 := q.2.2.1
    have kf3_1_1 := q.2.2.2.1
    have kl3_1 := q.2.2.2.2.1
    have kn3_1 := q.2.2.2.2.2.1
    have km3_1 := q.2.2.2.2.2.2
    clear q
    have q := keep2 h0 (b := w.heap.size + 2) (by first | (simp; done) | (simp; omega) | omega)
    have kc3_2_0 := q.1
    have kc3_2_1 := q.2.1
    have kf3_2_0 := q.2.2.1
    have kf3_2_1 := q.2.2.2.1
    have kl3_2 := q.2.2.2.2.1
    have kn3_2 := q.2.2.2.2.2.1
    have km3_2 := q.2.2.2.2.2.2
    clear q
    have kz3 := h0.size
    (try simp only [World.size_alloc, World.size_setCell, World.size_drew] at kz3)
    have H3 := Lib.hid h0
    clear h0
    refine wpAnyR_ready (rs := [22]) (by kernel_rfl) (by simp) (AllR.cons rfl (fun w4 h4 K' hK' => ?_) AllR.nil)
    have q := keep2 h4 (b := w.heap.size) (by first | (simp; done) | (simp; omega) | omega)
    have kc4_0_0 := q.1
    have kc4_0_1 := q.2.1
    have kf4_0_0 := q.2.2.1
    have kf4_0_1 := q.2.2.2.1
    have kl4_0 := q.2.2.2.2.1
    have kn4_0 := q.2.2.2.2.2.1
    have km4_0 := q.2.2.2.2.2.2
    clear q
    have q := keep2 h4 (b := w.heap.size + 1) (by first | (simp; done) | (simp; omega) | omega)
    have kc4_1_0 := q.1
    have kc4_1_1 := q.2.1
    have kf4_1_0 := q.2.2.1
    have kf4_1_1 := q.2.2.2.1
    have kl4_1 := q.2.2.2.2.1
    have kn4_1 := q.2.2.2.2.2.1
    have km4_1 := q.2.2.2.2.2.2
    clear q
    have q := keep2 h4 (b := w.heap.size + 2) (by first | (simp; done) | (simp; omega) | omega)
    have kc4_2_0 := q.1
    have kc4_2_1 := q.2.1
    have kf4_2_0 := q.2.2.1
    have kf4_2_1 := q.2.2.2.1
    have kl4_2 := q.2.2.2.2.1
    have kn4_2 := q.2.2.2.2.2.1
    have km4_2 := q.2.2.2.2.2.2
    clear q
    have kz4 := h4.size
    (try simp only [World.size_alloc, World.size_setCell, World.size_drew] at kz4)
    have H4 := Lib.hid h4
    clear h4
    go_simp
    refine hK'.out _ _ ⟨by go_simp, by go_simp, by go_simp, by go_simp⟩ ?_
    clear hK' K'
    refine wpAnyR_ready (rs := [23]) (by kernel_rfl) (by simp) (AllR.cons rfl (fun w5 h5 K' hK' => ?_) AllR.nil)
    have q := keep2 h5 (b := w.heap.size) (by first | (simp; done) | (simp; omega) | omega)
    have kc5_0_0 := q.1
    have kc5_0_1 := q.2.1
    have kf5_0_0 := q.2.2.1
    have kf5_0_1 := q.2.2.2.1
    have kl5_0 := q.2.2.2.2.1
    have kn5_0 := q.2.2.2.2.2.1
    have km5_0 := q.2.2.2.2.2.2
    clear q
    have q := keep2 h5 (b := w.heap.size + 1) (by first | (simp; done) | (simp; omega) | omega)
    have kc5_1_0 := q.1
    have kc5_1_1 := q.2.1
    have kf5_1_0 := q.2.2.1
    have kf5_1_1 := q.2.2.2.1
    have kl5_1 := q.2.2.2.2.1
    have kn5_1 := q.2.2.2.2.2.1
    have km5_1 := q.2.2.2.2.2.2
    clear q
    have q := keep2 h5 (b := w.heap.size + 2) (by first | (simp; done) | (simp; omega) | omega)
    have kc5_2_0 := q.1
    have kc5_2_1 := q.2.1
    have kf5_2_0 := q.2.2.1
    have kf5_2_1 := q.2.2.2.1
    have kl5_2 := q.2.2.2.2.1
    have kn5_2 := q.2.2.2.2.2.1
    have km5_2 := q.2.2.2.2.2.2
    clear q
    have kz5 := h5.size
    (try simp only [World.size_alloc, World.size_setCell, World.size_drew] at kz5)
    have H5 := Lib.hid h5
    clear h5
    go_simp
    refine hK'.out _ _ ⟨by go_simp, by go_simp, by go_simp, by go_simp⟩ ?_
    clear hK' K'
    refine wpAnyR_end (by kernel_rfl) (fun w6 h6 => ?_)
    (try simp only [Act.put, List.setIfInBounds_toArray, List.set_cons_zero, List.set_cons_succ])
    have q := keep2 h6 (b := w.heap.size) (by first | (simp; done) | (simp; omega) | omega)
    have kc6_0_0 := q.1
    have kc6_0_1 := q.2.1
    have kf6_0_0 := q.2.2.1
    have kf6_0_1 := q.2.2.2.1
    have kl6_0 := q.2.2.2.2.1
    have kn6_0 := q.2.2.2.2.2.1
    have km6_0 := q.2.2.2.2.2.2
    clear q
    have q := keep2 h6 (b := w.heap.size + 1) (by first | (simp; done) | (simp; omega) | omega)
    have kc6_1_0 := q.1
    have kc6_1_1 := q.2.1
    have kf6_1_0 := q.2.2.1
    have kf6_1_1 := q.2.2.2.1
    have kl6_1 := q.2.2.2.2.1
    have kn6_1 := q.2.2.2.2.2.1
    have km6_1 := q.2.2.2.2.2.2
    clear q
    have q := keep2 h6 (b := w.heap.size + 2) (by first | (simp; done) | (simp; omega) | omega)
    have kc6_2_0 := q.1
    have kc6_2_1 := q.2.1
    have kf6_2_0 := q.2.2.1
    have kf6_2_1 := q.2.2.2.1
    have kl6_2 := q.2.2.2.2.1
    have kn6_2 := q.2.2.2.2.2.1
    have km6_2 := q.2.2.2.2.2.2
    clear q
    have kz6 := h6.size
    (try simp only [World.size_alloc, World.size_setCell, World.size_drew] at kz6)
    have H6 := Lib.hid h6
    clear h6
    go_wp2
    refine bodyPost_ret ?_ rfl ⟨rfl, ?_⟩
    · simp [results, Try.results30, go_sem, kc6_2_0, kc6_2_1, kl6_2, kc5_2_0, kc5_2_1, kl5_2, kc4_2_0, kc4_2_1, kl4_2, kc3_2_0, kc3_2_1, kl3_2, kc2_2_0, kc2_2_1, kl2_2, kc1_2_0, kc1_2_1, kl1_2]
    · (repeat (first | with_reducible exact Rel.refl _ | with_reducible refine Rel.alloc ?_ _ | with_reducible refine Rel.setCell ?_ (by first | (simp; done) | (simp; omega)) _ | with_reducible refine Rel.drew ?_ | with_reducible refine Rel.trans ?_ H6.out | with_reducible refine Rel.trans ?_ H5.out | with_reducible refine Rel.trans ?_ H4.out | with_reducible refine Rel.trans ?_ H3.out | with_reducible refine Rel.trans ?_ H2.out | with_reducible refine Rel.trans ?_ H1.out))
  · have z1 := hN a h1; have z3 := hP c h2; clear hN hP hN' hP'
    go_enter Try.func30, Try.ntmps30
    go_wp2_with fail
    with_reducible refine (V1.out _).mono ?_
    rintro e w1 ⟨rfl, h1⟩
    have q := keep2 h1 (b := w.heap.size) (by first | (simp; done) | (simp; omega) | omega)
    have kc1_0_0 := q.1
    have kc1_0_1 := q.2.1
    have kf1_0_0 := q.2.2.1
    have kf1_0_1 := q.2.2.2.1
    have kl1_0 := q.2.2.2.2.1
    have kn1_0 := q.2.2.2.2.2.1
    have km1_0 := q.2.2.2.2.2.2
    clear q
    have q := keep2 h1 (b := w.heap.size + 1) (by first | (simp; done) | (simp; omega) | omega)
    have kc1_1_0 := q.1
    have kc1_1_1 := q.2.1
    have kf1_1_0 := q.2.2.1
    have kf1_1_1 := q.2.2.2.1
    have kl1_1 := q.2.2.2.2.1
    have kn1_1 := q.2.2.2.2.2.1
    have km1_1 := q.2.2.2.2.2.2
    clear q
    have q := keep2 h1 (b := w.heap.size + 2) (by first | (simp; done) | (simp; omega) | omega)
    have kc1_2_0 := q.1
    have kc1_2_1 := q.2.1
    have kf1_2_0 := q.2.2.1
    have kf1_2_1 := q.2.2.2.1
    have kl1_2 := q.2.2.2.2.1
    have kn1_2 := q.2.2.2.2.2.1
    have km1_2 := q.2.2.2.2.2.2
    clear q
    have kz1 := h1.size
    (try simp only [World.size_alloc, World.size_setCell, World.size_drew] at kz1)
    have H1 := Lib.hid h1
    clear h1
    go_wp2_with fail
    with_reducible refine (V2.out _).mono ?_
    rintro e w2 ⟨rfl, h2⟩
    have q := keep2 h2 (b := w.heap.size) (by first | (simp; done) | (simp; omega) | omega)
    have kc2_0_0 := q.1
    have kc2_0_1 := q.2.1
    have kf2_0_0 := q.2.2.1
    have kf2_0_1 := q.2.2.2.1
    have kl2_0 := q.2.2.2.2.1
    have kn2_0 := q.2.2.2.2.2.1
    have km2_0 := q.2.2.2.2.2.2
    clear q
    have q := keep2 h2 (b := w.heap.size + 1) (by first | (simp; done) | (simp; omega) | omega)
    have kc2_1_0 := q.1
    have kc2_1_1 := q.2.1
    have kf2_1_0 := q.2.2.1
    have kf2_1_1 := q.2.2.2.1
    have kl2_1 := q.2.2.2.2.1
    have kn2_1 := q.2.2.2.2.2.1
    have km2_1 := q.2.2.2.2.2.2
    clear q
    have q := keep2 h2 (b := w.heap.size + 2) (by first | (simp; done) | (simp; omega) | omega)
    have kc2_2_0 := q.1
    have kc2_2_1 := q.2.1
    have kf2_2_0 := q.2.2.1
    have kf2_2_1 := q.2.2.2.1
    have kl2_2 := q.2.2.2.2.1
    have kn2_2 := q.2.2.2.2.2.1
    have km2_2 := q.2.2.2.2.2.2
    clear q
    have kz2 := h2.size
    (try simp only [World.size_alloc, World.size_setCell, World.size_drew] at kz2)
    have H2 := Lib.hid h2
    clear h2
    go_wp2_with fail
    refine wp_region_calm (fun _ w' => w'.cell? { block := w.heap.size, off := 0 } = some (.int .i64 a) ∧ w'.cell? { block := w.heap.size, off := 1 } = some (.int .i64 B) ∧ w'.cell? { block := w.heap.size + 1, off := 0 } = some (.int .i64 c) ∧ w'.cell? { block := w.heap.size + 1, off := 1 } = some (.int .i64 D)) (fun _ => false) [0, 1, 2, 3, 4, 5, 6, 7, 8, 9, 10, 11, 12, 13, 14, 15, 16, 17, 18, 19, 20, 21] 2 (by kernel_rfl) (by kernel_rfl) ?hst ?hS0 (fun w0 h0 => ?_)
    case hst => exact fun _ _ _ h r => ⟨r.cell h.1, r.cell h.2.1, r.cell h.2.2.1, r.cell h.2.2.2⟩
    case hS0 => exact ⟨by go_simp, by go_simp, by go_simp, by go_simp⟩
    iterate 9
      refine wpCalm_go rfl (by kernel_rfl) (fun K hK => ?_)
      apply Exists.intro
      refine ⟨fun M w hM hS => ?_, hK _ ?_⟩
      · have c1 := hS.1
        have c2 := hS.2.1
        have c3 := hS.2.2.1
        have c4 := hS.2.2.2
        unfold calmAt
        go_simp
        exact ⟨rfl, Rel.refl _⟩
      clear hK K
    refine wpCalm_go rfl (by kernel_rfl) (fun K hK => ?_)
    apply Exists.intro
    refine ⟨fun M w hM hS => ?_, hK _ ?_⟩
    · have c1 := hS.1
      have c2 := hS.2.1
      have c3 := hS.2.2.1
      have c4 := hS.2.2.2
      unfold calmAt
      go_simp
      with_reducible refine (S1.out _).mono ?_
      rintro e w1 ⟨rfl, rfl⟩
      exact ⟨rfl, Rel.refl _⟩
    clear hK K
    iterate 8
      refine wpCalm_go rfl (by kernel_rfl) (fun K hK => ?_)
      apply Exists.intro
      refine ⟨fun M w hM hS => ?_, hK _ ?_⟩
      · have c1 := hS.1
        have c2 := hS.2.1
        have c3 := hS.2.2.1
        have c4 := hS.2.2.2
        unfold calmAt
        go_simp
        exact ⟨rfl, Rel.refl _⟩
      clear hK K
    refine wpCalm_go rfl (by kernel_rfl) (fun K hK => ?_)
    apply Exists.intro
    refine ⟨fun M w hM hS => ?_, hK _ ?_⟩
    · have c1 := hS.1
      have c2 := hS.2.1
      have c3 := hS.2.2.1
      have c4 := hS.2.2.2
      unfold calmAt
      go_simp
      with_reducible refine (S3.out _).mono ?_
      rintro e w1 ⟨rfl, rfl⟩
      exact ⟨rfl, Rel.refl _⟩
    clear hK K
    refine wpCalm_go rfl (by kernel_rfl) (fun K hK => ?_)
    apply Exists.intro
    refine ⟨fun M w hM hS => ?_, hK _ ?_⟩
    · unfold calmAt
      go_simp
      with_reducible refine (hQ.out _).mono ?_
      rintro e w1 ⟨rfl, hb⟩
      exact ⟨rfl, hb⟩
    clear hK K
    iterate 2
      refine wpCalm_go rfl (by kernel_rfl) (fun K hK => ?_)
      apply Exists.intro
      refine ⟨fun M w hM hS => ?_, hK _ ?_⟩
      · unfold calmAt
        go_simp
        exact ⟨rfl, Rel.refl _⟩
      clear hK K
    refine wpCalm_nil ?_
    have q := keep2 h0 (b := w.heap.size) (by first | (simp; done) | (simp; omega) | omega)
    have kc3_0_0 := q.1
    have kc3_0_1 := q.2.1
    have kf3_0_0 := q.2.2.1
    have kf3_0_1 := q.2.2.2.1
    have kl3_0 := q.2.2.2.2.1
    have kn3_0 := q.2.2.2.2.2.1
    have km3_0 := q.2.2.2.2.2.2
    clear q
    have q := keep2 h0 (b := w.heap.size + 1) (by first | (simp; done) | (simp; omega) | omega)
    have kc3_1_0 := q.1
    have kc3_1_1 := q.2.1
    have kf3_1_0 := q.2.2.1
    have kf3_1_1 := q.2.2.2.1
    have kl3_1 := q.2.2.2.2.1
    have kn3_1 := q.2.2.2.2.2.1
    have km3_1 := q.2.2.2.2.2.2
    clear q
    have q := keep2 h0 (b := w.heap.size + 2) (by first | (simp; done) | (simp; omega) | omega)
    have kc3_2_0 := q.1
    have kc3_2_1 := q.2.1
    have kf3_2_0 := q.2.2.1
    have kf3_2_1 := q.2.2.2.1
    have kl3_2 := q.2.2.2.2.1
    have kn3_2 := q.2.2.2.2.2.1
    have km3_2 := q.2.2.2.2.2.2
    clear q
    have kz3 := h0.size
    (try simp only [World.size_alloc, World.size_setCell, World.size_drew] at kz3)
    have H3 := Lib.hid h0
    clear h0
    refine wpAnyR_ready (rs := [22]) (by kernel_rfl) (by simp) (AllR.cons rfl (fun w4 h4 K' hK' => ?_) AllR.nil)
    have q := keep2 h4 (b := w.heap.size) (by first | (simp; done) | (simp; omega) | omega)
    have kc4_0_0 := q.1
    have kc4_0_1 := q.2.1
    have kf4_0_0 := q.2.2.1
    have kf4_0_1 := q.2.2.2.1
    have kl4_0 := q.2.2.2.2.1
    have kn4_0 := q.2.2.2.2.2.1
    have km4_0 := q.2.2.2.2.2.2
    clear q
    have q := keep2 h4 (b := w.heap.size + 1) (by first | (simp; done) | (simp; omega) | omega)
    have kc4_1_0 := q.1
    have kc4_1_1 := q.2.1
    have kf4_1_0 := q.2.2.1
    have kf4_1_1 := q.2.2.2.1
    have kl4_1 := q.2.2.2.2.1
    have kn4_1 := q.2.2.2.2.2.1
    have km4_1 := q.2.2.2.2.2.2
    clear q
    have q := keep2 h4 (b := w.heap.size + 2) (by first | (simp; done) | (simp; omega) | omega)
    have kc4_2_0 := q.1
    have kc4_2_1 := q.2.1
    have kf4_2_0 := q.2.2.1
    have kf4_2_1 := q.2.2.2.1
    have kl4_2 := q.2.2.2.2.1
    have kn4_2 := q.2.2.2.2.2.1
    have km4_2 := q.2.2.2.2.2.2
    clear q
    have kz4 := h4.size
    (try simp only [World.size_alloc, World.size_setCell, World.size_drew] at kz4)
    have H4 := Lib.hid h4
    clear h4
    go_simp
    refine hK'.out _ _ ⟨by go_simp, by go_simp, by go_simp, by go_simp⟩ ?_
    clear hK' K'
    refine wpAnyR_ready (rs := [23]) (by kernel_rfl) (by simp) (AllR.cons rfl (fun w5 h5 K' hK' => ?_) AllR.nil)
    have q := keep2 h5 (b := w.heap.size) (by first | (simp; done) | (simp; omega) | omega)
    have kc5_0_0 := q.1
    have kc5_0_1 := q.2.1
    have kf5_0_0 := q.2.2.1
    have kf5_0_1 := q.2.2.2.1
    have kl5_0 := q.2.2.2.2.1
    have kn5_0 := q.2.2.2.2.2.1
    have km5_0 := q.2.2.2.2.2.2
    clear q
    have q := keep2 h5 (b := w.heap.size + 1) (by first | (simp; done) | (simp; omega) | omega)
    have kc5_1_0 := q.1
    have kc5_1_1 := q.2.1
    have kf5_1_0 := q.2.2.1
    have kf5_1_1 := q.2.2.2.1
    have kl5_1 := q.2.2.2.2.1
    have kn5_1 := q.2.2.2.2.2.1
    have km5_1 := q.2.2.2.2.2.2
    clear q
    have q := keep2 h5 (b := w.heap.size + 2) (by first | (simp; done) | (simp; omega) | omega)
    have kc5_2_0 := q.1
    have kc5_2_1 := q.2.1
    have kf5_2_0 := q.2.2.1
    have kf5_2_1 := q.2.2.2.1
    have kl5_2 := q.2.2.2.2.1
    have kn5_2 := q.2.2.2.2.2.1
    have km5_2 := q.2.2.2.2.2.2
    clear q
    have kz5 := h5.size
    (try simp only [World.size_alloc, World.size_setCell, World.size_drew] at kz5)
    have H5 := Lib.hid h5
    clear h5
    go_simp
    refine hK'.out _ _ ⟨by go_simp, by go_simp, by go_simp, by go_simp⟩ ?_
    clear hK' K'
    refine wpAnyR_end (by kernel_rfl) (fun w6 h6 => ?_)
    (try simp only [Act.put, List.setIfInBounds_toArray, List.set_cons_zero, List.set_cons_succ])
    have q := keep2 h6 (b := w.heap.size) (by first | (simp; done) | (simp; omega) | omega)
    have kc6_0_0 := q.1
    have kc6_0_1 := q.2.1
    have kf6_0_0 := q.2.2.1
    have kf6_0_1 := q.2.2.2.1
    have kl6_0 := q.2.2.2.2.1
    have kn6_0 := q.2.2.2.2.2.1
    have km6_0 := q.2.2.2.2.2.2
    clear q
    have q := keep2 h6 (b := w.heap.size + 1) (by first | (simp; done) | (simp; omega) | omega)
    have kc6_1_0 := q.1
    have kc6_1_1 := q.2.1
    have kf6_1_0 := q.2.2.1
    have kf6_1_1 := q.2.2.2.1
    have kl6_1 := q.2.2.2.2.1
    have kn6_1 := q.2.2.2.2.2.1
    have km6_1 := q.2.2.2.2.2.2
    clear q
    have q := keep2 h6 (b := w.heap.size + 2) (by first | (simp; done) | (simp; omega) | omega)
    have kc6_2_0 := q.1
    have kc6_2_1 := q.2.1
    have kf6_2_0 := q.2.2.1
    have kf6_2_1 := q.2.2.2.1
    have kl6_2 := q.2.2.2.2.1
    have kn6_2 := q.2.2.2.2.2.1
    have km6_2 := q.2.2.2.2.2.2
    clear q
    have kz6 := h6.size
    (try simp only [World.size_alloc, World.size_setCell, World.size_drew] at kz6)
    have H6 := Lib.hid h6
    clear h6
    go_wp2
    refine bodyPost_ret ?_ rfl ⟨rfl, ?_⟩
    · simp [results, Try.results30, go_sem, kc6_2_0, kc6_2_1, kl6_2, kc5_2_0, kc5_2_1, kl5_2, kc4_2_0, kc4_2_1, kl4_2, kc3_2_0, kc3_2_1, kl3_2, kc2_2_0, kc2_2_1, kl2_2, kc1_2_0, kc1_2_1, kl1_2]
    · (repeat (first | with_reducible exact Rel.refl _ | with_reducible refine Rel.alloc ?_ _ | with_reducible refine Rel.setCell ?_ (by first | (simp; done) | (simp; omega)) _ | with_reducible refine Rel.drew ?_ | with_reducible refine Rel.trans ?_ H6.out | with_reducible refine Rel.trans ?_ H5.out | with_reducible refine Rel.trans ?_ H4.out | with_reducible refine Rel.trans ?_ H3.out | with_reducible refine Rel.trans ?_ H2.out | with_reducible refine Rel.trans ?_ H1.out))
  · have z1 := hP a h1; have z3 := hN c h2; clear hN hP hN' hP'
    go_enter Try.func30, Try.ntmps30
    go_wp2_with fail
    with_reducible refine (V1.out _).mono ?_
    rintro e w1 ⟨rfl, h1⟩
    have q := keep2 h1 (b := w.heap.size) (by first | (simp; done) | (simp; omega) | omega)
    have kc1_0_0 := q.1
    have kc1_0_1 := q.2.1
    have kf1_0_0 := q.2.2.1
    have kf1_0_1 := q.2.2.2.1
    have kl1_0 := q.2.2.2.2.1
    have kn1_0 := q.2.2.2.2.2.1
    have km1_0 := q.2.2.2.2.2.2
    clear q
    have q := keep2 h1 (b := w.heap.size + 1) (by first | (simp; done) | (simp; omega) | omega)
    have kc1_1_0 := q.1
    have kc1_1_1 := q.2.1
    have kf1_1_0 := q.2.2.1
    have kf1_1_1 := q.2.2.2.1
    have kl1_1 := q.2.2.2.2.1
    have kn1_1 := q.2.2.2.2.2.1
    have km1_1 := q.2.2.2.2.2.2
    clear q
    have q := keep2 h1 (b := w.heap.size + 2) (by first | (simp; done) | (simp; omega) | omega)
    have kc1_2_0 := q.1
    have kc1_2_1 := q.2.1
    have kf1_2_0 := q.2.2.1
    have kf1_2_1 := q.2.2.2.1
    have kl1_2 := q.2.2.2.2.1
    have kn1_2 := q.2.2.2.2.2.1
    have km1_2 := q.2.2.2.2.2.2
    clear q
    have kz1 := h1.size
    (try simp only [World.size_alloc, World.size_setCell, World.size_drew] at kz1)
    have H1 := Lib.hid h1
    clear h1
    go_wp2_with fail
    with_reducible refine (V2.out _).mono ?_
    rintro e w2 ⟨rfl, h2⟩
    have q := keep2 h2 (b := w.heap.size) (by first | (simp; done) | (simp; omega) | omega)
    have kc2_0_0 := q.1
    have kc2_0_1 := q.2.1
    have kf2_0_0 := q.2.2.1
    have kf2_0_1 := q.2.2.2.1
    have kl2_0 := q.2.2.2.2.1
    have kn2_0 := q.2.2.2.2.2.1
    have km2_0 := q.2.2.2.2.2.2
    clear q
    have q := keep2 h2 (b := w.heap.size + 1) (by first | (simp; done) | (simp; omega) | omega)
    have kc2_1_0 := q.1
    have kc2_1_1 := q.2.1
    have kf2_1_0 := q.2.2.1
    have kf2_1_1 := q.2.2.2.1
    have kl2_1 := q.2.2.2.2.1
    have kn2_1 := q.2.2.2.2.2.1
    have km2_1 := q.2.2.2.2.2.2
    clear q
    have q := keep2 h2 (b := w.heap.size + 2) (by first | (simp; done) | (simp; omega) | omega)
    have kc2_2_0 := q.1
    have kc2_2_1 := q.2.1
    have kf2_2_0 := q.2.2.1
    have kf2_2_1 := q.2.2.2.1
    have kl2_2 := q.2.2.2.2.1
    have kn2_2 := q.2.2.2.2.2.1
    have km2_2 := q.2.2.2.2.2.2
    clear q
    have kz2 := h2.size
    (try simp only [World.size_alloc, World.size_setCell, World.size_drew] at kz2)
    have H2 := Lib.hid h2
    clear h2
    go_wp2_with fail
    refine wp_region_calm (fun _ w' => w'.cell? { block := w.heap.size, off := 0 } = some (.int .i64 a) ∧ w'.cell? { block := w.heap.size, off := 1 } = some (.int .i64 B) ∧ w'.cell? { block := w.heap.size + 1, off := 0 } = some (.int .i64 c) ∧ w'.cell? { block := w.heap.size + 1, off := 1 } = some (.int .i64 D)) (fun _ => false) [0, 1, 2, 3, 4, 5, 6, 7, 8, 9, 10, 11, 12, 13, 14, 15, 16, 17, 18, 19, 20, 21] 2 (by kernel_rfl) (by kernel_rfl) ?hst ?hS0 (fun w0 h0 => ?_)
    case hst => exact fun _ _ _ h r => ⟨r.cell h.1, r.cell h.2.1, r.cell h.2.2.1, r.cell h.2.2.2⟩
    case hS0 => exact ⟨by go_simp, by go_simp, by go_simp, by go_simp⟩
    iterate 9
      refine wpCalm_go rfl (by kernel_rfl) (fun K hK => ?_)
      apply Exists.intro
      refine ⟨fun M w hM hS => ?_, hK _ ?_⟩
      · have c1 := hS.1
        have c2 := hS.2.1
        have c3 := hS.2.2.1
        have c4 := hS.2.2.2
        unfold calmAt
        go_simp
        exact ⟨rfl, Rel.refl _⟩
      clear hK K
    refine wpCalm_go rfl (by kernel_rfl) (fun K hK => ?_)
    apply Exists.intro
    refine ⟨fun M w hM hS => ?_, hK _ ?_⟩
    · have c1 := hS.1
      have c2 := hS.2.1
      have c3 := hS.2.2.1
      have c4 := hS.2.2.2
      unfold calmAt
      go_simp
      with_reducible refine (S1.out _).mono ?_
      rintro e w1 ⟨rfl, rfl⟩
      exact ⟨rfl, Rel.refl _⟩
    clear hK K
    iterate 8
      refine wpCalm_go rfl (by kernel_rfl) (fun K hK => ?_)
      apply Exists.intro
      refine ⟨fun M w hM hS => ?_, hK _ ?_⟩
      · have c1 := hS.1
        have c2 := hS.2.1
        have c3 := hS.2.2.1
        have c4 := hS.2.2.2
        unfold calmAt
        go_simp
        exact ⟨rfl, Rel.refl _⟩
      clear hK K
    refine wpCalm_go rfl (by kernel_rfl) (fun K hK => ?_)
    apply Exists.intro
    refine ⟨fun M w hM hS => ?_, hK _ ?_⟩
    · have c1 := hS.1
      have c2 := hS.2.1
      have c3 := hS.2.2.1
      have c4 := hS.2.2.2
      unfold calmAt
      go_simp
      with_reducible refine (S3.out _).mono ?_
      rintro e w1 ⟨rfl, rfl⟩
      exact ⟨rfl, Rel.refl _⟩
    clear hK K
    refine wpCalm_go rfl (by kernel_rfl) (fun K hK => ?_)
    apply Exists.intro
    refine ⟨fun M w hM hS => ?_, hK _ ?_⟩
    · unfold calmAt
      go_simp
      with_reducible refine (hQ.out _).mono ?_
      rintro e w1 ⟨rfl, hb⟩
      exact ⟨rfl, hb⟩
    clear hK K
    iterate 2
      refine wpCalm_go rfl (by kernel_rfl) (fun K hK => ?_)
      apply Exists.intro
      refine ⟨fun M w hM hS => ?_, hK _ ?_⟩
      · unfold calmAt
        go_simp
        exact ⟨rfl, Rel.refl _⟩
      clear hK K
    refine wpCalm_nil ?_
    have q := keep2 h0 (b := w.heap.size) (by first | (simp; done) | (simp; omega) | omega)
    have kc3_0_0 := q.1
    have kc3_0_1 := q.2.1
    have kf3_0_0 := q.2.2.1
    have kf3_0_1 := q.2.2.2.1
    have kl3_0 := q.2.2.2.2.1
    have kn3_0 := q.2.2.2.2.2.1
    have km3_0 := q.2.2.2.2.2.2
    clear q
    have q := keep2 h0 (b := w.heap.size + 1) (by first | (simp; done) | (simp; omega) | omega)
    have kc3_1_0 := q.1
    have kc3_1_1 := q.2.1
    have kf3_1_0 := q.2.2.1
    have kf3_1_1 := q.2.2.2.1
    have kl3_1 := q.2.2.2.2.1
    have kn3_1 := q.2.2.2.2.2.1
    have km3_1 := q.2.2.2.2.2.2
    clear q
    have q := keep2 h0 (b := w.heap.size + 2) (by first | (simp; done) | (simp; omega) | omega)
    have kc3_2_0 := q.1
    have kc3_2_1 := q.2.1
    have kf3_2_0 := q.2.2.1
    have kf3_2_1 := q.2.2.2.1
    have kl3_2 := q.2.2.2.2.1
    have kn3_2 := q.2.2.2.2.2.1
    have km3_2 := q.2.2.2.2.2.2
    clear q
    have kz3 := h0.size
    (try simp only [World.size_alloc, World.size_setCell, World.size_drew] at kz3)
    have H3 := Lib.hid h0
    clear h0
    refine wpAnyR_ready (rs := [22]) (by kernel_rfl) (by simp) (AllR.cons rfl (fun w4 h4 K' hK' => ?_) AllR.nil)
    have q := keep2 h4 (b := w.heap.size) (by first | (simp; done) | (simp; omega) | omega)
    have kc4_0_0 := q.1
    have kc4_0_1 := q.2.1
    have kf4_0_0 := q.2.2.1
    have kf4_0_1 := q.2.2.2.1
    have kl4_0 := q.2.2.2.2.1
    have kn4_0 := q.2.2.2.2.2.1
    have km4_0 := q.2.2.2.2.2.2
    clear q
    have q := keep2 h4 (b := w.heap.size + 1) (by first | (simp; done) | (simp; omega) | omega)
    have kc4_1_0 := q.1
    have kc4_1_1 := q.2.1
    have kf4_1_0 := q.2.2.1
    have kf4_1_1 := q.2.2.2.1
    have kl4_1 := q.2.2.2.2.1
    have kn4_1 := q.2.2.2.2.2.1
    have km4_1 := q.2.2.2.2.2.2
    clear q
    have q := keep2 h4 (b := w.heap.size + 2) (by first | (simp; done) | (simp; omega) | omega)
    have kc4_2_0 := q.1
    have kc4_2_1 := q.2.1
    have kf4_2_0 := q.2.2.1
    have kf4_2_1 := q.2.2.2.1
    have kl4_2 := q.2.2.2.2.1
    have kn4_2 := q.2.2.2.2.2.1
    have km4_2 := q.2.2.2.2.2.2
    clear q
    have kz4 := h4.size
    (try simp only [World.size_alloc, World.size_setCell, World.size_drew] at kz4)
    have H4 := Lib.hid h4
    clear h4
    go_simp
    refine hK'.out _ _ ⟨by go_simp, by go_simp, by go_simp, by go_simp⟩ ?_
    clear hK' K'
    refine wpAnyR_ready (rs := [23]) (by kernel_rfl) (by simp) (AllR.cons rfl (fun w5 h5 K' hK' => ?_) AllR.nil)
    have q := keep2 h5 (b := w.heap.size) (by first | (simp; done) | (simp; omega) | omega)
    have kc5_0_0 := q.1
    have kc5_0_1 := q.2.1
    have kf5_0_0 := q.2.2.1
    have kf5_0_1 := q.2.2.2.1
    have kl5_0 := q.2.2.2.2.1
    have kn5_0 := q.2.2.2.2.2.1
    have km5_0 := q.2.2.2.2.2.2
    clear q
    have q := keep2 h5 (b := w.heap.size + 1) (by first | (simp; done) | (simp; omega) | omega)
    have kc5_1_0 := q.1
    have kc5_1_1 := q.2.1
    have kf5_1_0 := q.2.2.1
    have kf5_1_1 := q.2.2.2.1
    have kl5_1 := q.2.2.2.2.1
    have kn5_1 := q.2.2.2.2.2.1
    have km5_1 := q.2.2.2.2.2.2
    clear q
    have q := keep2 h5 (b := w.heap.size + 2) (by first | (simp; done) | (simp; omega) | omega)
    have kc5_2_0 := q.1
    have kc5_2_1 := q.2.1
    have kf5_2_0 := q.2.2.1
    have kf5_2_1 := q.2.2.2.1
    have kl5_2 := q.2.2.2.2.1
    have kn5_2 := q.2.2.2.2.2.1
    have km5_2 := q.2.2.2.2.2.2
    clear q
    have kz5 := h5.size
    (try simp only [World.size_alloc, World.size_setCell, World.size_drew] at kz5)
    have H5 := Lib.hid h5
    clear h5
    go_simp
    refine hK'.out _ _ ⟨by go_simp, by go_simp, by go_simp, by go_simp⟩ ?_
    clear hK' K'
    refine wpAnyR_end (by kernel_rfl) (fun w6 h6 => ?_)
    (try simp only [Act.put, List.setIfInBounds_toArray, List.set_cons_zero, List.set_cons_succ])
    have q := keep2 h6 (b := w.heap.size) (by first | (simp; done) | (simp; omega) | omega)
    have kc6_0_0 := q.1
    have kc6_0_1 := q.2.1
    have kf6_0_0 := q.2.2.1
    have kf6_0_1 := q.2.2.2.1
    have kl6_0 := q.2.2.2.2.1
    have kn6_0 := q.2.2.2.2.2.1
    have km6_0 := q.2.2.2.2.2.2
    clear q
    have q := keep2 h6 (b := w.heap.size + 1) (by first | (simp; done) | (simp; omega) | omega)
    have kc6_1_0 := q.1
    have kc6_1_1 := q.2.1
    have kf6_1_0 := q.2.2.1
    have kf6_1_1 := q.2.2.2.1
    have kl6_1 := q.2.2.2.2.1
    have kn6_1 := q.2.2.2.2.2.1
    have km6_1 := q.2.2.2.2.2.2
    clear q
    have q := keep2 h6 (b := w.heap.size + 2) (by first | (simp; done) | (simp; omega) | omega)
    have kc6_2_0 := q.1
    have kc6_2_1 := q.2.1
    have kf6_2_0 := q.2.2.1
    have kf6_2_1 := q.2.2.2.1
    have kl6_2 := q.2.2.2.2.1
    have kn6_2 := q.2.2.2.2.2.1
    have km6_2 := q.2.2.2.2.2.2
    clear q
    have kz6 := h6.size
    (try simp only [World.size_alloc, World.size_setCell, World.size_drew] at kz6)
    have H6 := Lib.hid h6
    clear h6
    go_wp2
    refine bodyPost_ret ?_ rfl ⟨rfl, ?_⟩
    · simp [results, Try.results30, go_sem, kc6_2_0, kc6_2_1, kl6_2, kc5_2_0, kc5_2_1, kl5_2, kc4_2_0, kc4_2_1, kl4_2, kc3_2_0, kc3_2_1, kl3_2, kc2_2_0, kc2_2_1, kl2_2, kc1_2_0, kc1_2_1, kl1_2]
    · (repeat (first | with_reducible exact Rel.refl _ | with_reducible refine Rel.alloc ?_ _ | with_reducible refine Rel.setCell ?_ (by first | (simp; done) | (simp; omega)) _ | with_reducible refine Rel.drew ?_ | with_reducible refine Rel.trans ?_ H6.out | with_reducible refine Rel.trans ?_ H5.out | with_reducible refine Rel.trans ?_ H4.out | with_reducible refine Rel.trans ?_ H3.out | with_reducible refine Rel.trans ?_ H2.out | with_reducible refine Rel.trans ?_ H1.out))
  · have z1 := hP a h1; have z3 := hP c h2; clear hN hP hN' hP'
    go_enter Try.func30, Try.ntmps30
    go_wp2_with fail
    with_reducible refine (V1.out _).mono ?_
    rintro e w1 ⟨rfl, h1⟩
    have q := keep2 h1 (b := w.heap.size) (by first | (simp; done) | (simp; omega) | omega)
    have kc1_0_0 := q.1
    have kc1_0_1 := q.2.1
    have kf1_0_0 := q.2.2.1
    have kf1_0_1 := q.2.2.2.1
    have kl1_0 := q.2.2.2.2.1
    have kn1_0 := q.2.2.2.2.2.1
    have km1_0 := q.2.2.2.2.2.2
    clear q
    have q := keep2 h1 (b := w.heap.size + 1) (by first | (simp; done) | (simp; omega) | omega)
    have kc1_1_0 := q.1
    have kc1_1_1 := q.2.1
    have kf1_1_0 := q.2.2.1
    have kf1_1_1 := q.2.2.2.1
    have kl1_1 := q.2.2.2.2.1
    have kn1_1 := q.2.2.2.2.2.1
    have km1_1 := q.2.2.2.2.2.2
    clear q
    have q := keep2 h1 (b := w.heap.size + 2) (by first | (simp; done) | (simp; omega) | omega)
    have kc1_2_0 := q.1
    have kc1_2_1 := q.2.1
    have kf1_2_0 := q.2.2.1
    have kf1_2_1 := q.2.2.2.1
    have kl1_2 := q.2.2.2.2.1
    have kn1_2 := q.2.2.2.2.2.1
    have km1_2 := q.2.2.2.2.2.2
    clear q
    have kz1 := h1.size
    (try simp only [World.size_alloc, World.size_setCell, World.size_drew] at kz1)
    have H1 := Lib.hid h1
    clear h1
    go_wp2_with fail
    with_reducible refine (V2.out _).mono ?_
    rintro e w2 ⟨rfl, h2⟩
    have q := keep2 h2 (b := w.heap.size) (by first | (simp; done) | (simp; omega) | omega)
    have kc2_0_0 := q.1
    have kc2_0_1 := q.2.1
    have kf2_0_0 := q.2.2.1
    have kf2_0_1 := q.2.2.2.1
    have kl2_0 := q.2.2.2.2.1
    have kn2_0 := q.2.2.2.2.2.1
    have km2_0 := q.2.2.2.2.2.2
    clear q
    have q := keep2 h2 (b := w.heap.size + 1) (by first | (simp; done) | (simp; omega) | omega)
    have kc2_1_0 := q.1
    have kc2_1_1 := q.2.1
    have kf2_1_0 := q.2.2.1
    have kf2_1_1 := q.2.2.2.1
    have kl2_1 := q.2.2.2.2.1
    have kn2_1 := q.2.2.2.2.2.1
    have km2_1 := q.2.2.2.2.2.2
    clear q
    have q := keep2 h2 (b := w.heap.size + 2) (by first | (simp; done) | (simp; omega) | omega)
    have kc2_2_0 := q.1
    have kc2_2_1 := q.2.1
    have kf2_2_0 := q.2.2.1
    have kf2_2_1 := q.2.2.2.1
    have kl2_2 := q.2.2.2.2.1
    have kn2_2 := q.2.2.2.2.2.1
    have km2_2 := q.2.2.2.2.2.2
    clear q
    have kz2 := h2.size
    (try simp only [World.size_alloc, World.size_setCell, World.size_drew] at kz2)
    have H2 := Lib.hid h2
    clear h2
    go_wp2_with fail
    refine wp_region_calm (fun _ w' => w'.cell? { block := w.heap.size, off := 0 } = some (.int .i64 a) ∧ w'.cell? { block := w.heap.size, off := 1 } = some (.int .i64 B) ∧ w'.cell? { block := w.heap.size + 1, off := 0 } = some (.int .i64 c) ∧ w'.cell? { block := w.heap.size + 1, off := 1 } = some (.int .i64 D)) (fun _ => false) [0, 1, 2, 3, 4, 5, 6, 7, 8, 9, 10, 11, 12, 13, 14, 15, 16, 17, 18, 19, 20, 21] 2 (by kernel_rfl) (by kernel_rfl) ?hst ?hS0 (fun w0 h0 => ?_)
    case hst => exact fun _ _ _ h r => ⟨r.cell h.1, r.cell h.2.1, r.cell h.2.2.1, r.cell h.2.2.2⟩
    case hS0 => exact ⟨by go_simp, by go_simp, by go_simp, by go_simp⟩
    iterate 9
      refine wpCalm_go rfl (by kernel_rfl) (fun K hK => ?_)
      apply Exists.intro
      refine ⟨fun M w hM hS => ?_, hK _ ?_⟩
      · have c1 := hS.1
        have c2 := hS.2.1
        have c3 := hS.2.2.1
        have c4 := hS.2.2.2
        unfold calmAt
        go_simp
        exact ⟨rfl, Rel.refl _⟩
      clear hK K
    refine wpCalm_go rfl (by kernel_rfl) (fun K hK => ?_)
    apply Exists.intro
    refine ⟨fun M w hM hS => ?_, hK _ ?_⟩
    · have c1 := hS.1
      have c2 := hS.2.1
      have c3 := hS.2.2.1
      have c4 := hS.2.2.2
      unfold calmAt
      go_simp
      with_reducible refine (S1.out _).mono ?_
      rintro e w1 ⟨rfl, rfl⟩
      exact ⟨rfl, Rel.refl _⟩
    clear hK K
    iterate 8
      refine wpCalm_go rfl (by kernel_rfl) (fun K hK => ?_)
      apply Exists.intro
      refine ⟨fun M w hM hS => ?_, hK _ ?_⟩
      · have c1 := hS.1
        have c2 := hS.2.1
        have c3 := hS.2.2.1
        have c4 := hS.2.2.2
        unfold calmAt
        go_simp
        exact ⟨rfl, Rel.refl _⟩
      clear hK K
    refine wpCalm_go rfl (by kernel_rfl) (fun K hK => ?_)
    apply Exists.intro
    refine ⟨fun M w hM hS => ?_, hK _ ?_⟩
    · have c1 := hS.1
      have c2 := hS.2.1
      have c3 := hS.2.2.1
      have c4 := hS.2.2.2
      unfold calmAt
      go_simp
      with_reducible refine (S3.out _).mono ?_
      rintro e w1 ⟨rfl, rfl⟩
      exact ⟨rfl, Rel.refl _⟩
    clear hK K
    refine wpCalm_go rfl (by kernel_rfl) (fun K hK => ?_)
    apply Exists.intro
    refine ⟨fun M w hM hS => ?_, hK _ ?_⟩
    · unfold calmAt
      go_simp
      with_reducible refine (hQ.out _).mono ?_
      rintro e w1 ⟨rfl, hb⟩
      exact ⟨rfl, hb⟩
    clear hK K
    iterate 2
      refine wpCalm_go rfl (by kernel_rfl) (fun K hK => ?_)
      apply Exists.intro
      refine ⟨fun M w hM hS => ?_, hK _ ?_⟩
      · unfold calmAt
        go_simp
        exact ⟨rfl, Rel.refl _⟩
      clear hK K
    refine wpCalm_nil ?_
    have q := keep2 h0 (b := w.heap.size) (by first | (simp; done) | (simp; omega) | omega)
    have kc3_0_0 := q.1
    have kc3_0_1 := q.2.1
    have kf3_0_0 := q.2.2.1
    have kf3_0_1 := q.2.2.2.1
    have kl3_0 := q.2.2.2.2.1
    have kn3_0 := q.2.2.2.2.2.1
    have km3_0 := q.2.2.2.2.2.2
    clear q
    have q := keep2 h0 (b := w.heap.size + 1) (by first | (simp; done) | (simp; omega) | omega)
    have kc3_1_0 := q.1
    have kc3_1_1 := q.2.1
    have kf3_1_0 := q.2.2.1
    have kf3_1_1 := q.2.2.2.1
    have kl3_1 := q.2.2.2.2.1
    have kn3_1 := q.2.2.2.2.2.1
    have km3_1 := q.2.2.2.2.2.2
    clear q
    have q := keep2 h0 (b := w.heap.size + 2) (by first | (simp; done) | (simp; omega) | omega)
    have kc3_2_0 := q.1
    have kc3_2_1 := q.2.1
    have kf3_2_0 := q.2.2.1
    have kf3_2_1 := q.2.2.2.1
    have kl3_2 := q.2.2.2.2.1
    have kn3_2 := q.2.2.2.2.2.1
    have km3_2 := q.2.2.2.2.2.2
    clear q
    have kz3 := h0.size
    (try simp only [World.size_alloc, World.size_setCell, World.size_drew] at kz3)
    have H3 := Lib.hid h0
    clear h0
    refine wpAnyR_ready (rs := [22]) (by kernel_rfl) (by simp) (AllR.cons rfl (fun w4 h4 K' hK' => ?_) AllR.nil)
    have q := keep2 h4 (b := w.heap.size) (by first | (simp; done) | (simp; omega) | omega)
    have kc4_0_0 := q.1
    have kc4_0_1 := q.2.1
    have kf4_0_0 := q.2.2.1
    have kf4_0_1 := q.2.2.2.1
    have kl4_0 := q.2.2.2.2.1
    have kn4_0 := q.2.2.2.2.2.1
    have km4_0 := q.2.2.2.2.2.2
    clear q
    have q := keep2 h4 (b := w.heap.size + 1) (by first | (simp; done) | (simp; omega) | omega)
    have kc4_1_0 := q.1
    have kc4_1_1 := q.2.1
    have kf4_1_0 := q.2.2.1
    have kf4_1_1 := q.2.2.2.1
    have kl4_1 := q.2.2.2.2.1
    have kn4_1 := q.2.2.2.2.2.1
    have km4_1 := q.2.2.2.2.2.2
    clear q
    have q := keep2 h4 (b := w.heap.size + 2) (by first | (simp; done) | (simp; omega) | omega)
    have kc4_2_0 := q.1
    have kc4_2_1 := q.2.1
    have kf4_2_0 := q.2.2.1
    have kf4_2_1 := q.2.2.2.1
    have kl4_2 := q.2.2.2.2.1
    have kn4_2 := q.2.2.2.2.2.1
    have km4_2 := q.2.2.2.2.2.2
    clear q
    have kz4 := h4.size
    (try simp only [World.size_alloc, World.size_setCell, World.size_drew] at kz4)
    have H4 := Lib.hid h4
    clear h4
    go_simp
    refine hK'.out _ _ ⟨by go_simp, by go_simp, by go_simp, by go_simp⟩ ?_
    clear hK' K'
    refine wpAnyR_ready (rs := [23]) (by kernel_rfl) (by simp) (AllR.cons rfl (fun w5 h5 K' hK' => ?_) AllR.nil)
    have q := keep2 h5 (b := w.heap.size) (by first | (simp; done) | (simp; omega) | omega)
    have kc5_0_0 := q.1
    have kc5_0_1 := q.2.1
    have kf5_0_0 := q.2.2.1
    have kf5_0_1 := q.2.2.2.1
    have kl5_0 := q.2.2.2.2.1
    have kn5_0 := q.2.2.2.2.2.1
    have km5_0 := q.2.2.2.2.2.2
    clear q
    have q := keep2 h5 (b := w.heap.size + 1) (by first | (simp; done) | (simp; omega) | omega)
    have kc5_1_0 := q.1
    have kc5_1_1 := q.2.1
    have kf5_1_0 := q.2.2.1
    have kf5_1_1 := q.2.2.2.1
    have kl5_1 := q.2.2.2.2.1
    have kn5_1 := q.2.2.2.2.2.1
    have km5_1 := q.2.2.2.2.2.2
    clear q
    have q := keep2 h5 (b := w.heap.size + 2) (by first | (simp; done) | (simp; omega) | omega)
    have kc5_2_0 := q.1
    have kc5_2_1 := q.2.1
    have kf5_2_0 := q.2.2.1
    have kf5_2_1 := q.2.2.2.1
    have kl5_2 := q.2.2.2.2.1
    have kn5_2 := q.2.2.2.2.2.1
    have km5_2 := q.2.2.2.2.2.2
    clear q
    have kz5 := h5.size
    (try simp only [World.size_alloc, World.size_setCell, World.size_drew] at kz5)
    have H5 := Lib.hid h5
    clear h5
    go_simp
    refine hK'.out _ _ ⟨by go_simp, by go_simp, by go_simp, by go_simp⟩ ?_
    clear hK' K'
    refine wpAnyR_end (by kernel_rfl) (fun w6 h6 => ?_)
    (try simp only [Act.put, List.setIfInBounds_toArray, List.set_cons_zero, List.set_cons_succ])
    have q := keep2 h6 (b := w.heap.size) (by first | (simp; done) | (simp; omega) | omega)
    have kc6_0_0 := q.1
    have kc6_0_1 := q.2.1
    have kf6_0_0 := q.2.2.1
    have kf6_0_1 := q.2.2.2.1
    have kl6_0 := q.2.2.2.2.1
    have kn6_0 := q.2.2.2.2.2.1
    have km6_0 := q.2.2.2.2.2.2
    clear q
    have q := keep2 h6 (b := w.heap.size + 1) (by first | (simp; done) | (simp; omega) | omega)
    have kc6_1_0 := q.1
    have kc6_1_1 := q.2.1
    have kf6_1_0 := q.2.2.1
    have kf6_1_1 := q.2.2.2.1
    have kl6_1 := q.2.2.2.2.1
    have kn6_1 := q.2.2.2.2.2.1
    have km6_1 := q.2.2.2.2.2.2
    clear q
    have q := keep2 h6 (b := w.heap.size + 2) (by first | (simp; done) | (simp; omega) | omega)
    have kc6_2_0 := q.1
    have kc6_2_1 := q.2.1
    have kf6_2_0 := q.2.2.1
    have kf6_2_1 := q.2.2.2.1
    have kl6_2 := q.2.2.2.2.1
    have kn6_2 := q.2.2.2.2.2.1
    have km6_2 := q.2.2.2.2.2.2
    clear q
    have kz6 := h6.size
    (try simp only [World.size_alloc, World.size_setCell, World.size_drew] at kz6)
    have H6 := Lib.hid h6
    clear h6
    go_wp2
    refine bodyPost_ret ?_ rfl ⟨rfl, ?_⟩
    · simp [results, Try.results30, go_sem, kc6_2_0, kc6_2_1, kl6_2, kc5_2_0, kc5_2_1, kl5_2, kc4_2_0, kc4_2_1, kl4_2, kc3_2_0, kc3_2_1, kl3_2, kc2_2_0, kc2_2_1, kl2_2, kc1_2_0, kc1_2_1, kl1_2]
    · (repeat (first | with_reducible exact Rel.refl _ | with_reducible refine Rel.alloc ?_ _ | with_reducible refine Rel.setCell ?_ (by first | (simp; done) | (simp; omega)) _ | with_reducible refine Rel.drew ?_ | with_reducible refine Rel.trans ?_ H6.out | with_reducible refine Rel.trans ?_ H5.out | with_reducible refine Rel.trans ?_ H4.out | with_reducible refine Rel.trans ?_ H3.out | with_reducible refine Rel.trans ?_ H2.out | with_reducible refine Rel.trans ?_ H1.out))

set_option maxHeartbeats 1600000 in
theorem mul_bad (a b c d : Int) (w : World) (a0 : -9223372036854775808 ≤ a) (a1 : a ≤ 9223372036854775807) (b0 : -9223372036854775808 ≤ b) (b1 : b ≤ 9223372036854775807) (c0 : -9223372036854775808 ≤ c) (c1 : c ≤ 9223372036854775807) (d0 : -9223372036854775808 ≤ d) (d1 : d ≤ 9223372036854775807) (h : addB a b c d = false) :
    Calls Try.prog 27 #[.agg #[.int .i64 a, .int .i64 b], .agg #[.int .i64 c, .int .i64 d]] w (FrRes 0 0 1 w) := by
  unfold addB at h
  unfold FrRes
  cases v1 : validB a b
  · have V1 := Lib.hid (fun w => valid_is v1 w a0 a1 b0 b1)
    clear v1 h
    go_enter Try.func27, Try.ntmps27
    go_wp2_with fail
    with_reducible refine (V1.out _).mono ?_
    rintro e w1 ⟨rfl, h1⟩
    have q := keep2 h1 (b := w.heap.size) (by first | (simp; done) | (simp; omega) | omega)
    have kc1_0_0 := q.1
    have kc1_0_1 := q.2.1
    have kf1_0_0 := q.2.2.1
    have kf1_0_1 := q.2.2.2.1
    have kl1_0 := q.2.2.2.2.1
    have kn1_0 := q.2.2.2.2.2.1
    have km1_0 := q.2.2.2.2.2.2
    clear q
    have q := keep2 h1 (b := w.heap.size + 1) (by first | (simp; done) | (simp; omega) | omega)
    have kc1_1_0 := q.1
    have kc1_1_1 := q.2.1
    have kf1_1_0 := q.2.2.1
    have kf1_1_1 := q.2.2.2.1
    have kl1_1 := q.2.2.2.2.1
    have kn1_1 := q.2.2.2.2.2.1
    have km1_1 := q.2.2.2.2.2.2
    clear q
    have q := keep2 h1 (b := w.heap.size + 2) (by first | (simp; done) | (simp; omega) | omega)
    have kc1_2_0 := q.1
    have kc1_2_1 := q.2.1
    have kf1_2_0 := q.2.2.1
    have kf1_2_1 := q.2.2.2.1
    have kl1_2 := q.2.2.2.2.1
    have kn1_2 := q.2.2.2.2.2.1
    have km1_2 := q.2.2.2.2.2.2
    clear q
    have kz1 := h1.size
    (try simp only [World.size_alloc, World.size_setCell, World.size_drew] at kz1)
    have H1 := Lib.hid h1
    clear h1
    go_wp2
    refine bodyPost_ret ?_ rfl ⟨rfl, ?_⟩
    · simp [results, Try.results27, go_sem, kc1_2_0, kc1_2_1, kl1_2]
    · (repeat (first | with_reducible exact Rel.refl _ | with_reducible refine Rel.alloc ?_ _ | with_reducible refine Rel.setCell ?_ (by first | (simp; done) | (simp; omega)) _ | with_reducible refine Rel.drew ?_ | with_reducible refine Rel.trans ?_ H1.out))
  · have v2 : validB c d = false := by rw [v1] at h; simpa using h
    have V1 := Lib.hid (fun w => valid_is v1 w a0 a1 b0 b1)
    have V2 := Lib.hid (fun w => valid_is v2 w c0 c1 d0 d1)
    clear v1 v2 h
    go_enter Try.func27, Try.ntmps27
    go_wp2_with fail
    with_reducible refine (V1.out _).mono ?_
    rintro e w1 ⟨rfl, h1⟩
    have q := keep2 h1 (b := w.heap.size) (by first | (simp; done) | (simp; omega) | omega)
    have kc1_0_0 := q.1
    have kc1_0_1 := q.2.1
    have kf1_0_0 := q.2.2.1
    have kf1_0_1 := q.2.2.2.1
    have kl1_0 := q.2.2.2.2.1
    have kn1_0 := q.2.2.2.2.2.1
    have km1_0 := q.2.2.2.2.2.2
    clear q
    have q := keep2 h1 (b := w.heap.size + 1) (by first | (simp; done) | (simp; omega) | omega)
    have kc1_1_0 := q.1
    have kc1_1_1 := q.2.1
    have kf1_1_0 := q.2.2.1
    have kf1_1_1 := q.2.2.2.1
    have kl1_1 := q.2.2.2.2.1
    have kn1_1 := q.2.2.2.2.2.1
    have km1_1 := q.2.2.2.2.2.2
    clear q
    have q := keep2 h1 (b := w.heap.size + 2) (by first | (simp; done) | (simp; omega) | omega)
    have kc1_2_0 := q.1
    have kc1_2_1 := q.2.1
    have kf1_2_0 := q.2.2.1
    have kf1_2_1 := q.2.2.2.1
    have kl1_2 := q.2.2.2.2.1
    have kn1_2 := q.2.2.2.2.2.1
    have km1_2 := q.2.2.2.2.2.2
    clear q
    have kz1 := h1.size
    (try simp only [World.size_alloc, World.size_setCell, World.size_drew] at kz1)
    have H1 := Lib.hid h1
    clear h1
    go_wp2_with fail
    with_reducible refine (V2.out _).mono ?_
    rintro e w2 ⟨rfl, h2⟩
    have q := keep2 h2 (b := w.heap.size) (by first | (simp; done) | (simp; omega) | omega)
    have kc2_0_0 := q.1
    have kc2_0_1 := q.2.1
    have kf2_0_0 := q.2.2.1
    have kf2_0_1 := q.2.2.2.1
    have kl2_0 := q.2.2.2.2.1
    have kn2_0 := q.2.2.2.2.2.1
    have km2_0 := q.2.2.2.2.2.2
    clear q
    have q := keep2 h2 (b := w.heap.size + 1) (by first | (simp; done) | (simp; omega) | omega)
    have kc2_1_0 := q.1
    have kc2_1_1 := q.2.1
    have kf2_1_0 := q.2.2.1
    have kf2_1_1 := q.2.2.2.1
    have kl2_1 := q.2.2.2.2.1
    have kn2_1 := q.2.2.2.2.2.1
    have km2_1 := q.2.2.2.2.2.2
    clear q
    have q := keep2 h2 (b := w.heap.size + 2) (by first | (simp; done) | (simp; omega) | omega)
    have kc2_2_0 := q.1
    have kc2_2_1 := q.2.1
    have kf2_2_0 := q.2.2.1
    have kf2_2_1 := q.2.2.2.1
    have kl2_2 := q.2.2.2.2.1
    have kn2_2 := q.2.2.2.2.2.1
    have km2_2 := q.2.2.2.2.2.2
    clear q
    have kz2 := h2.size
    (try simp only [World.size_alloc, World.size_setCell, World.size_drew] at kz2)
    have H2 := Lib.hid h2
    clear h2
    go_wp2
    refine bodyPost_ret ?_ rfl ⟨rfl, ?_⟩
    · simp [results, Try.results27, go_sem, kc2_2_0, kc2_2_1, kl2_2, kc1_2_0, kc1_2_1, kl1_2]
    · (repeat (first | with_reducible exact Rel.refl _ | with_reducible refine Rel.alloc ?_ _ | with_reducible refine Rel.setCell ?_ (by first | (simp; done) | (simp; omega)) _ | with_reducible refine Rel.drew ?_ | with_reducible refine Rel.trans ?_ H2.out | with_reducible refine Rel.trans ?_ H1.out))

set_option maxHeartbeats 1600000 in
theorem rmul_bad (a b c d : Int) (w : World) (a0 : -9223372036854775808 ≤ a) (a1 : a ≤ 9223372036854775807) (b0 : -9223372036854775808 ≤ b) (b1 : b ≤ 9223372036854775807) (c0 : -9223372036854775808 ≤ c) (c1 : c ≤ 9223372036854775807) (d0 : -9223372036854775808 ≤ d) (d1 : d ≤ 9223372036854775807) (h : addB a b c d = false) :
    Calls Try.prog 28 #[.agg #[.int .i64 a, .int .i64 b], .agg #[.int .i64 c, .int .i64 d]] w (FrRes 0 0 1 w) := by
  unfold addB at h
  unfold FrRes
  cases v1 : validB a b
  · have V1 := Lib.hid (fun w => rvalid_is v1 w a0 a1 b0 b1)
    clear v1 h
    go_enter Try.func28, Try.ntmps28
    go_wp2_with fail
    with_reducible refine (V1.out _).mono ?_
    rintro e w1 ⟨rfl, h1⟩
    have q := keep2 h1 (b := w.heap.size) (by first | (simp; done) | (simp; omega) | omega)
    have kc1_0_0 := q.1
    have kc1_0_1 := q.2.1
    have kf1_0_0 := q.2.2.1
    have kf1_0_1 := q.2.2.2.1
    have kl1_0 := q.2.2.2.2.1
    have kn1_0 := q.2.2.2.2.2.1
    have km1_0 := q.2.2.2.2.2.2
    clear q
    have q := keep2 h1 (b := w.heap.size + 1) (by first | (simp; done) | (simp; omega) | omega)
    have kc1_1_0 := q.1
    have kc1_1_1 := q.2.1
    have kf1_1_0 := q.2.2.1
    have kf1_1_1 := q.2.2.2.1
    have kl1_1 := q.2.2.2.2.1
    have kn1_1 := q.2.2.2.2.2.1
    have km1_1 := q.2.2.2.2.2.2
    clear q
    have q := keep2 h1 (b := w.heap.size + 2) (by first | (simp; done) | (simp; omega) | omega)
    have kc1_2_0 := q.1
    have kc1_2_1 := q.2.1
    have kf1_2_0 := q.2.2.1
    have kf1_2_1 := q.2.2.2.1
    have kl1_2 := q.2.2.2.2.1
    have kn1_2 := q.2.2.2.2.2.1
    have km1_2 := q.2.2.2.2.2.2
    clear q
    have kz1 := h1.size
    (try simp only [World.size_alloc, World.size_setCell, World.size_drew] at kz1)
    have H1 := Lib.hid h1
    clear h1
    go_wp2
    refine bodyPost_ret ?_ rfl ⟨rfl, ?_⟩
    · simp [results, Try.results28, go_sem, kc1_2_0, kc1_2_1, kl1_2]
    · (repeat (first | with_reducible exact Rel.refl _ | with_reducible refine Rel.alloc ?_ _ | with_reducible refine Rel.setCell ?_ (by first | (simp; done) | (simp; omega)) _ | with_reducible refine Rel.drew ?_ | with_reducible refine Rel.trans ?_ H1.out))
  · have v2 : validB c d = false := by rw [v1] at h; simpa using h
    have V1 := Lib.hid (fun w => rvalid_is v1 w a0 a1 b0 b1)
    have V2 := Lib.hid (fun w => rvalid_is v2 w c0 c1 d0 d1)
    clear v1 v2 h
    go_enter Try.func28, Try.ntmps28
    go_wp2_with fail
    with_reducible refine (V1.out _).mono ?_
    rintro e w1 ⟨rfl, h1⟩
    have q := keep2 h1 (b := w.heap.size) (by first | (simp; done) | (simp; omega) | omega)
    have kc1_0_0 := q.1
    have kc1_0_1 := q.2.1
    have kf1_0_0 := q.2.2.1
    have kf1_0_1 := q.2.2.2.1
    have kl1_0 := q.2.2.2.2.1
    have kn1_0 := q.2.2.2.2.2.1
    have km1_0 := q.2.2.2.2.2.2
    clear q
    have q := keep2 h1 (b := w.heap.size + 1) (by first | (simp; done) | (simp; omega) | omega)
    have kc1_1_0 := q.1
    have kc1_1_1 := q.2.1
    have kf1_1_0 := q.2.2.1
    have kf1_1_1 := q.2.2.2.1
    have kl1_1 := q.2.2.2.2.1
    have kn1_1 := q.2.2.2.2.2.1
    have km1_1 := q.2.2.2.2.2.2
    clear q
    have q := keep2 h1 (b := w.heap.size + 2) (by first | (simp; done) | (simp; omega) | omega)
    have kc1_2_0 := q.1
    have kc1_2_1 := q.2.1
    have kf1_2_0 := q.2.2.1
    have kf1_2_1 := q.2.2.2.1
    have kl1_2 := q.2.2.2.2.1
    have kn1_2 := q.2.2.2.2.2.1
    have km1_2 := q.2.2.2.2.2.2
    clear q
    have kz1 := h1.size
    (try simp only [World.size_alloc, World.size_setCell, World.size_drew] at kz1)
    have H1 := Lib.hid h1
    clear h1
    go_wp2_with fail
    with_reducible refine (V2.out _).mono ?_
    rintro e w2 ⟨rfl, h2⟩
    have q := keep2 h2 (b := w.heap.size) (by first | (simp; done) | (simp; omega) | omega)
    have kc2_0_0 := q.1
    have kc2_0_1 := q.2.1
    have kf2_0_0 := q.2.2.1
    have kf2_0_1 := q.2.2.2.1
    have kl2_0 := q.2.2.2.2.1
    have kn2_0 := q.2.2.2.2.2.1
    have km2_0 := q.2.2.2.2.2.2
    clear q
    have q := keep2 h2 (b := w.heap.size + 1) (by first | (simp; done) | (simp; omega) | omega)
    have kc2_1_0 := q.1
    have kc2_1_1 := q.2.1
    have kf2_1_0 := q.2.2.1
    have kf2_1_1 := q.2.2.2.1
    have kl2_1 := q.2.2.2.2.1
    have kn2_1 := q.2.2.2.2.2.1
    have km2_1 := q.2.2.2.2.2.2
    clear q
    have q := keep2 h2 (b := w.heap.size + 2) (by first | (simp; done) | (simp; omega) | omega)
    have kc2_2_0 := q.1
    have kc2_2_1 := q.2.1
    have kf2_2_0 := q.2.2.1
    have kf2_2_1 := q.2.2.2.1
    have kl2_2 := q.2.2.2.2.1
    have kn2_2 := q.2.2.2.2.2.1
    have km2_2 := q.2.2.2.2.2.2
    clear q
    have kz2 := h2.size
    (try simp only [World.size_alloc, World.size_setCell, World.size_drew] at kz2)
    have H2 := Lib.hid h2
    clear h2
    go_wp2
    refine bodyPost_ret ?_ rfl ⟨rfl, ?_⟩
    · simp [results, Try.results28, go_sem, kc2_2_0, kc2_2_1, kl2_2, kc1_2_0, kc1_2_1, kl1_2]
    · (repeat (first | with_reducible exact Rel.refl _ | with_reducible refine Rel.alloc ?_ _ | with_reducible refine Rel.setCell ?_ (by first | (simp; done) | (simp; omega)) _ | with_reducible refine Rel.drew ?_ | with_reducible refine Rel.trans ?_ H2.out | with_reducible refine Rel.trans ?_ H1.out))

set_option maxHeartbeats 1600000 in
theorem div_bad (a b c d : Int) (w : World) (a0 : -9223372036854775808 ≤ a) (a1 : a ≤ 9223372036854775807) (b0 : -9223372036854775808 ≤ b) (b1 : b ≤ 9223372036854775807) (c0 : -9223372036854775808 ≤ c) (c1 : c ≤ 9223372036854775807) (d0 : -9223372036854775808 ≤ d) (d1 : d ≤ 9223372036854775807) (h : addB a b c d = false) :
    Calls Try.prog 29 #[.agg #[.int .i64 a, .int .i64 b], .agg #[.int .i64 c, .int .i64 d]] w (FrRes 0 0 1 w) := by
  unfold addB at h
  unfold FrRes
  cases v1 : validB a b
  · have V1 := Lib.hid (fun w => valid_is v1 w a0 a1 b0 b1)
    clear v1 h
    go_enter Try.func29, Try.ntmps29
    go_wp2_with fail
    with_reducible refine (V1.out _).mono ?_
    rintro e w1 ⟨rfl, h1⟩
    have q := keep2 h1 (b := w.heap.size) (by first | (simp; done) | (simp; omega) | omega)
    have kc1_0_0 := q.1
    have kc1_0_1 := q.2.1
    have kf1_0_0 := q.2.2.1
    have kf1_0_1 := q.2.2.2.1
    have kl1_0 := q.2.2.2.2.1
    have kn1_0 := q.2.2.2.2.2.1
    have km1_0 := q.2.2.2.2.2.2
    clear q
    have q := keep2 h1 (b := w.heap.size + 1) (by first | (simp; done) | (simp; omega) | omega)
    have kc1_1_0 := q.1
    have kc1_1_1 := q.2.1
    have kf1_1_0 := q.2.2.1
    have kf1_1_1 := q.2.2.2.1
    have kl1_1 := q.2.2.2.2.1
    have kn1_1 := q.2.2.2.2.2.1
    have km1_1 := q.2.2.2.2.2.2
    clear q
    have q := keep2 h1 (b := w.heap.size + 2) (by first | (simp; done) | (simp; omega) | omega)
    have kc1_2_0 := q.1
    have kc1_2_1 := q.2.1
    have kf1_2_0 := q.2.2.1
    have kf1_2_1 := q.2.2.2.1
    have kl1_2 := q.2.2.2.2.1
    have kn1_2 := q.2.2.2.2.2.1
    have km1_2 := q.2.2.2.2.2.2
    clear q
    have kz1 := h1.size
    (try simp only [World.size_alloc, World.size_setCell, World.size_drew] at kz1)
    have H1 := Lib.hid h1
    clear h1
    go_wp2
    refine bodyPost_ret ?_ rfl ⟨rfl, ?_⟩
    · simp [results, Try.results29, go_sem, kc1_2_0, kc1_2_1, kl1_2]
    · (repeat (first | with_reducible exact Rel.refl _ | with_reducible refine Rel.alloc ?_ _ | with_reducible refine Rel.setCell ?_ (by first | (simp; done) | (simp; omega)) _ | with_reducible refine Rel.drew ?_ | with_reducible refine Rel.trans ?_ H1.out))
  · have v2 : validB c d = false := by rw [v1] at h; simpa using h
    have V1 := Lib.hid (fun w => valid_is v1 w a0 a1 b0 b1)
    have V2 := Lib.hid (fun w => valid_is v2 w c0 c1 d0 d1)
    clear v1 v2 h
    go_enter Try.func29, Try.ntmps29
    go_wp2_with fail
    with_reducible refine (V1.out _).mono ?_
    rintro e w1 ⟨rfl, h1⟩
    have q := keep2 h1 (b := w.heap.size) (by first | (simp; done) | (simp; omega) | omega)
    have kc1_0_0 := q.1
    have kc1_0_1 := q.2.1
    have kf1_0_0 := q.2.2.1
    have kf1_0_1 := q.2.2.2.1
    have kl1_0 := q.2.2.2.2.1
    have kn1_0 := q.2.2.2.2.2.1
    have km1_0 := q.2.2.2.2.2.2
    clear q
    have q := keep2 h1 (b := w.heap.size + 1) (by first | (simp; done) | (simp; omega) | omega)
    have kc1_1_0 := q.1
    have kc1_1_1 := q.2.1
    have kf1_1_0 := q.2.2.1
    have kf1_1_1 := q.2.2.2.1
    have kl1_1 := q.2.2.2.2.1
    have kn1_1 := q.2.2.2.2.2.1
    have km1_1 := q.2.2.2.2.2.2
    clear q
    have q := keep2 h1 (b := w.heap.size + 2) (by first | (simp; done) | (simp; omega) | omega)
    have kc1_2_0 := q.1
    have kc1_2_1 := q.2.1
    have kf1_2_0 := q.2.2.1
    have kf1_2_1 := q.2.2.2.1
    have kl1_2 := q.2.2.2.2.1
    have kn1_2 := q.2.2.2.2.2.1
    have km1_2 := q.2.2.2.2.2.2
    clear q
    have kz1 := h1.size
    (try simp only [World.size_alloc, World.size_setCell, World.size_drew] at kz1)
    have H1 := Lib.hid h1
    clear h1
    go_wp2_with fail
    with_reducible refine (V2.out _).mono ?_
    rintro e w2 ⟨rfl, h2⟩
    have q := keep2 h2 (b := w.heap.size) (by first | (simp; done) | (simp; omega) | omega)
    have kc2_0_0 := q.1
    have kc2_0_1 := q.2.1
    have kf2_0_0 := q.2.2.1
    have kf2_0_1 := q.2.2.2.1
    have kl2_0 := q.2.2.2.2.1
    have kn2_0 := q.2.2.2.2.2.1
    have km2_0 := q.2.2.2.2.2.2
    clear q
    have q := keep2 h2 (b := w.heap.size + 1) (by first | (simp; done) | (simp; omega) | omega)
    have kc2_1_0 := q.1
    have kc2_1_1 := q.2.1
    have kf2_1_0 := q.2.2.1
    have kf2_1_1 := q.2.2.2.1
    have kl2_1 := q.2.2.2.2.1
    have kn2_1 := q.2.2.2.2.2.1
    have km2_1 := q.2.2.2.2.2.2
    clear q
    have q := keep2 h2 (b := w.heap.size + 2) (by first | (simp; done) | (simp; omega) | omega)
    have kc2_2_0 := q.1
    have kc2_2_1 := q.2.1
    have kf2_2_0 := q.2.2.1
    have kf2_2_1 := q.2.2.2.1
    have kl2_2 := q.2.2.2.2.1
    have kn2_2 := q.2.2.2.2.2.1
    have km2_2 := q.2.2.2.2.2.2
    clear q
    have kz2 := h2.size
    (try simp only [World.size_alloc, World.size_setCell, World.size_drew] at kz2)
    have H2 := Lib.hid h2
    clear h2
    go_wp2
    refine bodyPost_ret ?_ rfl ⟨rfl, ?_⟩
    · simp [results, Try.results29, go_sem, kc2_2_0, kc2_2_1, kl2_2, kc1_2_0, kc1_2_1, kl1_2]
    · (repeat (first | with_reducible exact Rel.refl _ | with_reducible refine Rel.alloc ?_ _ | with_reducible refine Rel.setCell ?_ (by first | (simp; done) | (simp; omega)) _ | with_reducible refine Rel.drew ?_ | with_reducible refine Rel.trans ?_ H2.out | with_reducible refine Rel.trans ?_ H1.out))

set_option maxHeartbeats 1600000 in
theorem rdiv_bad (a b c d : Int) (w : World) (a0 : -9223372036854775808 ≤ a) (a1 : a ≤ 9223372036854775807) (b0 : -9223372036854775808 ≤ b) (b1 : b ≤ 9223372036854775807) (c0 : -9223372036854775808 ≤ c) (c1 : c ≤ 9223372036854775807) (d0 : -9223372036854775808 ≤ d) (d1 : d ≤ 9223372036854775807) (h : addB a b c d = false) :
    Calls Try.prog 30 #[.agg #[.int .i64 a, .int .i64 b], .agg #[.int .i64 c, .int .i64 d]] w (FrRes 0 0 1 w) := by
  unfold addB at h
  unfold FrRes
  cases v1 : validB a b
  · have V1 := Lib.hid (fun w => rvalid_is v1 w a0 a1 b0 b1)
    clear v1 h
    go_enter Try.func30, Try.ntmps30
    go_wp2_with fail
    with_reducible refine (V1.out _).mono ?_
    rintro e w1 ⟨rfl, h1⟩
    have q := keep2 h1 (b := w.heap.size) (by first | (simp; done) | (simp; omega) | omega)
    have kc1_0_0 := q.1
    have kc1_0_1 := q.2.1
    have kf1_0_0 := q.2.2.1
    have kf1_0_1 := q.2.2.2.1
    have kl1_0 := q.2.2.2.2.1
    have kn1_0 := q.2.2.2.2.2.1
    have km1_0 := q.2.2.2.2.2.2
    clear q
    have q := keep2 h1 (b := w.heap.size + 1) (by first | (simp; done) | (simp; omega) | omega)
    have kc1_1_0 := q.1
    have kc1_1_1 := q.2.1
    have kf1_1_0 := q.2.2.1
    have kf1_1_1 := q.2.2.2.1
    have kl1_1 := q.2.2.2.2.1
    have kn1_1 := q.2.2.2.2.2.1
    have km1_1 := q.2.2.2.2.2.2
    clear q
    have q := keep2 h1 (b := w.heap.size + 2) (by first | (simp; done) | (simp; omega) | omega)
    have kc1_2_0 := q.1
    have kc1_2_1 := q.2.1
    have kf1_2_0 := q.2.2.1
    have kf1_2_1 := q.2.2.2.1
    have kl1_2 := q.2.2.2.2.1
    have kn1_2 := q.2.2.2.2.2.1
    have km1_2 := q.2.2.2.2.2.2
    clear q
    have kz1 := h1.size
    (try simp only [World.size_alloc, World.size_setCell, World.size_drew] at kz1)
    have H1 := Lib.hid h1
    clear h1
    go_wp2
    refine bodyPost_ret ?_ rfl ⟨rfl, ?_⟩
    · simp [results, Try.results30, go_sem, kc1_2_0, kc1_2_1, kl1_2]
    · (repeat (first | with_reducible exact Rel.refl _ | with_reducible refine Rel.alloc ?_ _ | with_reducible refine Rel.setCell ?_ (by first | (simp; done) | (simp; omega)) _ | with_reducible refine Rel.drew ?_ | with_reducible refine Rel.trans ?_ H1.out))
  · have v2 : validB c d = false := by rw [v1] at h; simpa using h
    have V1 := Lib.hid (fun w => rvalid_is v1 w a0 a1 b0 b1)
    have V2 := Lib.hid (fun w => rvalid_is v2 w c0 c1 d0 d1)
    clear v1 v2 h
    go_enter Try.func30, Try.ntmps30
    go_wp2_with fail
    with_reducible refine (V1.out _).mono ?_
    rintro e w1 ⟨rfl, h1⟩
    have q := keep2 h1 (b := w.heap.size) (by first | (simp; done) | (simp; omega) | omega)
    have kc1_0_0 := q.1
    have kc1_0_1 := q.2.1
    have kf1_0_0 := q.2.2.1
    have kf1_0_1 := q.2.2.2.1
    have kl1_0 := q.2.2.2.2.1
    have kn1_0 := q.2.2.2.2.2.1
    have km1_0 := q.2.2.2.2.2.2
    clear q
    have q := keep2 h1 (b := w.heap.size + 1) (by first | (simp; done) | (simp; omega) | omega)
    have kc1_1_0 := q.1
    have kc1_1_1 := q.2.1
    have kf1_1_0 := q.2.2.1
    have kf1_1_1 := q.2.2.2.1
    have kl1_1 := q.2.2.2.2.1
    have kn1_1 := q.2.2.2.2.2.1
    have km1_1 := q.2.2.2.2.2.2
    clear q
    have q := keep2 h1 (b := w.heap.size + 2) (by first | (simp; done) | (simp; omega) | omega)
    have kc1_2_0 := q.1
    have kc1_2_1 := q.2.1
    have kf1_2_0 := q.2.2.1
    have kf1_2_1 := q.2.2.2.1
    have kl1_2 := q.2.2.2.2.1
    have kn1_2 := q.2.2.2.2.2.1
    have km1_2 := q.2.2.2.2.2.2
    clear q
    have kz1 := h1.size
    (try simp only [World.size_alloc, World.size_setCell, World.size_drew] at kz1)
    have H1 := Lib.hid h1
    clear h1
    go_wp2_with fail
    with_reducible refine (V2.out _).mono ?_
    rintro e w2 ⟨rfl, h2⟩
    have q := keep2 h2 (b := w.heap.size) (by first | (simp; done) | (simp; omega) | omega)
    have kc2_0_0 := q.1
    have kc2_0_1 := q.2.1
    have kf2_0_0 := q.2.2.1
    have kf2_0_1 := q.2.2.2.1
    have kl2_0 := q.2.2.2.2.1
    have kn2_0 := q.2.2.2.2.2.1
    have km2_0 := q.2.2.2.2.2.2
    clear q
    have q := keep2 h2 (b := w.heap.size + 1) (by first | (simp; done) | (simp; omega) | omega)
    have kc2_1_0 := q.1
    have kc2_1_1 := q.2.1
    have kf2_1_0 := q.2.2.1
    have kf2_1_1 := q.2.2.2.1
    have kl2_1 := q.2.2.2.2.1
    have kn2_1 := q.2.2.2.2.2.1
    have km2_1 := q.2.2.2.2.2.2
    clear q
    have q := keep2 h2 (b := w.heap.size + 2) (by first | (simp; done) | (simp; omega) | omega)
    have kc2_2_0 := q.1
    have kc2_2_1 := q.2.1
    have kf2_2_0 := q.2.2.1
    have kf2_2_1 := q.2.2.2.1
    have kl2_2 := q.2.2.2.2.1
    have kn2_2 := q.2.2.2.2.2.1
    have km2_2 := q.2.2.2.2.2.2
    clear q
    have kz2 := h2.size
    (try simp only [World.size_alloc, World.size_setCell, World.size_drew] at kz2)
    have H2 := Lib.hid h2
    clear h2
    go_wp2
    refine bodyPost_ret ?_ rfl ⟨rfl, ?_⟩
    · simp [results, Try.results30, go_sem, kc2_2_0, kc2_2_1, kl2_2, kc1_2_0, kc1_2_1, kl1_2]
    · (repeat (first | with_reducible exact Rel.refl _ | with_reducible refine Rel.alloc ?_ _ | with_reducible refine Rel.setCell ?_ (by first | (simp; done) | (simp; omega)) _ | with_reducible refine Rel.drew ?_ | with_reducible refine Rel.trans ?_ H2.out | with_reducible refine Rel.trans ?_ H1.out))

set_option maxHeartbeats 1600000 in
theorem div_zero (a b d : Int) (w : World)
    (V1 : Hid (∀ w, Calls Try.prog 18 #[.agg #[.int .i64 a, .int .i64 b]] w fun e w' => e = .returned (.bool true) ∧ Rel w w'))
    (V2 : Hid (∀ w, Calls Try.prog 18 #[.agg #[.int .i64 0, .int .i64 d]] w fun e w' => e = .returned (.bool true) ∧ Rel w w')) :
    Calls Try.prog 29 #[.agg #[.int .i64 a, .int .i64 b], .agg #[.int .i64 0, .int .i64 d]] w (FrRes 0 0 3 w) := by
  unfold FrRes
  go_enter Try.func29, Try.ntmps29
  go_wp2_with fail
  with_reducible refine (V1.out _).mono ?_
  rintro e w1 ⟨rfl, h1⟩
  have q := keep2 h1 (b := w.heap.size) (by first | (simp; done) | (simp; omega) | omega)
  have kc1_0_0 := q.1
  have kc1_0_1 := q.2.1
  have kf1_0_0 := q.2.2.1
  have kf1_0_1 := q.2.2.2.1
  have kl1_0 := q.2.2.2.2.1
  have kn1_0 := q.2.2.2.2.2.1
  have km1_0 := q.2.2.2.2.2.2
  clear q
  have q := keep2 h1 (b := w.heap.size + 1) (by first | (simp; done) | (simp; omega) | omega)
  have kc1_1_0 := q.1
  have kc1_1_1 := q.2.1
  have kf1_1_0 := q.2.2.1
  have kf1_1_1 := q.2.2.2.1
  have kl1_1 := q.2.2.2.2.1
  have kn1_1 := q.2.2.2.2.2.1
  have km1_1 := q.2.2.2.2.2.2
  clear q
  have q := keep2 h1 (b := w.heap.size + 2) (by first | (simp; done) | (simp; omega) | omega)
  have kc1_2_0 := q.1
  have kc1_2_1 := q.2.1
  have kf1_2_0 := q.2.2.1
  have kf1_2_1 := q.2.2.2.1
  have kl1_2 := q.2.2.2.2.1
  have kn1_2 := q.2.2.2.2.2.1
  have km1_2 := q.2.2.2.2.2.2
  clear q
  have kz1 := h1.size
  (try simp only [World.size_alloc, World.size_setCell, World.size_drew] at kz1)
  have H1 := Lib.hid h1
  clear h1
  go_wp2_with fail
  with_reducible refine (V2.out _).mono ?_
  rintro e w2 ⟨rfl, h2⟩
  have q := keep2 h2 (b := w.heap.size) (by first | (simp; done) | (simp; omega) | omega)
  have kc2_0_0 := q.1
  have kc2_0_1 := q.2.1
  have kf2_0_0 := q.2.2.1
  have kf2_0_1 := q.2.2.2.1
  have kl2_0 := q.2.2.2.2.1
  have kn2_0 := q.2.2.2.2.2.1
  have km2_0 := q.2.2.2.2.2.2
  clear q
  have q := keep2 h2 (b := w.heap.size + 1) (by first | (simp; done) | (simp; omega) | omega)
  have kc2_1_0 := q.1
  have kc2_1_1 := q.2.1
  have kf2_1_0 := q.2.2.1
  have kf2_1_1 := q.2.2.2.1
  have kl2_1 := q.2.2.2.2.1
  have kn2_1 := q.2.2.2.2.2.1
  have km2_1 := q.2.2.2.2.2.2
  clear q
  have q := keep2 h2 (b := w.heap.size + 2) (by first | (simp; done) | (simp; omega) | omega)
  have kc2_2_0 := q.1
  have kc2_2_1 := q.2.1
  have kf2_2_0 := q.2.2.1
  have kf2_2_1 := q.2.2.2.1
  have kl2_2 := q.2.2.2.2.1
  have kn2_2 := q.2.2.2.2.2.1
  have km2_2 := q.2.2.2.2.2.2
  clear q
  have kz2 := h2.size
  (try simp only [World.size_alloc, World.size_setCell, World.size_drew] at kz2)
  have H2 := Lib.hid h2
  clear h2
  go_wp2
  refine bodyPost_ret ?_ rfl ⟨rfl, ?_⟩
  · simp [results, Try.results29, go_sem, kc2_2_0, kc2_2_1, kl2_2, kc1_2_0, kc1_2_1, kl1_2]
  · (repeat (first | with_reducible exact Rel.refl _ | with_reducible refine Rel.alloc ?_ _ | with_reducible refine Rel.setCell ?_ (by first | (simp; done) | (simp; omega)) _ | with_reducible refine Rel.drew ?_ | with_reducible refine Rel.trans ?_ H2.out | with_reducible refine Rel.trans ?_ H1.out))

set_option maxHeartbeats 1600000 in
theorem rdiv_zero (a b d : Int) (w : World)
    (V1 : Hid (∀ w, Calls Try.prog 19 #[.agg #[.int .i64 a, .int .i64 b]] w fun e w' => e = .returned (.bool true) ∧ Rel w w'))
    (V2 : Hid (∀ w, Calls Try.prog 19 #[.agg #[.int .i64 0, .int .i64 d]] w fun e w' => e = .returned (.bool true) ∧ Rel w w')) :
    Calls Try.prog 30 #[.agg #[.int .i64 a, .int .i64 b], .agg #[.int .i64 0, .int .i64 d]] w (FrRes 0 0 3 w) := by
  unfold FrRes
  go_enter Try.func30, Try.ntmps30
  go_wp2_with fail
  with_reducible refine (V1.out _).mono ?_
  rintro e w1 ⟨rfl, h1⟩
  have q := keep2 h1 (b := w.heap.size) (by first | (simp; done) | (simp; omega) | omega)
  have kc1_0_0 := q.1
  have kc1_0_1 := q.2.1
  have kf1_0_0 := q.2.2.1
  have kf1_0_1 := q.2.2.2.1
  have kl1_0 := q.2.2.2.2.1
  have kn1_0 := q.2.2.2.2.2.1
  have km1_0 := q.2.2.2.2.2.2
  clear q
  have q := keep2 h1 (b := w.heap.size + 1) (by first | (simp; done) | (simp; omega) | omega)
  have kc1_1_0 := q.1
  have kc1_1_1 := q.2.1
  have kf1_1_0 := q.2.2.1
  have kf1_1_1 := q.2.2.2.1
  have kl1_1 := q.2.2.2.2.1
  have kn1_1 := q.2.2.2.2.2.1
  have km1_1 := q.2.2.2.2.2.2
  clear q
  have q := keep2 h1 (b := w.heap.size + 2) (by first | (simp; done) | (simp; omega) | omega)
  have kc1_2_0 := q.1
  have kc1_2_1 := q.2.1
  have kf1_2_0 := q.2.2.1
  have kf1_2_1 := q.2.2.2.1
  have kl1_2 := q.2.2.2.2.1
  have kn1_2 := q.2.2.2.2.2.1
  have km1_2 := q.2.2.2.2.2.2
  clear q
  have kz1 := h1.size
  (try simp only [World.size_alloc, World.size_setCell, World.size_drew] at kz1)
  have H1 := Lib.hid h1
  clear h1
  go_wp2_with fail
  with_reducible refine (V2.out _).mono ?_
  rintro e w2 ⟨rfl, h2⟩
  have q := keep2 h2 (b := w.heap.size) (by first | (simp; done) | (simp; omega) | omega)
  have kc2_0_0 := q.1
  have kc2_0_1 := q.2.1
  have kf2_0_0 := q.2.2.1
  have kf2_0_1 := q.2.2.2.1
  have kl2_0 := q.2.2.2.2.1
  have kn2_0 := q.2.2.2.2.2.1
  have km2_0 := q.2.2.2.2.2.2
  clear q
  have q := keep2 h2 (b := w.heap.size + 1) (by first | (simp; done) | (simp; omega) | omega)
  have kc2_1_0 := q.1
  have kc2_1_1 := q.2.1
  have kf2_1_0 := q.2.2.1
  have kf2_1_1 := q.2.2.2.1
  have kl2_1 := q.2.2.2.2.1
  have kn2_1 := q.2.2.2.2.2.1
  have km2_1 := q.2.2.2.2.2.2
  clear q
  have q := keep2 h2 (b := w.heap.size + 2) (by first | (simp; done) | (simp; omega) | omega)
  have kc2_2_0 := q.1
  have kc2_2_1 := q.2.1
  have kf2_2_0 := q.2.2.1
  have kf2_2_1 := q.2.2.2.1
  have kl2_2 := q.2.2.2.2.1
  have kn2_2 := q.2.2.2.2.2.1
  have km2_2 := q.2.2.2.2.2.2
  clear q
  have kz2 := h2.size
  (try simp only [World.size_alloc, World.size_setCell, World.size_drew] at kz2)
  have H2 := Lib.hid h2
  clear h2
  go_wp2
  refine bodyPost_ret ?_ rfl ⟨rfl, ?_⟩
  · simp [results, Try.results30, go_sem, kc2_2_0, kc2_2_1, kl2_2, kc1_2_0, kc1_2_1, kl1_2]
  · (repeat (first | with_reducible exact Rel.refl _ | with_reducible refine Rel.alloc ?_ _ | with_reducible refine Rel.setCell ?_ (by first | (simp; done) | (simp; omega)) _ | with_reducible refine Rel.drew ?_ | with_reducible refine Rel.trans ?_ H2.out | with_reducible refine Rel.trans ?_ H1.out))

theorem valid_nat {n d : Int} (h : validB n d = true) : -1000000000000000 ≤ n ∧ n ≤ 1000000000000000 ∧ 1 ≤ d ∧ d ≤ 1000000000 ∧ d = (d.natAbs : Int) ∧ 0 < d.natAbs ∧ Nat.gcd n.natAbs d.natAbs = 1 := by
  have := (validB_iff n d).1 h
  exact ⟨by omega, by omega, by omega, by omega, by omega, by omega, this.2⟩

theorem mul_any (a b c d : Int) (w : World) (a0 : -9223372036854775808 ≤ a) (a1 : a ≤ 9223372036854775807) (b0 : -9223372036854775808 ≤ b) (b1 : b ≤ 9223372036854775807) (c0 : -9223372036854775808 ≤ c) (c1 : c ≤ 9223372036854775807) (d0 : -9223372036854775808 ≤ d) (d1 : d ≤ 9223372036854775807) :
    Calls Try.prog 27 #[.agg #[.int .i64 a, .int .i64 b], .agg #[.int .i64 c, .int .i64 d]] w (FrRes (mulN a b c d) (mulD a b c d) (mulE a b c d) w) := by
  unfold mulN mulD mulE
  cases hB : addB a b c d
  · simp only [Bool.false_eq_true, if_false]
    exact mul_bad a b c d w a0 a1 b0 b1 c0 c1 d0 d1 hB
  · simp only [if_true]
    obtain ⟨v1, v2⟩ := (addB_iff a b c d).1 hB
    obtain ⟨x1, x2, x3, x4, x5, x6, x7⟩ := valid_nat v1
    obtain ⟨y1, y2, y3, y4, y5, y6, y7⟩ := valid_nat v2
    have hh : ∃ s : Bool, (a < 0 ∧ 0 < c ∧ s = true) ∨ (a < 0 ∧ c ≤ 0 ∧ s = false) ∨ (a = 0 ∧ s = false) ∨ (0 < a ∧ c < 0 ∧ s = true) ∨ (0 < a ∧ 0 ≤ c ∧ s = false) := by
      rcases Int.lt_trichotomy a 0 with h | h | h
      · by_cases k : 0 < c
        · exact ⟨true, .inl ⟨h, k, rfl⟩⟩
        · exact ⟨false, .inr (.inl ⟨h, by omega, rfl⟩)⟩
      · exact ⟨false, .inr (.inr (.inl ⟨h, rfl⟩))⟩
      · by_cases k : c < 0
        · exact ⟨true, .inr (.inr (.inr (.inl ⟨h, k, rfl⟩)))⟩
        · exact ⟨false, .inr (.inr (.inr (.inr ⟨h, by omega, rfl⟩)))⟩
    obtain ⟨s, hs⟩ := hh
    have hsg : a * c = if s = true then -((a.natAbs * c.natAbs : Nat) : Int) else ((a.natAbs * c.natAbs : Nat) : Int) := by
      refine sign_mul s ?_
      by_cases k : c = 0
      · right; right; right; right; rw [k, Int.mul_zero]
      · rcases hs with h | h | h | h | h
        · exact .inr (.inl ⟨h.1, by omega, h.2.2⟩)
        · exact .inl ⟨h.1, by omega, h.2.2⟩
        · right; right; right; right; rw [h.1, Int.zero_mul]
        · exact .inr (.inr (.inl ⟨by omega, h.2.1, h.2.2⟩))
        · exact .inr (.inr (.inr (.inl ⟨by omega, h.2.1, h.2.2⟩)))
    obtain ⟨r1, r2, r3⟩ := cross_w (neg := s) (e := b * d) x6 y6 x7 y7 hsg (by rw [Int.natCast_mul, ← x5, ← y5])
    rw [← r1, ← r2, ← r3]
    exact mul_core a b c d s _ _ _ _ _ _ _ w hs (Lib.hid fun w => valid_is v1 w a0 a1 b0 b1) (Lib.hid fun w => valid_is v2 w c0 c1 d0 d1) (Lib.hid fun w => size_any a w a0 a1) (Lib.hid fun w => size_any b w b0 b1)
      (Lib.hid fun w => size_any c w c0 c1) (Lib.hid fun w => size_any d w d0 d1) (Lib.hid fun w => quotient_any s _ _ _ _ w (by omega) (by omega) (by omega) (by omega) x6 y6)

theorem rmul_any (a b c d : Int) (w : World) (a0 : -9223372036854775808 ≤ a) (a1 : a ≤ 9223372036854775807) (b0 : -9223372036854775808 ≤ b) (b1 : b ≤ 9223372036854775807) (c0 : -9223372036854775808 ≤ c) (c1 : c ≤ 9223372036854775807) (d0 : -9223372036854775808 ≤ d) (d1 : d ≤ 9223372036854775807) :
    Calls Try.prog 28 #[.agg #[.int .i64 a, .int .i64 b], .agg #[.int .i64 c, .int .i64 d]] w (FrRes (mulN a b c d) (mulD a b c d) (mulE a b c d) w) := by
  unfold mulN mulD mulE
  cases hB : addB a b c d
  · simp only [Bool.false_eq_true, if_false]
    exact rmul_bad a b c d w a0 a1 b0 b1 c0 c1 d0 d1 hB
  · simp only [if_true]
    obtain ⟨v1, v2⟩ := (addB_iff a b c d).1 hB
    obtain ⟨x1, x2, x3, x4, x5, x6, x7⟩ := valid_nat v1
    obtain ⟨y1, y2, y3, y4, y5, y6, y7⟩ := valid_nat v2
    have hh : ∃ s : Bool, (a < 0 ∧ c < 0 ∧ s = false) ∨ (a < 0 ∧ 0 ≤ c ∧ s = true) ∨ (0 ≤ a ∧ c < 0 ∧ s = true) ∨ (0 ≤ a ∧ 0 ≤ c ∧ s = false) := by
      by_cases h : a < 0 <;> by_cases k : c < 0
      · exact ⟨false, .inl ⟨h, k, rfl⟩⟩
      · exact ⟨true, .inr (.inl ⟨h, by omega, rfl⟩)⟩
      · exact ⟨true, .inr (.inr (.inl ⟨by omega, k, rfl⟩))⟩
      · exact ⟨false, .inr (.inr (.inr ⟨by omega, by omega, rfl⟩))⟩
    obtain ⟨s, hs⟩ := hh
    have hsg : a * c = if s = true then -((a.natAbs * c.natAbs : Nat) : Int) else ((a.natAbs * c.natAbs : Nat) : Int) := by
      refine sign_mul s ?_
      rcases hs with h | h | h | h
      · exact .inl h
      · exact .inr (.inl h)
      · exact .inr (.inr (.inl h))
      · exact .inr (.inr (.inr (.inl h)))
    obtain ⟨r1, r2, r3⟩ := cross_w (neg := s) (e := b * d) x6 y6 x7 y7 hsg (by rw [Int.natCast_mul, ← x5, ← y5])
    rw [← r1, ← r2, ← r3]
    have V1 := fun w => rvalid_is v1 w a0 a1 b0 b1
    have V2 := fun w => rvalid_is v2 w c0 c1 d0 d1
    have := rmul_core a c s a.natAbs b.natAbs c.natAbs d.natAbs _ _ _ w (by omega) (by omega) hs (Lib.hid (by rw [← x5]; exact V1)) (Lib.hid (by rw [← y5]; exact V2)) (Lib.hid fun w => rsize_any a w a0 a1)
      (Lib.hid fun w => rsize_any c w c0 c1) (Lib.hid fun w => product_any s _ _ _ _ w (by omega) (by omega) (by omega) (by omega) x6 y6)
    rw [← x5, ← y5] at this
    exact this

theorem div_sign {a c d : Int} {s : Bool} (hc : c ≠ 0) (hd : 0 < d) (hsg : a * c = if s = true then -((a.natAbs * c.natAbs : Nat) : Int) else ((a.natAbs * c.natAbs : Nat) : Int)) :
    dvS a c d = if s = true then -((a.natAbs * d.natAbs : Nat) : Int) else ((a.natAbs * d.natAbs : Nat) : Int) := by
  unfold dvS
  have e : (d.natAbs : Int) = d := by omega
  rw [Int.natCast_mul, e]
  have hnn : (0 : Int) ≤ (a.natAbs : Int) * (c.natAbs : Int) := Int.mul_nonneg (by omega) (by omega)
  rw [Int.natCast_mul] at hsg
  by_cases ha : a = 0
  · subst ha; simp
  · by_cases h1 : a < 0 <;> by_cases h2 : c < 0
    · have := Int.mul_pos_of_neg_of_neg h1 h2
      cases s
      · simp only [h2, if_true, Bool.false_eq_true, if_false]; rw [show ((a.natAbs : Nat) : Int) = -a by omega, Int.neg_mul]
      · simp only [Bool.false_eq_true, if_false, if_true] at hsg; omega
    · have := Int.mul_neg_of_neg_of_pos h1 (show 0 < c by omega)
      cases s
      · simp only [Bool.false_eq_true, if_false, if_true] at hsg; omega
      · simp only [h2, if_false, if_true]; rw [show ((a.natAbs : Nat) : Int) = -a by omega, Int.neg_mul]; omega
    · have := Int.mul_neg_of_pos_of_neg (show 0 < a by omega) h2
      cases s
      · simp only [Bool.false_eq_true, if_false, if_true] at hsg; omega
      · simp only [h2, if_true]; rw [show ((a.natAbs : Nat) : Int) = a by omega]
    · have := Int.mul_pos (show 0 < a by omega) (show 0 < c by omega)
      cases s
      · simp only [h2, if_false, Bool.false_eq_true]; rw [show ((a.natAbs : Nat) : Int) = a by omega]
      · simp only [Bool.false_eq_true, if_false, if_true] at hsg; omega

theorem div_any (a b c d : Int) (w : World) (a0 : -9223372036854775808 ≤ a) (a1 : a ≤ 9223372036854775807) (b0 : -9223372036854775808 ≤ b) (b1 : b ≤ 9223372036854775807) (c0 : -9223372036854775808 ≤ c) (c1 : c ≤ 9223372036854775807) (d0 : -9223372036854775808 ≤ d) (d1 : d ≤ 9223372036854775807) :
    Calls Try.prog 29 #[.agg #[.int .i64 a, .int .i64 b], .agg #[.int .i64 c, .int .i64 d]] w (FrRes (divN a b c d) (divD a b c d) (divE a b c d) w) := by
  unfold divN divD divE
  cases hB : addB a b c d
  · simp only [Bool.false_eq_true, if_false]
    exact div_bad a b c d w a0 a1 b0 b1 c0 c1 d0 d1 hB
  · simp only [if_true]
    obtain ⟨v1, v2⟩ := (addB_iff a b c d).1 hB
    obtain ⟨x1, x2, x3, x4, x5, x6, x7⟩ := valid_nat v1
    obtain ⟨y1, y2, y3, y4, y5, y6, y7⟩ := valid_nat v2
    by_cases hc : c = 0
    · subst hc
      simp only [if_true]
      exact div_zero a b d w (Lib.hid fun w => valid_is v1 w a0 a1 b0 b1) (Lib.hid fun w => valid_is v2 w c0 c1 d0 d1)
    · simp only [hc, if_false]
      have hh : ∃ s : Bool, (a < 0 ∧ 0 < c ∧ s = true) ∨ (a < 0 ∧ c ≤ 0 ∧ s = false) ∨ (a = 0 ∧ s = false) ∨ (0 < a ∧ c < 0 ∧ s = true) ∨ (0 < a ∧ 0 ≤ c ∧ s = false) := by
        rcases Int.lt_trichotomy a 0 with h | h | h
        · by_cases k : 0 < c
          · exact ⟨true, .inl ⟨h, k, rfl⟩⟩
          · exact ⟨false, .inr (.inl ⟨h, by omega, rfl⟩)⟩
        · exact ⟨false, .inr (.inr (.inl ⟨h, rfl⟩))⟩
        · by_cases k : c < 0
          · exact ⟨true, .inr (.inr (.inr (.inl ⟨h, k, rfl⟩)))⟩
          · exact ⟨false, .inr (.inr (.inr (.inr ⟨h, by omega, rfl⟩)))⟩
      obtain ⟨s, hs⟩ := hh
      have hsg : a * c = if s = true then -((a.natAbs * c.natAbs : Nat) : Int) else ((a.natAbs * c.natAbs : Nat) : Int) := by
        refine sign_mul s ?_
        rcases hs with h | h | h | h | h
        · exact .inr (.inl ⟨h.1, by omega, h.2.2⟩)
        · exact .inl ⟨h.1, by omega, h.2.2⟩
        · right; right; right; right; rw [h.1, Int.zero_mul]
        · exact .inr (.inr (.inl ⟨by omega, h.2.1, h.2.2⟩))
        · exact .inr (.inr (.inr (.inl ⟨by omega, h.2.1, h.2.2⟩)))
      have hsd := div_sign hc (show 0 < d by omega) hsg
      have z6 : 0 < c.natAbs := by omega
      obtain ⟨r1, r2, r3⟩ := cross_w (neg := s) (e := dvD b c) (c := d.natAbs) (d := c.natAbs) x6 z6 x7 (by rw [Nat.gcd_comm]; exact y7) hsd (by unfold dvD; rw [Int.natCast_mul, ← x5])
      rw [← r1, ← r2, ← r3]
      exact div_core a b c d s a.natAbs b.natAbs c.natAbs d.natAbs _ _ _ w hc hs (Lib.hid fun w => valid_is v1 w a0 a1 b0 b1) (Lib.hid fun w => valid_is v2 w c0 c1 d0 d1) (Lib.hid fun w => size_any a w a0 a1) (Lib.hid fun w => size_any b w b0 b1)
        (Lib.hid fun w => size_any c w c0 c1) (Lib.hid fun w => size_any d w d0 d1) (Lib.hid fun w => quotient_any s _ _ _ _ w (by omega) (by omega) (by omega) (by omega) x6 z6)

theorem rdiv_any (a b c d : Int) (w : World) (a0 : -9223372036854775808 ≤ a) (a1 : a ≤ 9223372036854775807) (b0 : -9223372036854775808 ≤ b) (b1 : b ≤ 9223372036854775807) (c0 : -9223372036854775808 ≤ c) (c1 : c ≤ 9223372036854775807) (d0 : -9223372036854775808 ≤ d) (d1 : d ≤ 9223372036854775807) :
    Calls Try.prog 30 #[.agg #[.int .i64 a, .int .i64 b], .agg #[.int .i64 c, .int .i64 d]] w (FrRes (divN a b c d) (divD a b c d) (divE a b c d) w) := by
  unfold divN divD divE
  cases hB : addB a b c d
  · simp only [Bool.false_eq_true, if_false]
    exact rdiv_bad a b c d w a0 a1 b0 b1 c0 c1 d0 d1 hB
  · simp only [if_true]
    obtain ⟨v1, v2⟩ := (addB_iff a b c d).1 hB
    obtain ⟨x1, x2, x3, x4, x5, x6, x7⟩ := valid_nat v1
    obtain ⟨y1, y2, y3, y4, y5, y6, y7⟩ := valid_nat v2
    have V1 := fun w => rvalid_is v1 w a0 a1 b0 b1
    have V2 := fun w => rvalid_is v2 w c0 c1 d0 d1
    by_cases hc : c = 0
    · subst hc
      simp only [if_true]
      exact rdiv_zero a b d w (Lib.hid V1) (Lib.hid V2)
    · simp only [hc, if_false]
      have hh : ∃ s : Bool, (a < 0 ∧ c < 0 ∧ s = false) ∨ (a < 0 ∧ 0 ≤ c ∧ s = true) ∨ (0 ≤ a ∧ c < 0 ∧ s = true) ∨ (0 ≤ a ∧ 0 ≤ c ∧ s = false) := by
        by_cases h : a < 0 <;> by_cases k : c < 0
        · exact ⟨false, .inl ⟨h, k, rfl⟩⟩
        · exact ⟨true, .inr (.inl ⟨h, by omega, rfl⟩)⟩
        · exact ⟨true, .inr (.inr (.inl ⟨by omega, k, rfl⟩))⟩
        · exact ⟨false, .inr (.inr (.inr ⟨by omega, by omega, rfl⟩))⟩
      obtain ⟨s, hs⟩ := hh
      have hsg : a * c = if s = true then -((a.natAbs * c.natAbs : Nat) : Int) else ((a.natAbs * c.natAbs : Nat) : Int) := by
        refine sign_mul s ?_
        rcases hs with h | h | h | h
        · exact .inl h
        · exact .inr (.inl h)
        · exact .inr (.inr (.inl h))
        · exact .inr (.inr (.inr (.inl h)))
      have hsd := div_sign hc (show 0 < d by omega) hsg
      have z6 : 0 < c.natAbs := by omega
      obtain ⟨r1, r2, r3⟩ := cross_w (neg := s) (e := dvD b c) (c := d.natAbs) (d := c.natAbs) x6 z6 x7 (by rw [Nat.gcd_comm]; exact y7) hsd (by unfold dvD; rw [Int.natCast_mul, ← x5])
      rw [← r1, ← r2, ← r3]
      have := rdiv_core a c s a.natAbs b.natAbs c.natAbs d.natAbs _ _ _ w hc (by omega) (by omega) hs (Lib.hid (by rw [← x5]; exact V1)) (Lib.hid (by rw [← y5]; exact V2)) (Lib.hid fun w => rsize_any a w a0 a1)
        (Lib.hid fun w => rsize_any c w c0 c1) (Lib.hid fun w => product_any s _ _ _ _ w (by omega) (by omega) (by omega) (by omega) x6 z6)
      rw [← x5, ← y5] at this
      exact this

end Go.Proofs.Ytdhfecaoadnogaa

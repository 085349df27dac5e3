/- Contracts of Neg, Floor, Ceil on both sides, and awake. No conditions but those printed. -/
import Derived.Test.YtdhfecaoadnogaaRatJ
namespace Go.Proofs.Ytdhfecaoadnogaa
open Go.RowKit Frac

attribute [local go_sem] calmUpon
set_option linter.unusedSimpArgs false
set_option linter.unusedVariables false

theorem valid_is {n d : Int} {b : Bool} (h : validB n d = b) (w : World) (n0 : -9223372036854775808 ≤ n) (n1 : n ≤ 9223372036854775807) (d0 : -9223372036854775808 ≤ d) (d1 : d ≤ 9223372036854775807) :
    Calls Try.prog 18 #[.agg #[.int .i64 n, .int .i64 d]] w fun e w' => e = .returned (.bool b) ∧ Rel w w' := by
  have := valid_any n d w n0 n1 d0 d1
  rw [h] at this; exact this
theorem rvalid_is {n d : Int} {b : Bool} (h : validB n d = b) (w : World) (n0 : -9223372036854775808 ≤ n) (n1 : n ≤ 9223372036854775807) (d0 : -9223372036854775808 ≤ d) (d1 : d ≤ 9223372036854775807) :
    Calls Try.prog 19 #[.agg #[.int .i64 n, .int .i64 d]] w fun e w' => e = .returned (.bool b) ∧ Rel w w' := by
  have := rvalid_any n d w n0 n1 d0 d1
  rw [h] at this; exact this

set_option maxHeartbeats 1600000 in
theorem neg_any (n d : Int) (w : World) (n0 : -9223372036854775808 ≤ n) (n1 : n ≤ 9223372036854775807) (d0 : -9223372036854775808 ≤ d) (d1 : d ≤ 9223372036854775807) :
    Calls Try.prog 21 #[.agg #[.int .i64 n, .int .i64 d]] w (FrRes (negN n d) (negD n d) (negE n d) w) := by
  unfold negN negD negE FrRes
  cases hv : validB n d
  · have V := Lib.hid (fun w => valid_is hv w n0 n1 d0 d1)
    clear hv
    rw [if_neg (by simp), if_neg (by simp), if_neg (by simp)]
    go_enter Try.func21, Try.ntmps21
    go_wp2_with fail
    with_reducible refine (V.out _).mono ?_
    rintro e w1 ⟨rfl, h1⟩
    have q := keep2 h1 (b := w.heap.size) (by first | (simp; done) | (simp; omega) | omega)
    have kc1_0_0 := q.1
    have kc1_0_1 := q.2.1
    have kf1_0_0 := q.2.2.1
    have kf1_0_1 := q.2.2.2.1
    have kl1_0 := q.2.2.2.2.1
    have kn1_0 := q.2.2.2.2.2.1
    have km1_0 := q.2.2.2.2.2.2
    clear q
    have q := keep2 h1 (b := w.heap.size + 1) (by first | (simp; done) | (simp; omega) | omega)
    have kc1_1_0 := q.1
    have kc1_1_1 := q.2.1
    have kf1_1_0 := q.2.2.1
    have kf1_1_1 := q.2.2.2.1
    have kl1_1 := q.2.2.2.2.1
    have kn1_1 := q.2.2.2.2.2.1
    have km1_1 := q.2.2.2.2.2.2
    clear q
    have kz1 := h1.size
    (try simp only [World.size_alloc, World.size_setCell, World.size_drew] at kz1)
    have H1 := Lib.hid h1
    clear h1
    go_wp2
    refine bodyPost_ret ?_ rfl ⟨rfl, ?_⟩
    · simp [results, Try.results21, go_sem, kc1_1_0, kc1_1_1, kl1_1]
    · (repeat (first | with_reducible exact Rel.refl _ | with_reducible refine Rel.alloc ?_ _ | with_reducible refine Rel.setCell ?_ (by first | (simp; done) | (simp; omega)) _ | with_reducible refine Rel.drew ?_ | with_reducible refine Rel.trans ?_ H1.out))
  · have V := Lib.hid (fun w => valid_is hv w n0 n1 d0 d1)
    have hb := (validB_iff n d).1 hv
    have b1 := hb.1.1; have b2 := hb.1.2.1; have b3 := hb.1.2.2.1; have b4 := hb.1.2.2.2
    clear hv hb
    rw [if_pos rfl, if_pos rfl, if_pos rfl]
    go_enter Try.func21, Try.ntmps21
    go_wp2_with fail
    with_reducible refine (V.out _).mono ?_
    rintro e w1 ⟨rfl, h1⟩
    have q := keep2 h1 (b := w.heap.size) (by first | (simp; done) | (simp; omega) | omega)
    have kc1_0_0 := q.1
    have kc1_0_1 := q.2.1
    have kf1_0_0 := q.2.2.1
    have kf1_0_1 := q.2.2.2.1
    have kl1_0 := q.2.2.2.2.1
    have kn1_0 := q.2.2.2.2.2.1
    have km1_0 := q.2.2.2.2.2.2
    clear q
    have q := keep2 h1 (b := w.heap.size + 1) (by first | (simp; done) | (simp; omega) | omega)
    have kc1_1_0 := q.1
    have kc1_1_1 := q.2.1
    have kf1_1_0 := q.2.2.1
    have kf1_1_1 := q.2.2.2.1
    have kl1_1 := q.2.2.2.2.1
    have kn1_1 := q.2.2.2.2.2.1
    have km1_1 := q.2.2.2.2.2.2
    clear q
    have kz1 := h1.size
    (try simp only [World.size_alloc, World.size_setCell, World.size_drew] at kz1)
    have H1 := Lib.hid h1
    clear h1
    go_wp2
    refine bodyPost_ret ?_ rfl ⟨rfl, ?_⟩
    · simp [results, Try.results21, go_sem, kc1_1_0, kc1_1_1, kl1_1]
    · (repeat (first | with_reducible exact Rel.refl _ | with_reducible refine Rel.alloc ?_ _ | with_reducible refine Rel.setCell ?_ (by first | (simp; done) | (simp; omega)) _ | with_reducible refine Rel.drew ?_ | with_reducible refine Rel.trans ?_ H1.out))

set_option maxHeartbeats 1600000 in
theorem rneg_any (n d : Int) (w : World) (n0 : -9223372036854775808 ≤ n) (n1 : n ≤ 9223372036854775807) (d0 : -9223372036854775808 ≤ d) (d1 : d ≤ 9223372036854775807) :
    Calls Try.prog 22 #[.agg #[.int .i64 n, .int .i64 d]] w (FrRes (negN n d) (negD n d) (negE n d) w) := by
  unfold negN negD negE FrRes
  cases hv : validB n d
  · have V := Lib.hid (fun w => rvalid_is hv w n0 n1 d0 d1)
    clear hv
    rw [if_neg (by simp), if_neg (by simp), if_neg (by simp)]
    go_enter Try.func22, Try.ntmps22
    go_wp2_with fail
    with_reducible refine (V.out _).mono ?_
    rintro e w1 ⟨rfl, h1⟩
    have q := keep2 h1 (b := w.heap.size) (by first | (simp; done) | (simp; omega) | omega)
    have kc1_0_0 := q.1
    have kc1_0_1 := q.2.1
    have kf1_0_0 := q.2.2.1
    have kf1_0_1 := q.2.2.2.1
    have kl1_0 := q.2.2.2.2.1
    have kn1_0 := q.2.2.2.2.2.1
    have km1_0 := q.2.2.2.2.2.2
    clear q
    have q := keep2 h1 (b := w.heap.size + 1) (by first | (simp; done) | (simp; omega) | omega)
    have kc1_1_0 := q.1
    have kc1_1_1 := q.2.1
    have kf1_1_0 := q.2.2.1
    have kf1_1_1 := q.2.2.2.1
    have kl1_1 := q.2.2.2.2.1
    have kn1_1 := q.2.2.2.2.2.1
    have km1_1 := q.2.2.2.2.2.2
    clear q
    have kz1 := h1.size
    (try simp only [World.size_alloc, World.size_setCell, World.size_drew] at kz1)
    have H1 := Lib.hid h1
    clear h1
    go_wp2
    refine bodyPost_ret ?_ rfl ⟨rfl, ?_⟩
    · simp [results, Try.results22, go_sem, kc1_1_0, kc1_1_1, kl1_1]
    · (repeat (first | with_reducible exact Rel.refl _ | with_reducible refine Rel.alloc ?_ _ | with_reducible refine Rel.setCell ?_ (by first | (simp; done) | (simp; omega)) _ | with_reducible refine Rel.drew ?_ | with_reducible refine Rel.trans ?_ H1.out))
  · have V := Lib.hid (fun w => rvalid_is hv w n0 n1 d0 d1)
    have hb := (validB_iff n d).1 hv
    have b1 := hb.1.1; have b2 := hb.1.2.1; have b3 := hb.1.2.2.1; have b4 := hb.1.2.2.2
    clear hv hb
    rw [if_pos rfl, if_pos rfl, if_pos rfl]
    go_enter Try.func22, Try.ntmps22
    go_wp2_with fail
    with_reducible refine (V.out _).mono ?_
    rintro e w1 ⟨rfl, h1⟩
    have q := keep2 h1 (b := w.heap.size) (by first | (simp; done) | (simp; omega) | omega)
    have kc1_0_0 := q.1
    have kc1_0_1 := q.2.1
    have kf1_0_0 := q.2.2.1
    have kf1_0_1 := q.2.2.2.1
    have kl1_0 := q.2.2.2.2.1
    have kn1_0 := q.2.2.2.2.2.1
    have km1_0 := q.2.2.2.2.2.2
    clear q
    have q := keep2 h1 (b := w.heap.size + 1) (by first | (simp; done) | (simp; omega) | omega)
    have kc1_1_0 := q.1
    have kc1_1_1 := q.2.1
    have kf1_1_0 := q.2.2.1
    have kf1_1_1 := q.2.2.2.1
    have kl1_1 := q.2.2.2.2.1
    have kn1_1 := q.2.2.2.2.2.1
    have km1_1 := q.2.2.2.2.2.2
    clear q
    have kz1 := h1.size
    (try simp only [World.size_alloc, World.size_setCell, World.size_drew] at kz1)
    have H1 := Lib.hid h1
    clear h1
    go_wp2
    refine bodyPost_ret ?_ rfl ⟨rfl, ?_⟩
    · simp [results, Try.results22, go_sem, kc1_1_0, kc1_1_1, kl1_1]
    · (repeat (first | with_reducible exact Rel.refl _ | with_reducible refine Rel.alloc ?_ _ | with_reducible refine Rel.setCell ?_ (by first | (simp; done) | (simp; omega)) _ | with_reducible refine Rel.drew ?_ | with_reducible refine Rel.trans ?_ H1.out))

theorem div_uniq {n d q s : Int} (hd : 0 < d) (h0 : 0 ≤ s) (h1 : s < d) (e : d * q + s = n) : n / d = q := by
  rw [← e, Int.add_comm, Int.add_mul_ediv_left _ _ (by omega), Int.ediv_eq_zero_of_lt h0 h1]; omega

/-- Rounding towards zero, and the whole numbers below and above. -/
theorem div_ways (n d : Int) (hd : 1 ≤ d) (h3 : -1000000000000000 ≤ n) (h4 : n ≤ 1000000000000000) :
    ∃ q r p : Int, Int.tdiv n d = q ∧ Int.tmod n d = r ∧ q * d = p ∧ -1000000000000000 ≤ q ∧ q ≤ 1000000000000000 ∧ -1000000000000000 ≤ p ∧ p ≤ 1000000000000000 ∧
      ((r = 0 ∧ p = n ∧ n / d = q ∧ -(-n / d) = q) ∨ (r < 0 ∧ n < p ∧ n / d = q - 1 ∧ -(-n / d) = q) ∨ (0 < r ∧ p < n ∧ n / d = q ∧ -(-n / d) = q + 1)) := by
  refine ⟨_, _, _, rfl, rfl, rfl, ?_⟩
  have e1 := Int.tmod_def n d
  have c1 := Int.tmod_lt_of_pos n (show 0 < d by omega)
  have c2 := tmod_gt n d (by omega)
  have hs : (0 ≤ n → 0 ≤ Int.tmod n d) ∧ (n ≤ 0 → Int.tmod n d ≤ 0) := by
    refine ⟨fun h => Int.tmod_nonneg _ h, fun h => ?_⟩
    have := Int.tmod_nonneg d (show 0 ≤ -n by omega)
    rw [Int.neg_tmod] at this; omega
  have hq : (0 ≤ n → 0 ≤ Int.tdiv n d ∧ Int.tdiv n d ≤ n) ∧ (n ≤ 0 → n ≤ Int.tdiv n d ∧ Int.tdiv n d ≤ 0) := by
    refine ⟨fun h => ?_, fun h => ?_⟩
    · rw [Int.tdiv_eq_ediv_of_nonneg h]
      exact ⟨Int.ediv_nonneg h (by omega), Int.ediv_le_self _ h⟩
    · have e : Int.tdiv n d = -Int.tdiv (-n) d := by rw [Int.neg_tdiv]; omega
      rw [e, Int.tdiv_eq_ediv_of_nonneg (by omega)]
      have := Int.ediv_nonneg (show 0 ≤ -n by omega) (show 0 ≤ d by omega)
      have := Int.ediv_le_self d (show 0 ≤ -n by omega)
      omega
  have hp : (0 ≤ n → 0 ≤ Int.tdiv n d * d) ∧ (n ≤ 0 → Int.tdiv n d * d ≤ 0) := by
    refine ⟨fun h => Int.mul_nonneg (hq.1 h).1 (by omega), fun h => Int.mul_nonpos_of_nonpos_of_nonneg (hq.2 h).2 (by omega)⟩
  have u := fun q s (h0 : 0 ≤ s) (h1 : s < d) (e : d * q + s = n) => div_uniq (n := n) (q := q) (show 0 < d by omega) h0 h1 e
  have v := fun q s (h0 : 0 ≤ s) (h1 : s < d) (e : d * q + s = -n) => div_uniq (n := -n) (q := q) (show 0 < d by omega) h0 h1 e
  rw [Int.mul_comm d] at e1
  generalize Int.tdiv n d = q at *
  generalize Int.tmod n d = r at *
  have k1 : d * (q - 1) = q * d - d := by grind
  have k2 : d * q = q * d := by grind
  have k3 : d * (-q) = -(q * d) := by grind
  have k4 : d * (-q - 1) = -(q * d) - d := by grind
  refine ⟨by omega, by omega, by omega, by omega, ?_⟩
  rcases Int.lt_trichotomy r 0 with h | h | h
  · refine .inr (.inl ⟨h, by omega, u _ (r + d) (by omega) (by omega) (by omega), ?_⟩)
    rw [v (-q) (-r) (by omega) (by omega) (by omega)]; omega
  · refine .inl ⟨h, by omega, u _ 0 (by omega) (by omega) (by omega), ?_⟩
    rw [v (-q) 0 (by omega) (by omega) (by omega)]; omega
  · refine .inr (.inr ⟨h, by omega, u _ r (by omega) (by omega) (by omega), ?_⟩)
    rw [v (-q - 1) (d - r) (by omega) (by omega) (by omega)]; omega

def ZRes (x y : Int) (w : World) (e : Ending) (w' : World) : Prop := e = .returned (.tuple #[.int .i64 x, .int .i64 y]) ∧ Rel w w'

set_option maxHeartbeats 1600000 in
theorem floor_any (n d : Int) (w : World) (n0 : -9223372036854775808 ≤ n) (n1 : n ≤ 9223372036854775807) (d0 : -9223372036854775808 ≤ d) (d1 : d ≤ 9223372036854775807) :
    Calls Try.prog 23 #[.agg #[.int .i64 n, .int .i64 d]] w (ZRes (flN n d) (flE n d) w) := by
  unfold flN flE ZRes
  cases hv : validB n d
  · have V := Lib.hid (fun w => valid_is hv w n0 n1 d0 d1)
    clear hv
    rw [if_neg (by simp), if_neg (by simp)]
    go_enter Try.func23, Try.ntmps23
    go_wp2_with fail
    with_reducible refine (V.out _).mono ?_
    rintro e w1 ⟨rfl, h1⟩
    have q := keep2 h1 (b := w.heap.size) (by first | (simp; done) | (simp; omega) | omega)
    have kc1_0_0 := q.1
    have kc1_0_1 := q.2.1
    have kf1_0_0 := q.2.2.1
    have kf1_0_1 := q.2.2.2.1
    have kl1_0 := q.2.2.2.2.1
    have kn1_0 := q.2.2.2.2.2.1
    have km1_0 := q.2.2.2.2.2.2
    clear q
    have kz1 := h1.size
    (try simp only [World.size_alloc, World.size_setCell, World.size_drew] at kz1)
    have H1 := Lib.hid h1
    clear h1
    go_wp2
    go_ret2
    exact ⟨rfl, by (repeat (first | with_reducible exact Rel.refl _ | with_reducible refine Rel.alloc ?_ _ | with_reducible refine Rel.setCell ?_ (by first | (simp; done) | (simp; omega)) _ | with_reducible refine Rel.drew ?_ | with_reducible refine Rel.trans ?_ H1.out))⟩
  · have V := Lib.hid (fun w => valid_is hv w n0 n1 d0 d1)
    have hb := (validB_iff n d).1 hv
    have b1 := hb.1.1; have b2 := hb.1.2.1; have b3 := hb.1.2.2.1; have b4 := hb.1.2.2.2
    clear hv hb
    rw [if_pos rfl, if_pos rfl]
    obtain ⟨q, r, p, hq, hr, hp, q1, q2, p1, p2, hw⟩ := div_ways n d b1 b3 b4
    have z1 : (d == 0) = false := by simp; omega
    have z2 : ¬ d = 0 := by omega
    have hq0 : 0 ≤ n → n / d = q := fun h => by rw [← hq, Int.tdiv_eq_ediv_of_nonneg h]
    have hr0 : 0 ≤ n → n % d = r := fun h => by rw [← hr, Int.tmod_eq_emod_of_nonneg h]
    rcases hw with ⟨h1, h2, h3, h4⟩ | ⟨h1, h2, h3, h4⟩ | ⟨h1, h2, h3, h4⟩
    all_goals
      rw [h3]
      clear h3 h4
      by_cases hn : 0 ≤ n
      all_goals
        (first | (have hq1 := hq0 hn; have hr1 := hr0 hn; clear hq0 hr0) | clear hq0 hr0)
        go_enter Try.func23, Try.ntmps23
        go_wp2_with fail
        with_reducible refine (V.out _).mono ?_
        rintro e w1 ⟨rfl, h1⟩
        have q := keep2 h1 (b := w.heap.size) (by first | (simp; done) | (simp; omega) | omega)
        have kc1_0_0 := q.1
        have kc1_0_1 := q.2.1
        have kf1_0_0 := q.2.2.1
        have kf1_0_1 := q.2.2.2.1
        have kl1_0 := q.2.2.2.2.1
        have kn1_0 := q.2.2.2.2.2.1
        have km1_0 := q.2.2.2.2.2.2
        clear q
        have kz1 := h1.size
        (try simp only [World.size_alloc, World.size_setCell, World.size_drew] at kz1)
        have H1 := Lib.hid h1
        clear h1
        go_wp2
        go_ret2
        exact ⟨by first | rfl | (congr; omega) | simp [*], by (repeat (first | with_reducible exact Rel.refl _ | with_reducible refine Rel.alloc ?_ _ | with_reducible refine Rel.setCell ?_ (by first | (simp; done) | (simp; omega)) _ | with_reducible refine Rel.drew ?_ | with_reducible refine Rel.trans ?_ H1.out))⟩

set_option maxHeartbeats 1600000 in
theorem rfloor_any (n d : Int) (w : World) (n0 : -9223372036854775808 ≤ n) (n1 : n ≤ 9223372036854775807) (d0 : -9223372036854775808 ≤ d) (d1 : d ≤ 9223372036854775807) :
    Calls Try.prog 24 #[.agg #[.int .i64 n, .int .i64 d]] w (ZRes (flN n d) (flE n d) w) := by
  unfold flN flE ZRes
  cases hv : validB n d
  · have V := Lib.hid (fun w => rvalid_is hv w n0 n1 d0 d1)
    clear hv
    rw [if_neg (by simp), if_neg (by simp)]
    go_enter Try.func24, Try.ntmps24
    go_wp2_with fail
    with_reducible refine (V.out _).mono ?_
    rintro e w1 ⟨rfl, h1⟩
    have q := keep2 h1 (b := w.heap.size) (by first | (simp; done) | (simp; omega) | omega)
    have kc1_0_0 := q.1
    have kc1_0_1 := q.2.1
    have kf1_0_0 := q.2.2.1
    have kf1_0_1 := q.2.2.2.1
    have kl1_0 := q.2.2.2.2.1
    have kn1_0 := q.2.2.2.2.2.1
    have km1_0 := q.2.2.2.2.2.2
    clear q
    have kz1 := h1.size
    (try simp only [World.size_alloc, World.size_setCell, World.size_drew] at kz1)
    have H1 := Lib.hid h1
    clear h1
    go_wp2
    go_ret2
    exact ⟨rfl, by (repeat (first | with_reducible exact Rel.refl _ | with_reducible refine Rel.alloc ?_ _ | with_reducible refine Rel.setCell ?_ (by first | (simp; done) | (simp; omega)) _ | with_reducible refine Rel.drew ?_ | with_reducible refine Rel.trans ?_ H1.out))⟩
  · have V := Lib.hid (fun w => rvalid_is hv w n0 n1 d0 d1)
    have hb := (validB_iff n d).1 hv
    have b1 := hb.1.1; have b2 := hb.1.2.1; have b3 := hb.1.2.2.1; have b4 := hb.1.2.2.2
    clear hv hb
    rw [if_pos rfl, if_pos rfl]
    obtain ⟨q, r, p, hq, hr, hp, q1, q2, p1, p2, hw⟩ := div_ways n d b1 b3 b4
    have z1 : (d == 0) = false := by simp; omega
    have z2 : ¬ d = 0 := by omega
    have hq0 : 0 ≤ n → n / d = q := fun h => by rw [← hq, Int.tdiv_eq_ediv_of_nonneg h]
    have hr0 : 0 ≤ n → n % d = r := fun h => by rw [← hr, Int.tmod_eq_emod_of_nonneg h]
    rcases hw with ⟨h1, h2, h3, h4⟩ | ⟨h1, h2, h3, h4⟩ | ⟨h1, h2, h3, h4⟩
    all_goals
      rw [h3]
      clear h3 h4
      by_cases hn : 0 ≤ n
      all_goals
        (first | (have hq1 := hq0 hn; have hr1 := hr0 hn; clear hq0 hr0) | clear hq0 hr0)
        go_enter Try.func24, Try.ntmps24
        go_wp2_with fail
        with_reducible refine (V.out _).mono ?_
        rintro e w1 ⟨rfl, h1⟩
        have q := keep2 h1 (b := w.heap.size) (by first | (simp; done) | (simp; omega) | omega)
        have kc1_0_0 := q.1
        have kc1_0_1 := q.2.1
        have kf1_0_0 := q.2.2.1
        have kf1_0_1 := q.2.2.2.1
        have kl1_0 := q.2.2.2.2.1
        have kn1_0 := q.2.2.2.2.2.1
        have km1_0 := q.2.2.2.2.2.2
        clear q
        have kz1 := h1.size
        (try simp only [World.size_alloc, World.size_setCell, World.size_drew] at kz1)
        have H1 := Lib.hid h1
        clear h1
        go_wp2
        go_ret2
        exact ⟨by first | rfl | (congr; omega) | simp [*], by (repeat (first | with_reducible exact Rel.refl _ | with_reducible refine Rel.alloc ?_ _ | with_reducible refine Rel.setCell ?_ (by first | (simp; done) | (simp; omega)) _ | with_reducible refine Rel.drew ?_ | with_reducible refine Rel.trans ?_ H1.out))⟩

set_option maxHeartbeats 1600000 in
theorem ceil_any (n d : Int) (w : World) (n0 : -9223372036854775808 ≤ n) (n1 : n ≤ 9223372036854775807) (d0 : -9223372036854775808 ≤ d) (d1 : d ≤ 9223372036854775807) :
    Calls Try.prog 25 #[.agg #[.int .i64 n, .int .i64 d]] w (ZRes (clN n d) (flE n d) w) := by
  unfold clN flE ZRes
  cases hv : validB n d
  · have V := Lib.hid (fun w => valid_is hv w n0 n1 d0 d1)
    clear hv
    rw [if_neg (by simp), if_neg (by simp)]
    go_enter Try.func25, Try.ntmps25
    go_wp2_with fail
    with_reducible refine (V.out _).mono ?_
    rintro e w1 ⟨rfl, h1⟩
    have q := keep2 h1 (b := w.heap.size) (by first | (simp; done) | (simp; omega) | omega)
    have kc1_0_0 := q.1
    have kc1_0_1 := q.2.1
    have kf1_0_0 := q.2.2.1
    have kf1_0_1 := q.2.2.2.1
    have kl1_0 := q.2.2.2.2.1
    have kn1_0 := q.2.2.2.2.2.1
    have km1_0 := q.2.2.2.2.2.2
    clear q
    have kz1 := h1.size
    (try simp only [World.size_alloc, World.size_setCell, World.size_drew] at kz1)
    have H1 := Lib.hid h1
    clear h1
    go_wp2
    go_ret2
    exact ⟨rfl, by (repeat (first | with_reducible exact Rel.refl _ | with_reducible refine Rel.alloc ?_ _ | with_reducible refine Rel.setCell ?_ (by first | (simp; done) | (simp; omega)) _ | with_reducible refine Rel.drew ?_ | with_reducible refine Rel.trans ?_ H1.out))⟩
  · have V := Lib.hid (fun w => valid_is hv w n0 n1 d0 d1)
    have hb := (validB_iff n d).1 hv
    have b1 := hb.1.1; have b2 := hb.1.2.1; have b3 := hb.1.2.2.1; have b4 := hb.1.2.2.2
    clear hv hb
    rw [if_pos rfl, if_pos rfl]
    obtain ⟨q, r, p, hq, hr, hp, q1, q2, p1, p2, hw⟩ := div_ways n d b1 b3 b4
    have z1 : (d == 0) = false := by simp; omega
    have z2 : ¬ d = 0 := by omega
    have hq0 : 0 ≤ n → n / d = q := fun h => by rw [← hq, Int.tdiv_eq_ediv_of_nonneg h]
    have hr0 : 0 ≤ n → n % d = r := fun h => by rw [← hr, Int.tmod_eq_emod_of_nonneg h]
    rcases hw with ⟨h1, h2, h3, h4⟩ | ⟨h1, h2, h3, h4⟩ | ⟨h1, h2, h3, h4⟩
    all_goals
      rw [h4]
      clear h3 h4
      by_cases hn : 0 ≤ n
      all_goals
        (first | (have hq1 := hq0 hn; have hr1 := hr0 hn; clear hq0 hr0) | clear hq0 hr0)
        go_enter Try.func25, Try.ntmps25
        go_wp2_with fail
        with_reducible refine (V.out _).mono ?_
        rintro e w1 ⟨rfl, h1⟩
        have q := keep2 h1 (b := w.heap.size) (by first | (simp; done) | (simp; omega) | omega)
        have kc1_0_0 := q.1
        have kc1_0_1 := q.2.1
        have kf1_0_0 := q.2.2.1
        have kf1_0_1 := q.2.2.2.1
        have kl1_0 := q.2.2.2.2.1
        have kn1_0 := q.2.2.2.2.2.1
        have km1_0 := q.2.2.2.2.2.2
        clear q
        have kz1 := h1.size
        (try simp only [World.size_alloc, World.size_setCell, World.size_drew] at kz1)
        have H1 := Lib.hid h1
        clear h1
        go_wp2
        go_ret2
        exact ⟨by first | rfl | (congr; omega) | simp [*], by (repeat (first | with_reducible exact Rel.refl _ | with_reducible refine Rel.alloc ?_ _ | with_reducible refine Rel.setCell ?_ (by first | (simp; done) | (simp; omega)) _ | with_reducible refine Rel.drew ?_ | with_reducible refine Rel.trans ?_ H1.out))⟩

set_option maxHeartbeats 1600000 in
theorem rceil_any (n d : Int) (w : World) (n0 : -9223372036854775808 ≤ n) (n1 : n ≤ 9223372036854775807) (d0 : -9223372036854775808 ≤ d) (d1 : d ≤ 9223372036854775807) :
    Calls Try.prog 26 #[.agg #[.int .i64 n, .int .i64 d]] w (ZRes (clN n d) (flE n d) w) := by
  unfold clN flE ZRes
  cases hv : validB n d
  · have V := Lib.hid (fun w => rvalid_is hv w n0 n1 d0 d1)
    clear hv
    rw [if_neg (by simp), if_neg (by simp)]
    go_enter Try.func26, Try.ntmps26
    go_wp2_with fail
    with_reducible refine (V.out _).mono ?_
    rintro e w1 ⟨rfl, h1⟩
    have q := keep2 h1 (b := w.heap.size) (by first | (simp; done) | (simp; omega) | omega)
    have kc1_0_0 := q.1
    have kc1_0_1 := q.2.1
    have kf1_0_0 := q.2.2.1
    have kf1_0_1 := q.2.2.2.1
    have kl1_0 := q.2.2.2.2.1
    have kn1_0 := q.2.2.2.2.2.1
    have km1_0 := q.2.2.2.2.2.2
    clear q
    have kz1 := h1.size
    (try simp only [World.size_alloc, World.size_setCell, World.size_drew] at kz1)
    have H1 := Lib.hid h1
    clear h1
    go_wp2
    go_ret2
    exact ⟨rfl, by (repeat (first | with_reducible exact Rel.refl _ | with_reducible refine Rel.alloc ?_ _ | with_reducible refine Rel.setCell ?_ (by first | (simp; done) | (simp; omega)) _ | with_reducible refine Rel.drew ?_ | with_reducible refine Rel.trans ?_ H1.out))⟩
  · have V := Lib.hid (fun w => rvalid_is hv w n0 n1 d0 d1)
    have hb := (validB_iff n d).1 hv
    have b1 := hb.1.1; have b2 := hb.1.2.1; have b3 := hb.1.2.2.1; have b4 := hb.1.2.2.2
    clear hv hb
    rw [if_pos rfl, if_pos rfl]
    obtain ⟨q, r, p, hq, hr, hp, q1, q2, p1, p2, hw⟩ := div_ways n d b1 b3 b4
    have z1 : (d == 0) = false := by simp; omega
    have z2 : ¬ d = 0 := by omega
    have hq0 : 0 ≤ n → n / d = q := fun h => by rw [← hq, Int.tdiv_eq_ediv_of_nonneg h]
    have hr0 : 0 ≤ n → n % d = r := fun h => by rw [← hr, Int.tmod_eq_emod_of_nonneg h]
    rcases hw with ⟨h1, h2, h3, h4⟩ | ⟨h1, h2, h3, h4⟩ | ⟨h1, h2, h3, h4⟩
    all_goals
      rw [h4]
      clear h3 h4
      by_cases hn : 0 ≤ n
      all_goals
        (first | (have hq1 := hq0 hn; have hr1 := hr0 hn; clear hq0 hr0) | clear hq0 hr0)
        go_enter Try.func26, Try.ntmps26
        go_wp2_with fail
        with_reducible refine (V.out _).mono ?_
        rintro e w1 ⟨rfl, h1⟩
        have q := keep2 h1 (b := w.heap.size) (by first | (simp; done) | (simp; omega) | omega)
        have kc1_0_0 := q.1
        have kc1_0_1 := q.2.1
        have kf1_0_0 := q.2.2.1
        have kf1_0_1 := q.2.2.2.1
        have kl1_0 := q.2.2.2.2.1
        have kn1_0 := q.2.2.2.2.2.1
        have km1_0 := q.2.2.2.2.2.2
        clear q
        have kz1 := h1.size
        (try simp only [World.size_alloc, World.size_setCell, World.size_drew] at kz1)
        have H1 := Lib.hid h1
        clear h1
        go_wp2
        go_ret2
        exact ⟨by first | rfl | (congr; omega) | simp [*], by (repeat (first | with_reducible exact Rel.refl _ | with_reducible refine Rel.alloc ?_ _ | with_reducible refine Rel.setCell ?_ (by first | (simp; done) | (simp; omega)) _ | with_reducible refine Rel.drew ?_ | with_reducible refine Rel.trans ?_ H1.out))⟩

end Go.Proofs.Ytdhfecaoadnogaa

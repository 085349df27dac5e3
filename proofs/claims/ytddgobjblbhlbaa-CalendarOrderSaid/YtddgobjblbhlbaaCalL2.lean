/- The walks of CalendarOrder, CalendarMonths, CalendarWithin, CalendarBack: for every argument the law returns true and nothing that was there has turned. No conditions but the integers' bounds. -/
import Derived.Test.YtddgobjblbhlbaaCalE
namespace Go.Proofs.Ytddgobjblbhlbaa
open Go.RowKit Cal
set_option linter.unusedVariables false

theorem order_key (p q r u v s : Int) (h0 : 0 ≤ p ∧ p < 200) (h1 : 0 ≤ q ∧ q < 12) (h2 : 0 ≤ r ∧ r < 28) (h3 : 0 ≤ u ∧ u < 200) (h4 : 0 ≤ v ∧ v < 12) (h5 : 0 ≤ s ∧ s < 28) :
    (p < u ∨ p = u ∧ (q < v ∨ q = v ∧ r < s)) → dayN (1900 + p) (q + 1) (r + 1) < dayN (1900 + u) (v + 1) (s + 1) := by
  intro h
  have b1 := nlen_bd (12 * p.toNat + q.toNat)
  have b2 := nlen_bd (12 * u.toNat + v.toNat)
  have e1 := (dayN_msum p.toNat q.toNat (r + 1) (by omega) (by omega) (by omega) (by omega)).2
  have e2 := (dayN_msum u.toNat v.toNat (s + 1) (by omega) (by omega) (by omega) (by omega)).2
  rw [show (p.toNat : Int) = p by omega, show (q.toNat : Int) = q by omega] at e1
  rw [show (u.toNat : Int) = u by omega, show (v.toNat : Int) = v by omega] at e2
  rw [e1, e2]
  by_cases hm : 12 * p.toNat + q.toNat < 12 * u.toNat + v.toNat
  · have := msum_lt hm; omega
  · rw [show 12 * p.toNat + q.toNat = 12 * u.toNat + v.toNat by omega]; omega
theorem date28 (p q r : Int) (h0 : 0 ≤ p ∧ p < 200) (h1 : 0 ≤ q ∧ q < 12) (h2 : 0 ≤ r ∧ r < 28) : dateB (1900 + p) (q + 1) (r + 1) = true := by
  have := mlen_bd (1900 + p) (q + 1)
  exact (dateB_iff _ _ _).2 (by omega)

set_option maxHeartbeats 4000000 in
theorem walk_CalendarOrder (a0 : Int) (a1 : Int) (a2 : Int) (a3 : Int) (a4 : Int) (a5 : Int) (b0 : -9223372036854775808 ≤ a0) (c0 : a0 ≤ 9223372036854775807) (b1 : -9223372036854775808 ≤ a1) (c1 : a1 ≤ 9223372036854775807) (b2 : -9223372036854775808 ≤ a2) (c2 : a2 ≤ 9223372036854775807) (b3 : -9223372036854775808 ≤ a3) (c3 : a3 ≤ 9223372036854775807) (b4 : -9223372036854775808 ≤ a4) (c4 : a4 ≤ 9223372036854775807) (b5 : -9223372036854775808 ≤ a5) (c5 : a5 ≤ 9223372036854775807) (w : World) :
    Calls Try.prog 4 #[.int .i64 a0, .int .i64 a1, .int .i64 a2, .int .i64 a3, .int .i64 a4, .int .i64 a5] w fun e w' => e = .returned (.bool true) ∧ Below w.heap.size w w' := by
  obtain ⟨p, hp⟩ : ∃ x, x = a0 % 200 := ⟨_, rfl⟩
  obtain ⟨q, hq⟩ : ∃ x, x = a1 % 12 := ⟨_, rfl⟩
  obtain ⟨r, hr⟩ : ∃ x, x = a2 % 28 := ⟨_, rfl⟩
  obtain ⟨u, hu⟩ : ∃ x, x = a3 % 200 := ⟨_, rfl⟩
  obtain ⟨v, hv⟩ : ∃ x, x = a4 % 12 := ⟨_, rfl⟩
  obtain ⟨s, hs⟩ : ∃ x, x = a5 % 28 := ⟨_, rfl⟩
  have k0 : 0 ≤ p ∧ p < 200 := by omega
  have k1 : 0 ≤ q ∧ q < 12 := by omega
  have k2 : 0 ≤ r ∧ r < 28 := by omega
  have k3 : 0 ≤ u ∧ u < 200 := by omega
  have k4 : 0 ≤ v ∧ v < 12 := by omega
  have k5 : 0 ≤ s ∧ s < 28 := by omega
  have d1 := date28 p q r k0 k1 k2
  have d2 := date28 u v s k3 k4 k5
  have HP := Lib.hid hp
  have HQ := Lib.hid hq
  have HR := Lib.hid hr
  have HU := Lib.hid hu
  have HV := Lib.hid hv
  have HS := Lib.hid hs
  clear hp hq hr hu hv hs b0 c0 b1 c1 b2 c2 b3 c3 b4 c4 b5 c5
  have tri : (p < u ∨ p = u ∧ (q < v ∨ q = v ∧ r < s)) ∨ (p = u ∧ q = v ∧ r = s) ∨ (u < p ∨ u = p ∧ (v < q ∨ v = q ∧ s < r)) := by omega
  rcases tri with h | ⟨rfl, rfl, rfl⟩ | h
  · have o1 := order_key p q r u v s k0 k1 k2 k3 k4 k5 h
    have f1 : decide (dayN (1900 + p) (q + 1) (r + 1) < dayN (1900 + u) (v + 1) (s + 1)) = true := by simpa using o1
    have f2 : (dayN (1900 + p) (q + 1) (r + 1) == dayN (1900 + u) (v + 1) (s + 1)) = false := by simp; omega
    rcases h with h | ⟨rfl, h | ⟨rfl, h⟩⟩
    all_goals
      go_enter Try.func4, Try.ntmps4
      go_wp2_with (first | (go_at_call 17; refine (Pick_any _ _ _ (by omega) (by omega)).mono ?_; (first | rw [← HP.out] | rw [← HQ.out] | rw [← HR.out] | rw [← HU.out] | rw [← HV.out] | rw [← HS.out]); rintro e w1 ⟨rfl, rfl⟩) | (go_at_call 18; refine (Day_any _ _ _ _).mono ?_; rintro e w1 ⟨rfl, hb1⟩) | (go_at_call 20; refine (awake_any _).mono ?_; rintro e w2 ⟨rfl, hb2⟩))
      go_ret
      exact ⟨ret_b (by first | rfl | (simp; omega)), below_seq (below_seq (by assumption) (by assumption)) hb2⟩
  · go_enter Try.func4, Try.ntmps4
    go_wp2_with (first | (go_at_call 17; refine (Pick_any _ _ _ (by omega) (by omega)).mono ?_; (first | rw [← HP.out] | rw [← HQ.out] | rw [← HR.out] | rw [← HU.out] | rw [← HV.out] | rw [← HS.out]); rintro e w1 ⟨rfl, rfl⟩) | (go_at_call 18; refine (Day_any _ _ _ _).mono ?_; rintro e w1 ⟨rfl, hb1⟩) | (go_at_call 20; refine (awake_any _).mono ?_; rintro e w2 ⟨rfl, hb2⟩))
    go_ret
    exact ⟨rfl, below_seq (below_seq (by assumption) (by assumption)) hb2⟩
  · have o1 := order_key u v s p q r k3 k4 k5 k0 k1 k2 h
    have f1 : decide (dayN (1900 + p) (q + 1) (r + 1) < dayN (1900 + u) (v + 1) (s + 1)) = false := by simp; omega
    have f2 : (dayN (1900 + p) (q + 1) (r + 1) == dayN (1900 + u) (v + 1) (s + 1)) = false := by simp; omega
    rcases h with h | ⟨rfl, h | ⟨rfl, h⟩⟩
    all_goals
      go_enter Try.func4, Try.ntmps4
      go_wp2_with (first | (go_at_call 17; refine (Pick_any _ _ _ (by omega) (by omega)).mono ?_; (first | rw [← HP.out] | rw [← HQ.out] | rw [← HR.out] | rw [← HU.out] | rw [← HV.out] | rw [← HS.out]); rintro e w1 ⟨rfl, rfl⟩) | (go_at_call 18; refine (Day_any _ _ _ _).mono ?_; rintro e w1 ⟨rfl, hb1⟩) | (go_at_call 20; refine (awake_any _).mono ?_; rintro e w2 ⟨rfl, hb2⟩))
      go_ret
      exact ⟨ret_b (by first | rfl | (simp; omega)), below_seq (below_seq (by assumption) (by assumption)) hb2⟩

end Go.Proofs.Ytddgobjblbhlbaa

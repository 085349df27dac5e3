/- The walks of CalendarMonths, CalendarWithin, CalendarBack, CalendarAdds, CalendarBirthdays, CalendarAges: for every argument the law returns true and nothing that was there has turned. No conditions but the integers' bounds. -/
import Derived.Test.YtddgobjblbhlbaaCalH
namespace Go.Proofs.Ytddgobjblbhlbaa
open Go.RowKit Cal
set_option linter.unusedVariables false

set_option maxHeartbeats 1000000 in
theorem walk_CalendarMonths (a0 : Int) (a1 : Int) (b0 : -9223372036854775808 ≤ a0) (c0 : a0 ≤ 9223372036854775807) (b1 : -9223372036854775808 ≤ a1) (c1 : a1 ≤ 9223372036854775807) (w : World) :
    Calls Try.prog 9 #[.int .i64 a0, .int .i64 a1] w fun e w' => e = .returned (.bool true) ∧ Below w.heap.size w w' := by
  clear b0 c0
  by_cases h : a1.tmod 16 = 0
  · have hb : (a1.tmod 16 == 0) = true := by simpa using h
    clear h
    go_enter Try.func9, Try.ntmps9
    go_wp2_with (first | (go_at_call 21; refine (near_any _ _).mono ?_; rintro e w1 ⟨rfl, rfl⟩) | (go_at_call 29; refine (MonthStart_any _ _).mono ?_; rintro e w1 ⟨rfl, hb1⟩) | (go_at_call 30; refine (RMonthStart_any _ _).mono ?_; rintro e w1 ⟨rfl, rfl⟩) | (go_at_call 20; refine (awake_any _).mono ?_; rintro e w1 ⟨rfl, hb2⟩) | (go_at_call 31; refine (Month_any _ _).mono ?_; rintro e w1 ⟨rfl, hb3⟩) | (go_at_call 32; refine (RMonth_any _ _).mono ?_; rintro e w1 ⟨rfl, rfl⟩) | (go_at_call 33; refine (MonthDays_any _ _).mono ?_; rintro e w1 ⟨rfl, hb4⟩) | (go_at_call 34; refine (RMonthDays_any _ _).mono ?_; rintro e w1 ⟨rfl, rfl⟩))
    go_ret
    exact ⟨rfl, below_seq (below_seq (below_seq (by assumption) (by assumption)) (by assumption)) hb4⟩
  · have hb : (a1.tmod 16 == 0) = false := by simpa using h
    have hb' : (a1.tmod 16 != 0) = true := by simpa using h
    clear h
    go_enter Try.func9, Try.ntmps9
    go_wp2_with (first | (go_at_call 17; refine (Pick_any _ _ _ (by omega) (by omega)).mono ?_; rintro e w1 ⟨rfl, rfl⟩) | (go_at_call 21; refine (near_any _ _).mono ?_; rintro e w1 ⟨rfl, rfl⟩) | (go_at_call 29; refine (MonthStart_any _ _).mono ?_; rintro e w1 ⟨rfl, hb1⟩) | (go_at_call 30; refine (RMonthStart_any _ _).mono ?_; rintro e w1 ⟨rfl, rfl⟩) | (go_at_call 20; refine (awake_any _).mono ?_; rintro e w1 ⟨rfl, hb2⟩) | (go_at_call 31; refine (Month_any _ _).mono ?_; rintro e w1 ⟨rfl, hb3⟩) | (go_at_call 32; refine (RMonth_any _ _).mono ?_; rintro e w1 ⟨rfl, rfl⟩) | (go_at_call 33; refine (MonthDays_any _ _).mono ?_; rintro e w1 ⟨rfl, hb4⟩) | (go_at_call 34; refine (RMonthDays_any _ _).mono ?_; rintro e w1 ⟨rfl, rfl⟩))
    go_ret
    exact ⟨rfl, below_seq (below_seq (below_seq (by assumption) (by assumption)) (by assumption)) hb4⟩

theorem within_facts {d : Int} (h : vdayB d = true) : vmonB (monI d) = true ∧ mstN (monI d) ≤ d ∧ d < mstN (monI d) + mdyN (monI d) ∧ 28 ≤ mdyN (monI d) ∧ mdyN (monI d) ≤ 31 ∧
    (vmonB (monI d + 1) = true → mstN (monI d + 1) = mstN (monI d) + mdyN (monI d)) ∧ (vmonB (monI d + 1) = false → monI d = 2399 ∧ mstN (monI d) + mdyN (monI d) = 73049) := by
  have hs := monOf_spec d h
  have hb := nlen_bd (monOf d)
  have hv : vmonB (monI d) = true := (vmonB_iff _).2 (by rw [monI_yes h]; omega)
  have e1 : mstN (monI d) = msum (monOf d) := by rw [mstN_yes hv, monI_yes h]; rfl
  have e2 : mdyN (monI d) = nlen (monOf d) := by rw [mdyN_yes hv, monI_yes h]; rfl
  rw [e1, e2]
  refine ⟨hv, hs.2.1, hs.2.2, hb.1, hb.2, fun hn => ?_, fun hn => ?_⟩
  · rw [mstN_yes hn, monI_yes h, show (((monOf d : Nat) : Int) + 1).toNat = monOf d + 1 by omega, msum]
  · have h9 : monOf d = 2399 := by
      by_cases c : monOf d = 2399
      · exact c
      · have : vmonB (monI d + 1) = true := (vmonB_iff _).2 (by rw [monI_yes h]; omega)
        rw [hn] at this; cases this
    refine ⟨by rw [monI_yes h, h9]; rfl, ?_⟩
    have := msum_end
    rw [show 2400 = monOf d + 1 by omega, msum] at this; exact this

set_option maxHeartbeats 1000000 in
theorem walk_CalendarWithin (a0 : Int) (b0 : -9223372036854775808 ≤ a0) (c0 : a0 ≤ 9223372036854775807) (w : World) :
    Calls Try.prog 10 #[.int .i64 a0] w fun e w' => e = .returned (.bool true) ∧ Below w.heap.size w w' := by
  clear b0 c0
  obtain ⟨d, hd⟩ : ∃ d, d = a0 % 73049 := ⟨_, rfl⟩
  have hv : vdayB d = true := (vdayB_iff d).2 (by omega)
  have hD := Lib.hid hd
  clear hd
  obtain ⟨f1, f2, f3, f4, f5, f6, f7⟩ := within_facts hv
  obtain ⟨m0, m1⟩ := monI_bd d
  obtain ⟨s0, s1⟩ := mst_bd (monI d)
  cases hn : vmonB (monI d + 1)
  · obtain ⟨g1, g2⟩ := f7 hn
    have t1 : (monI d == 2399) = true := by simpa using g1
    have t2 : (mstN (monI d) + mdyN (monI d) == 73049) = true := by simpa using g2
    clear f6 f7 g1 g2
    go_enter Try.func10, Try.ntmps10
    go_wp2_with (first | (go_at_call 17; refine (Pick_any _ _ _ (by omega) (by omega)).mono ?_; rw [← hD.out]; rintro e w1 ⟨rfl, rfl⟩) | (go_at_call 29; refine (MonthStart_any _ _).mono ?_; rintro e w1 ⟨rfl, hb1⟩) | (go_at_call 20; refine (awake_any _).mono ?_; rintro e w1 ⟨rfl, hb2⟩) | (go_at_call 31; refine (Month_any _ _).mono ?_; rintro e w1 ⟨rfl, hb3⟩) | (go_at_call 33; refine (MonthDays_any _ _).mono ?_; rintro e w1 ⟨rfl, hb4⟩))
    go_ret
    exact ⟨ret_b (by first | rfl | (simp; omega)), below_seq (below_seq (below_seq (below_seq (by assumption) (by assumption)) (by assumption)) hb2) hb1⟩
  · have g2 := f6 hn
    have t2 : (mstN (monI d + 1) == mstN (monI d) + mdyN (monI d)) = true := by simpa using g2
    have g3 := Lib.hid g2
    clear f6 f7 g2
    go_enter Try.func10, Try.ntmps10
    go_wp2_with (first | (go_at_call 17; refine (Pick_any _ _ _ (by omega) (by omega)).mono ?_; rw [← hD.out]; rintro e w1 ⟨rfl, rfl⟩) | (go_at_call 29; refine (MonthStart_any _ _).mono ?_; rintro e w1 ⟨rfl, hb1⟩) | (go_at_call 20; refine (awake_any _).mono ?_; rintro e w1 ⟨rfl, hb2⟩) | (go_at_call 31; refine (Month_any _ _).mono ?_; rintro e w1 ⟨rfl, hb3⟩) | (go_at_call 33; refine (MonthDays_any _ _).mono ?_; rintro e w1 ⟨rfl, hb4⟩))
    go_ret
    exact ⟨ret_b (by first | rfl | (simp; omega)), below_seq (below_seq (below_seq (below_seq (by assumption) (by assumption)) (by assumption)) hb2) hb1⟩

set_option maxHeartbeats 1000000 in
theorem walk_CalendarBack (a0 : Int) (a1 : Int) (a2 : Int) (a3 : Int) (b0 : -9223372036854775808 ≤ a0) (c0 : a0 ≤ 9223372036854775807) (b1 : -9223372036854775808 ≤ a1) (c1 : a1 ≤ 9223372036854775807) (b2 : -9223372036854775808 ≤ a2) (c2 : a2 ≤ 9223372036854775807) (b3 : -9223372036854775808 ≤ a3) (c3 : a3 ≤ 9223372036854775807) (w : World) :
    Calls Try.prog 7 #[.int .i64 a0, .int .i64 a1, .int .i64 a2, .int .i64 a3] w fun e w' => e = .returned (.bool true) ∧ Below w.heap.size w w' := by
  clear b0 c0 b1 c1 b2 c2 b3 c3
  obtain ⟨d, hd⟩ : ∃ d, d = a0 % 73049 := ⟨_, rfl⟩
  obtain ⟨p, hp⟩ : ∃ x, x = a1 % 200 := ⟨_, rfl⟩
  obtain ⟨q, hq⟩ : ∃ x, x = a2 % 12 := ⟨_, rfl⟩
  obtain ⟨r, hr⟩ : ∃ x, x = a3 % 31 := ⟨_, rfl⟩
  have hv : vdayB d = true := (vdayB_iff d).2 (by omega)
  have k0 : 0 ≤ p ∧ p < 200 := by omega
  have k1 : 0 ≤ q ∧ q < 12 := by omega
  have k2 : 0 ≤ r ∧ r < 31 := by omega
  have hD := Lib.hid hd
  have HP := Lib.hid hp
  have HQ := Lib.hid hq
  have HR := Lib.hid hr
  clear hd hp hq hr
  obtain ⟨f1, f2⟩ := day_date d hv
  have t1 : (dayN (dY d) (dM d) (dD d) == d) = true := by simpa using f2
  have t1' : (dayN (dY d) (dM d) (dD d) != d) = false := by simpa using f2
  clear f2
  cases hb : dateB (1900 + p) (q + 1) (r + 1)
  · have hr28 : 28 < r + 1 := by
      by_cases c : 28 < r + 1
      · exact c
      · have := mlen_bd (1900 + p) (q + 1)
        have h2 : dateB (1900 + p) (q + 1) (r + 1) = true := (dateB_iff _ _ _).2 (by omega)
        rw [hb] at h2; cases h2
    go_enter Try.func7, Try.ntmps7
    go_wp2_with (first | (go_at_call 17; refine (Pick_any _ _ _ (by omega) (by omega)).mono ?_; (first | rw [← hD.out] | rw [← HP.out] | rw [← HQ.out] | rw [← HR.out]); rintro e w1 ⟨rfl, rfl⟩) | (go_at_call 25; refine (Date_any _ _).mono ?_; rintro e w1 ⟨rfl, hb1⟩) | (go_at_call 18; refine (Day_any _ _ _ _).mono ?_; rintro e w1 ⟨rfl, hb2⟩) | (go_at_call 20; refine (awake_any _).mono ?_; rintro e w1 ⟨rfl, hb3⟩))
    go_ret
    exact ⟨ret_b (by first | rfl | (simp; omega)), below_seq (below_seq (below_seq (by assumption) (by assumption)) hb3) hb2⟩
  · obtain ⟨g0, g1, g2, g3⟩ := date_day _ _ _ hb
    have u1 : (dY (dayN (1900 + p) (q + 1) (r + 1)) == 1900 + p) = true := by simpa using g1
    have u2 : (dM (dayN (1900 + p) (q + 1) (r + 1)) == q + 1) = true := by simpa using g2
    have u3 : (dD (dayN (1900 + p) (q + 1) (r + 1)) == r + 1) = true := by simpa using g3
    clear g1 g2 g3
    go_enter Try.func7, Try.ntmps7
    go_wp2_with (first | (go_at_call 17; refine (Pick_any _ _ _ (by omega) (by omega)).mono ?_; (first | rw [← hD.out] | rw [← HP.out] | rw [← HQ.out] | rw [← HR.out]); rintro e w1 ⟨rfl, rfl⟩) | (go_at_call 25; refine (Date_any _ _).mono ?_; rintro e w1 ⟨rfl, hb1⟩) | (go_at_call 18; refine (Day_any _ _ _ _).mono ?_; rintro e w1 ⟨rfl, hb2⟩) | (go_at_call 20; refine (awake_any _).mono ?_; rintro e w1 ⟨rfl, hb3⟩))
    go_ret
    exact ⟨ret_b (by first | rfl | (simp; omega)), below_seq (below_seq (below_seq (below_seq (by assumption) (by assumption)) hb3) (by assumption)) hb1⟩

set_option maxHeartbeats 1000000 in
theorem walk_CalendarAdds (a0 : Int) (a1 : Int) (a2 : Bool) (b0 : -9223372036854775808 ≤ a0) (c0 : a0 ≤ 9223372036854775807) (b1 : -9223372036854775808 ≤ a1) (c1 : a1 ≤ 9223372036854775807) (w : World) :
    Calls Try.prog 13 #[.int .i64 a0, .int .i64 a1, .bool a2] w fun e w' => e = .returned (.bool true) ∧ Below w.heap.size w w' := by
  clear b0 c0
  cases a2
  all_goals
    go_enter Try.func13, Try.ntmps13
    go_wp2_with (first | (go_at_call 17; refine (Pick_any _ _ _ (by omega) (by omega)).mono ?_; rintro e w1 ⟨rfl, rfl⟩) | (go_at_call 21; refine (near_any _ _).mono ?_; rintro e w1 ⟨rfl, rfl⟩) | (go_at_call 37; refine (AddMonths_any _ _ _).mono ?_; rintro e w1 ⟨rfl, hb1⟩) | (go_at_call 38; refine (RAddMonths_any _ _ _).mono ?_; rintro e w1 ⟨rfl, rfl⟩) | (go_at_call 20; refine (awake_any _).mono ?_; rintro e w2 ⟨rfl, hb2⟩))
    go_ret
    exact ⟨rfl, below_seq (by assumption) hb2⟩

set_option maxHeartbeats 1000000 in
theorem walk_CalendarBirthdays (a0 : Int) (a1 : Int) (b0 : -9223372036854775808 ≤ a0) (c0 : a0 ≤ 9223372036854775807) (b1 : -9223372036854775808 ≤ a1) (c1 : a1 ≤ 9223372036854775807) (w : World) :
    Calls Try.prog 8 #[.int .i64 a0, .int .i64 a1] w fun e w' => e = .returned (.bool true) ∧ Below w.heap.size w w' := by
  clear b0 c0
  by_cases h : a1.tmod 16 = 0
  · have hb : (a1.tmod 16 == 0) = true := by simpa using h
    clear h
    go_enter Try.func8, Try.ntmps8
    go_wp2_with (first | (go_at_call 21; refine (near_any _ _).mono ?_; rintro e w1 ⟨rfl, rfl⟩) | (go_at_call 27; refine (Birthday_any _ _ _ (by omega) (by omega)).mono ?_; rintro e w1 ⟨rfl, hb1⟩) | (go_at_call 28; refine (RBirthday_any _ _ _).mono ?_; rintro e w1 ⟨rfl, rfl⟩) | (go_at_call 20; refine (awake_any _).mono ?_; rintro e w1 ⟨rfl, hb2⟩))
    go_ret
    exact ⟨rfl, below_seq (by assumption) hb2⟩
  · have hb : (a1.tmod 16 == 0) = false := by simpa using h
    have hb' : (a1.tmod 16 != 0) = true := by simpa using h
    clear h
    go_enter Try.func8, Try.ntmps8
    go_wp2_with (first | (go_at_call 17; refine (Pick_any _ _ _ (by omega) (by omega)).mono ?_; rintro e w1 ⟨rfl, rfl⟩) | (go_at_call 21; refine (near_any _ _).mono ?_; rintro e w1 ⟨rfl, rfl⟩) | (go_at_call 27; refine (Birthday_any _ _ _ (by omega) (by omega)).mono ?_; rintro e w1 ⟨rfl, hb1⟩) | (go_at_call 28; refine (RBirthday_any _ _ _).mono ?_; rintro e w1 ⟨rfl, rfl⟩) | (go_at_call 20; refine (awake_any _).mono ?_; rintro e w1 ⟨rfl, hb2⟩))
    go_ret
    exact ⟨rfl, below_seq (by assumption) hb2⟩

set_option maxHeartbeats 1000000 in
theorem walk_CalendarAges (a0 : Int) (a1 : Int) (b0 : -9223372036854775808 ≤ a0) (c0 : a0 ≤ 9223372036854775807) (b1 : -9223372036854775808 ≤ a1) (c1 : a1 ≤ 9223372036854775807) (w : World) :
    Calls Try.prog 11 #[.int .i64 a0, .int .i64 a1] w fun e w' => e = .returned (.bool true) ∧ Below w.heap.size w w' := by
  clear b0 c0 b1 c1
  go_enter Try.func11, Try.ntmps11
  go_wp2_with (first | (go_at_call 21; refine (near_any _ _).mono ?_; rintro e w1 ⟨rfl, rfl⟩) | (go_at_call 35; refine (Age_any _ _ _).mono ?_; rintro e w1 ⟨rfl, hb1⟩) | (go_at_call 36; refine (RAge_any _ _ _).mono ?_; rintro e w1 ⟨rfl, rfl⟩) | (go_at_call 20; refine (awake_any _).mono ?_; rintro e w1 ⟨rfl, hb2⟩))
  go_ret
  exact ⟨rfl, below_seq (by assumption) hb1⟩

end Go.Proofs.Ytddgobjblbhlbaa

/- The walks of CalendarDays, CalendarOrder, CalendarDates, CalendarWeeks, CalendarMonths, CalendarWithin, CalendarBack: for every argument the law returns true and nothing that was there has turned. No conditions but the integers' bounds. -/
import Derived.Test.YtddgobjblbhlbaaCalE
namespace Go.Proofs.Ytddgobjblbhlbaa
open Go.RowKit Cal
set_option linter.unusedVariables false

set_option maxHeartbeats 1000000 in
theorem walk_CalendarDays (a0 : Int) (a1 : Int) (a2 : Int) (a3 : Bool) (b0 : -9223372036854775808 ≤ a0) (c0 : a0 ≤ 9223372036854775807) (b1 : -9223372036854775808 ≤ a1) (c1 : a1 ≤ 9223372036854775807) (b2 : -9223372036854775808 ≤ a2) (c2 : a2 ≤ 9223372036854775807) (w : World) :
    Calls Try.prog 3 #[.int .i64 a0, .int .i64 a1, .int .i64 a2, .bool a3] w fun e w' => e = .returned (.bool true) ∧ Below w.heap.size w w' := by
  clear b0 c0 b1 c1 b2 c2
  cases a3
  all_goals
    go_enter Try.func3, Try.ntmps3
    go_wp2_with (first | (go_at_call 17; refine (Pick_any _ _ _ (by omega) (by omega)).mono ?_; rintro e w1 ⟨rfl, rfl⟩) | (go_at_call 18; refine (Day_any _ _ _ _).mono ?_; rintro e w1 ⟨rfl, hb1⟩) | (go_at_call 19; refine (RDay_any _ _ _ _).mono ?_; rintro e w1 ⟨rfl, rfl⟩) | (go_at_call 20; refine (awake_any _).mono ?_; rintro e w2 ⟨rfl, hb2⟩))
    go_ret
    exact ⟨rfl, below_seq (by assumption) hb2⟩

set_option maxHeartbeats 1000000 in
theorem walk_CalendarDates (a0 : Int) (b0 : -9223372036854775808 ≤ a0) (c0 : a0 ≤ 9223372036854775807) (w : World) :
    Calls Try.prog 6 #[.int .i64 a0] w fun e w' => e = .returned (.bool true) ∧ Below w.heap.size w w' := by
  clear b0 c0
  obtain ⟨d, hd⟩ : ∃ d, d = nearN a0 := ⟨_, rfl⟩
  have hD := Lib.hid hd
  have hiff := vdayB_iff d
  cases h : vdayB d
  · rw [h] at hiff; simp at hiff
    clear hd
    by_cases h0 : 0 ≤ d
    · have h1 := hiff h0
      clear hiff
      go_enter Try.func6, Try.ntmps6
      go_wp2_with (first | (go_at_call 21; refine (near_any _ _).mono ?_; rw [← hD.out]; rintro e w1 ⟨rfl, rfl⟩) | (go_at_call 25; refine (Date_any _ _).mono ?_; rintro e w1 ⟨rfl, hb1⟩) | (go_at_call 26; refine (RDate_any _ _).mono ?_; rintro e w1 ⟨rfl, rfl⟩) | (go_at_call 24; refine (Valid_any _ _).mono ?_; rintro e w1 ⟨rfl, rfl⟩) | (go_at_call 20; refine (awake_any _).mono ?_; rintro e w2 ⟨rfl, hb2⟩))
      go_ret
      exact ⟨ret_b (by simp; omega), below_seq (by assumption) hb2⟩
    · clear hiff
      go_enter Try.func6, Try.ntmps6
      go_wp2_with (first | (go_at_call 21; refine (near_any _ _).mono ?_; rw [← hD.out]; rintro e w1 ⟨rfl, rfl⟩) | (go_at_call 25; refine (Date_any _ _).mono ?_; rintro e w1 ⟨rfl, hb1⟩) | (go_at_call 26; refine (RDate_any _ _).mono ?_; rintro e w1 ⟨rfl, rfl⟩) | (go_at_call 24; refine (Valid_any _ _).mono ?_; rintro e w1 ⟨rfl, rfl⟩) | (go_at_call 20; refine (awake_any _).mono ?_; rintro e w2 ⟨rfl, hb2⟩))
      go_ret
      exact ⟨rfl, below_seq (by assumption) hb2⟩
  · obtain ⟨h0, h1⟩ := hiff.1 h
    clear hiff hd
    go_enter Try.func6, Try.ntmps6
    go_wp2_with (first | (go_at_call 21; refine (near_any _ _).mono ?_; rw [← hD.out]; rintro e w1 ⟨rfl, rfl⟩) | (go_at_call 25; refine (Date_any _ _).mono ?_; rintro e w1 ⟨rfl, hb1⟩) | (go_at_call 26; refine (RDate_any _ _).mono ?_; rintro e w1 ⟨rfl, rfl⟩) | (go_at_call 24; refine (Valid_any _ _).mono ?_; rintro e w1 ⟨rfl, rfl⟩) | (go_at_call 20; refine (awake_any _).mono ?_; rintro e w2 ⟨rfl, hb2⟩))
    go_ret
    exact ⟨rfl, below_seq (by assumption) hb2⟩

theorem wkd_succ (d : Int) (h0 : vdayB d = true) (h1 : vdayB (d + 1) = true) : (wkdN (d + 1) == (wkdN d + 1) % 7) = true := by
  rw [wkdN_yes h0, wkdN_yes h1]; simp
theorem wkd_bd (d : Int) : -1 ≤ wkdN d ∧ wkdN d ≤ 6 := by unfold wkdN; split <;> omega
theorem near_bd (n : Int) (b : -9223372036854775808 ≤ n) (c : n ≤ 9223372036854775807) : -9223372036854775808 ≤ nearN n ∧ nearN n < 9223372036854775807 := by
  unfold nearN; split
  · refine ⟨b, ?_⟩
    by_cases e : n = 9223372036854775807
    · subst e; rename_i h; exact absurd h (by decide)
    · omega
  · omega

set_option maxHeartbeats 1000000 in
theorem walk_CalendarWeeks (a0 : Int) (b0 : -9223372036854775808 ≤ a0) (c0 : a0 ≤ 9223372036854775807) (w : World) :
    Calls Try.prog 5 #[.int .i64 a0] w fun e w' => e = .returned (.bool true) ∧ Below w.heap.size w w' := by
  obtain ⟨d, hd⟩ : ∃ d, d = nearN a0 := ⟨_, rfl⟩
  obtain ⟨b1, b2⟩ := near_bd a0 b0 c0
  rw [← hd] at b1 b2
  have hD := Lib.hid hd
  have w0 : wkdN 0 = 0 := by decide
  obtain ⟨d0, d1⟩ := wkd_bd d
  obtain ⟨d2, d3⟩ := wkd_bd (d + 1)
  clear hd
  cases h0 : vdayB d
  · go_enter Try.func5, Try.ntmps5
    go_wp2_with (first | (go_at_call 21; refine (near_any _ _).mono ?_; rw [← hD.out]; rintro e w1 ⟨rfl, rfl⟩) | (go_at_call 22; refine (Weekday_any _ _).mono ?_; rintro e w1 ⟨rfl, rfl⟩) | (go_at_call 23; refine (RWeekday_any _ _).mono ?_; rintro e w1 ⟨rfl, rfl⟩) | (go_at_call 24; refine (Valid_any _ _).mono ?_; rintro e w1 ⟨rfl, rfl⟩) | (go_at_call 20; refine (awake_any _).mono ?_; rintro e w2 ⟨rfl, hb2⟩))
    go_ret
    exact ⟨rfl, by assumption⟩
  · cases h1 : vdayB (d + 1)
    · go_enter Try.func5, Try.ntmps5
      go_wp2_with (first | (go_at_call 21; refine (near_any _ _).mono ?_; rw [← hD.out]; rintro e w1 ⟨rfl, rfl⟩) | (go_at_call 22; refine (Weekday_any _ _).mono ?_; rintro e w1 ⟨rfl, rfl⟩) | (go_at_call 23; refine (RWeekday_any _ _).mono ?_; rintro e w1 ⟨rfl, rfl⟩) | (go_at_call 24; refine (Valid_any _ _).mono ?_; rintro e w1 ⟨rfl, rfl⟩) | (go_at_call 20; refine (awake_any _).mono ?_; rintro e w2 ⟨rfl, hb2⟩))
      go_ret
      exact ⟨rfl, by assumption⟩
    · have hs := wkd_succ d h0 h1
      go_enter Try.func5, Try.ntmps5
      go_wp2_with (first | (go_at_call 21; refine (near_any _ _).mono ?_; rw [← hD.out]; rintro e w1 ⟨rfl, rfl⟩) | (go_at_call 22; refine (Weekday_any _ _).mono ?_; rintro e w1 ⟨rfl, rfl⟩) | (go_at_call 23; refine (RWeekday_any _ _).mono ?_; rintro e w1 ⟨rfl, rfl⟩) | (go_at_call 24; refine (Valid_any _ _).mono ?_; rintro e w1 ⟨rfl, rfl⟩) | (go_at_call 20; refine (awake_any _).mono ?_; rintro e w2 ⟨rfl, hb2⟩))
      go_ret
      exact ⟨rfl, by assumption⟩

end Go.Proofs.Ytddgobjblbhlbaa

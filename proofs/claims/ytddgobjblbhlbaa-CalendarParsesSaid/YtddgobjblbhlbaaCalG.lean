/- Contracts of Birthday and Age of the calendar and of the reference. No conditions but those printed. -/
import Derived.Test.YtddgobjblbhlbaaCalF
namespace Go.Proofs.Ytddgobjblbhlbaa
open Go.RowKit Cal

set_option maxHeartbeats 1000000 in
theorem Birthday_no (d n : Int) (w : World) (hn0 : -9223372036854775808 ≤ n) (hn1 : n ≤ 9223372036854775807) (h : bdB d n = false) :
    Calls Try.prog 27 #[.int .i64 d, .int .i64 n] w fun e w' => e = .returned (.tuple #[.int .i64 0, .bool false]) ∧ Below w.heap.size w w' := by
  cases hv : vdayB d
  · clear h
    go_enter Try.func27, Try.ntmps27
    go_wp2_with (go_at_call 25; refine (Date_any _ _).mono ?_; rintro e w1 ⟨rfl, hb1⟩)
    go_ret2
    exact ⟨rfl, by assumption⟩
  · obtain ⟨y0, y1, _⟩ := date_bd hv
    by_cases h1 : n < 0
    · clear h
      go_enter Try.func27, Try.ntmps27
      go_wp2_with (go_at_call 25; refine (Date_any _ _).mono ?_; rintro e w1 ⟨rfl, hb1⟩)
      go_ret2
      exact ⟨rfl, by assumption⟩
    · have h2 : 2099 - dY d < n := by
        simp [bdB, hv] at h; omega
      clear h
      go_enter Try.func27, Try.ntmps27
      go_wp2_with (go_at_call 25; refine (Date_any _ _).mono ?_; rintro e w1 ⟨rfl, hb1⟩)
      go_ret2
      exact ⟨rfl, by assumption⟩

set_option maxHeartbeats 4000000 in
theorem Birthday_yes (d n : Int) (w : World) (h : bdB d n = true) :
    Calls Try.prog 27 #[.int .i64 d, .int .i64 n] w fun e w' => e = .returned (.tuple #[.int .i64 (bdN d n), .bool true]) ∧ Below w.heap.size w w' := by
  obtain ⟨hv, h0, h1⟩ := (bdB_iff d n).1 h
  obtain ⟨y0, y1, m0, m1, d0, d1⟩ := date_bd hv
  have hfin := Lib.hid (bdN_yes h)
  have hdate := Lib.hid (bd_date h)
  clear h
  by_cases q1 : dM d = 2
  · by_cases q2 : dD d = 29
    · cases hl : leapB (dY d + n)
      · have hm : movedB d n = true := by simp [movedB, q1, q2, hl]
        obtain ⟨e1, e2⟩ := moved_yes hm
        rw [e1, e2] at hfin hdate
        have t1 : (dM d == 2) = true := by simpa using q1
        have t2 : (dD d == 29) = true := by simpa using q2
        clear hm e1 e2 q1 q2
        go_enter Try.func27, Try.ntmps27
        go_wp2_with (first | (go_at_call 25; refine (Date_any _ _).mono ?_; rintro e w1 ⟨rfl, hb1⟩) | (go_at_call 50; refine (leap_any _ _ (by omega) (by omega)).mono ?_; rintro e w1 ⟨rfl, rfl⟩) | (go_at_call 18; refine (Day_any _ _ _ _).mono ?_; rintro e w1 ⟨rfl, hb2⟩))
        go_ret2
        exact ⟨ret_ib hfin.out.symm hdate.out, below_seq (by assumption) hb2⟩
      · have hm : movedB d n = false := by simp [movedB, hl]
        obtain ⟨e1, e2⟩ := moved_no hm
        rw [e1, e2] at hfin hdate
        have t1 : (dM d == 2) = true := by simpa using q1
        have t2 : (dD d == 29) = true := by simpa using q2
        clear hm e1 e2 q1 q2
        go_enter Try.func27, Try.ntmps27
        go_wp2_with (first | (go_at_call 25; refine (Date_any _ _).mono ?_; rintro e w1 ⟨rfl, hb1⟩) | (go_at_call 50; refine (leap_any _ _ (by omega) (by omega)).mono ?_; rintro e w1 ⟨rfl, rfl⟩) | (go_at_call 18; refine (Day_any _ _ _ _).mono ?_; rintro e w1 ⟨rfl, hb2⟩))
        go_ret2
        exact ⟨ret_ib hfin.out.symm hdate.out, below_seq (by assumption) hb2⟩
    · have hm : movedB d n = false := by simp [movedB, q2]
      obtain ⟨e1, e2⟩ := moved_no hm
      rw [e1, e2] at hfin hdate
      have t1 : (dM d == 2) = true := by simpa using q1
      have t2 : (dD d == 29) = false := by simpa using q2
      clear hm e1 e2 q1 q2
      go_enter Try.func27, Try.ntmps27
      go_wp2_with (first | (go_at_call 25; refine (Date_any _ _).mono ?_; rintro e w1 ⟨rfl, hb1⟩) | (go_at_call 50; refine (leap_any _ _ (by omega) (by omega)).mono ?_; rintro e w1 ⟨rfl, rfl⟩) | (go_at_call 18; refine (Day_any _ _ _ _).mono ?_; rintro e w1 ⟨rfl, hb2⟩))
      go_ret2
      exact ⟨ret_ib hfin.out.symm hdate.out, below_seq (by assumption) hb2⟩
  · have hm : movedB d n = false := by simp [movedB, q1]
    obtain ⟨e1, e2⟩ := moved_no hm
    rw [e1, e2] at hfin hdate
    have t1 : (dM d == 2) = false := by simpa using q1
    clear hm e1 e2 q1
    go_enter Try.func27, Try.ntmps27
    go_wp2_with (first | (go_at_call 25; refine (Date_any _ _).mono ?_; rintro e w1 ⟨rfl, hb1⟩) | (go_at_call 50; refine (leap_any _ _ (by omega) (by omega)).mono ?_; rintro e w1 ⟨rfl, rfl⟩) | (go_at_call 18; refine (Day_any _ _ _ _).mono ?_; rintro e w1 ⟨rfl, hb2⟩))
    go_ret2
    exact ⟨ret_ib hfin.out.symm hdate.out, below_seq (by assumption) hb2⟩

theorem Birthday_any (d n : Int) (w : World) (hn0 : -9223372036854775808 ≤ n) (hn1 : n ≤ 9223372036854775807) :
    Calls Try.prog 27 #[.int .i64 d, .int .i64 n] w fun e w' => e = .returned (.tuple #[.int .i64 (bdN d n), .bool (bdB d n)]) ∧ Below w.heap.size w w' := by
  cases h : bdB d n
  · refine (Birthday_no d n w hn0 hn1 h).mono ?_
    rintro e w' ⟨rfl, hb⟩
    exact ⟨ret_ib (bdN_no h).symm rfl, hb⟩
  · exact Birthday_yes d n w h

set_option maxHeartbeats 1000000 in
theorem RBirthday_no (d n : Int) (w : World) (h : bdB d n = false) :
    Calls Try.prog 28 #[.int .i64 d, .int .i64 n] w fun e w' => e = .returned (.tuple #[.int .i64 0, .bool false]) ∧ w = w' := by
  cases hv : vdayB d
  · clear h
    go_enter Try.func28, Try.ntmps28
    go_wp2_with (go_at_call 26; refine (RDate_any _ _).mono ?_; rintro e w1 ⟨rfl, rfl⟩)
    go_ret2
    exact ⟨rfl, rfl⟩
  · obtain ⟨y0, y1, _⟩ := date_bd hv
    by_cases h1 : n < 0
    · clear h
      go_enter Try.func28, Try.ntmps28
      go_wp2_with (go_at_call 26; refine (RDate_any _ _).mono ?_; rintro e w1 ⟨rfl, rfl⟩)
      go_ret2
      exact ⟨rfl, rfl⟩
    by_cases h3 : 200 < n
    · clear h
      go_enter Try.func28, Try.ntmps28
      go_wp2_with (go_at_call 26; refine (RDate_any _ _).mono ?_; rintro e w1 ⟨rfl, rfl⟩)
      go_ret2
      exact ⟨rfl, rfl⟩
    · have h2 : 2099 < dY d + n := by
        simp [bdB, hv] at h; omega
      clear h
      go_enter Try.func28, Try.ntmps28
      go_wp2_with (go_at_call 26; refine (RDate_any _ _).mono ?_; rintro e w1 ⟨rfl, rfl⟩)
      go_ret2
      exact ⟨rfl, rfl⟩

set_option maxHeartbeats 4000000 in
theorem RBirthday_yes (d n : Int) (w : World) (h : bdB d n = true) :
    Calls Try.prog 28 #[.int .i64 d, .int .i64 n] w fun e w' => e = .returned (.tuple #[.int .i64 (bdN d n), .bool true]) ∧ w = w' := by
  obtain ⟨hv, h0, h1⟩ := (bdB_iff d n).1 h
  obtain ⟨y0, y1, m0, m1, d0, d1⟩ := date_bd hv
  have hfin := Lib.hid (bdN_yes h)
  have hdate := Lib.hid (bd_date h)
  clear h
  by_cases q1 : dM d = 2
  · by_cases q2 : dD d = 29
    · cases hl : leapB (dY d + n)
      · have hm : movedB d n = true := by simp [movedB, q1, q2, hl]
        obtain ⟨e1, e2⟩ := moved_yes hm
        rw [e1, e2] at hfin hdate
        have t1 : (dM d == 2) = true := by simpa using q1
        have t2 : (dD d == 29) = true := by simpa using q2
        clear hm e1 e2 q1 q2
        go_enter Try.func28, Try.ntmps28
        go_wp2_with (first | (go_at_call 26; refine (RDate_any _ _).mono ?_; rintro e w1 ⟨rfl, rfl⟩) | (go_at_call 51; refine (rleap_any _ _ (by omega) (by omega)).mono ?_; rintro e w1 ⟨rfl, rfl⟩) | (go_at_call 19; refine (RDay_any _ _ _ _).mono ?_; rintro e w1 ⟨rfl, rfl⟩))
        go_ret2
        exact ⟨ret_ib hfin.out.symm hdate.out, rfl⟩
      · have hm : movedB d n = false := by simp [movedB, hl]
        obtain ⟨e1, e2⟩ := moved_no hm
        rw [e1, e2] at hfin hdate
        have t1 : (dM d == 2) = true := by simpa using q1
        have t2 : (dD d == 29) = true := by simpa using q2
        clear hm e1 e2 q1 q2
        go_enter Try.func28, Try.ntmps28
        go_wp2_with (first | (go_at_call 26; refine (RDate_any _ _).mono ?_; rintro e w1 ⟨rfl, rfl⟩) | (go_at_call 51; refine (rleap_any _ _ (by omega) (by omega)).mono ?_; rintro e w1 ⟨rfl, rfl⟩) | (go_at_call 19; refine (RDay_any _ _ _ _).mono ?_; rintro e w1 ⟨rfl, rfl⟩))
        go_ret2
        exact ⟨ret_ib hfin.out.symm hdate.out, rfl⟩
    · have hm : movedB d n = false := by simp [movedB, q2]
      obtain ⟨e1, e2⟩ := moved_no hm
      rw [e1, e2] at hfin hdate
      have t1 : (dM d == 2) = true := by simpa using q1
      have t2 : (dD d == 29) = false := by simpa using q2
      clear hm e1 e2 q1 q2
      go_enter Try.func28, Try.ntmps28
      go_wp2_with (first | (go_at_call 26; refine (RDate_any _ _).mono ?_; rintro e w1 ⟨rfl, rfl⟩) | (go_at_call 51; refine (rleap_any _ _ (by omega) (by omega)).mono ?_; rintro e w1 ⟨rfl, rfl⟩) | (go_at_call 19; refine (RDay_any _ _ _ _).mono ?_; rintro e w1 ⟨rfl, rfl⟩))
      go_ret2
      exact ⟨ret_ib hfin.out.symm hdate.out, rfl⟩
  · have hm : movedB d n = false := by simp [movedB, q1]
    obtain ⟨e1, e2⟩ := moved_no hm
    rw [e1, e2] at hfin hdate
    have t1 : (dM d == 2) = false := by simpa using q1
    clear hm e1 e2 q1
    go_enter Try.func28, Try.ntmps28
    go_wp2_with (first | (go_at_call 26; refine (RDate_any _ _).mono ?_; rintro e w1 ⟨rfl, rfl⟩) | (go_at_call 51; refine (rleap_any _ _ (by omega) (by omega)).mono ?_; rintro e w1 ⟨rfl, rfl⟩) | (go_at_call 19; refine (RDay_any _ _ _ _).mono ?_; rintro e w1 ⟨rfl, rfl⟩))
    go_ret2
    exact ⟨ret_ib hfin.out.symm hdate.out, rfl⟩

theorem RBirthday_any (d n : Int) (w : World) :
    Calls Try.prog 28 #[.int .i64 d, .int .i64 n] w fun e w' => e = .returned (.tuple #[.int .i64 (bdN d n), .bool (bdB d n)]) ∧ w = w' := by
  cases h : bdB d n
  · refine (RBirthday_no d n w h).mono ?_
    rintro e w' ⟨rfl, hb⟩
    exact ⟨ret_ib (bdN_no h).symm rfl, hb⟩
  · exact RBirthday_yes d n w h


end Go.Proofs.Ytddgobjblbhlbaa

/- Contracts of AddMonths, Birthday and Age of the calendar and of the reference. No conditions but those printed. -/
import Derived.Test.YtddgobjblbhlbaaCalE
namespace Go.Proofs.Ytddgobjblbhlbaa
open Go.RowKit Cal

/-- May n months be added to day d? -/
def addB (d n : Int) : Bool := vdayB d && (decide (-2399 ≤ n) && decide (n ≤ 2399))
/-- Is there a day n months behind day d? -/
noncomputable def addOkB (d n : Int) : Bool := addB d n && vmonB (monI d + n)
/-- That day; 0 where there is none. -/
noncomputable def addN (d n : Int) : Int := if addOkB d n = true then mstN (monI d + n) + min (dD d) (mdyN (monI d + n)) - 1 else 0
theorem addN_no {d n : Int} (h : addOkB d n = false) : addN d n = 0 := by unfold addN; rw [if_neg (by simp [h])]
theorem addN_yes {d n : Int} (h : addOkB d n = true) : addN d n = mstN (monI d + n) + min (dD d) (mdyN (monI d + n)) - 1 := by unfold addN; rw [if_pos h]

set_option maxHeartbeats 1000000 in
theorem AddMonths_no (d n : Int) (w : World) (h : addB d n = false) :
    Calls Try.prog 37 #[.int .i64 d, .int .i64 n] w fun e w' => e = .returned (.tuple #[.int .i64 0, .bool false]) ∧ Below w.heap.size w w' := by
  cases hv : vdayB d
  · clear h
    go_enter Try.func37, Try.ntmps37
    go_wp2_with (go_at_call 25; refine (Date_any _ _).mono ?_; rintro e w1 ⟨rfl, hb1⟩)
    go_ret2
    exact ⟨rfl, by assumption⟩
  · by_cases h1 : 2399 < n
    · clear h
      go_enter Try.func37, Try.ntmps37
      go_wp2_with (go_at_call 25; refine (Date_any _ _).mono ?_; rintro e w1 ⟨rfl, hb1⟩)
      go_ret2
      exact ⟨rfl, by assumption⟩
    · have h2 : n < -2399 := by
        simp [addB, hv] at h; omega
      clear h
      go_enter Try.func37, Try.ntmps37
      go_wp2_with (go_at_call 25; refine (Date_any _ _).mono ?_; rintro e w1 ⟨rfl, hb1⟩)
      go_ret2
      exact ⟨rfl, by assumption⟩

set_option maxHeartbeats 1000000 in
theorem AddMonths_yes (d n : Int) (w : World) (hv : vdayB d = true) (h0 : -2399 ≤ n) (h1 : n ≤ 2399) :
    Calls Try.prog 37 #[.int .i64 d, .int .i64 n] w fun e w' => e = .returned (.tuple #[.int .i64 (addN d n), .bool (addOkB d n)]) ∧ Below w.heap.size w w' := by
  have hadd : addB d n = true := by simp [addB, hv, h0, h1]
  obtain ⟨m0, m1⟩ := monI_bd d
  obtain ⟨s0, s1⟩ := mst_bd (monI d + n)
  obtain ⟨l0, l1⟩ := mdy_bd (monI d + n)
  obtain ⟨_, _, _, _, t0, t1⟩ := date_bd hv
  have t2 := mlen_bd (dY d) (dM d)
  cases hm : vmonB (monI d + n)
  · have hok : addOkB d n = false := by simp [addOkB, hadd, hm]
    have hfin := Lib.hid (addN_no hok)
    have hO := Lib.hid hok
    clear hok hadd
    go_enter Try.func37, Try.ntmps37
    go_wp2_with (first | (go_at_call 25; refine (Date_any _ _).mono ?_; rintro e w1 ⟨rfl, hb1⟩) | (go_at_call 31; refine (Month_any _ _).mono ?_; rintro e w1 ⟨rfl, hb2⟩) | (go_at_call 29; refine (MonthStart_any _ _).mono ?_; rintro e w1 ⟨rfl, hb3⟩))
    go_ret2
    exact ⟨ret_ib hfin.out.symm hO.out.symm, below_seq (below_seq (by assumption) (by assumption)) hb3⟩
  · have hok : addOkB d n = true := by simp [addOkB, hadd, hm]
    have hfin := Lib.hid (addN_yes hok)
    have hO := Lib.hid hok
    clear hok hadd
    go_enter Try.func37, Try.ntmps37
    go_wp2_with (first | (go_at_call 25; refine (Date_any _ _).mono ?_; rintro e w1 ⟨rfl, hb1⟩) | (go_at_call 31; refine (Month_any _ _).mono ?_; rintro e w1 ⟨rfl, hb2⟩) | (go_at_call 29; refine (MonthStart_any _ _).mono ?_; rintro e w1 ⟨rfl, hb3⟩) | (go_at_call 33; refine (MonthDays_any _ _).mono ?_; rintro e w1 ⟨rfl, hb4⟩))
    all_goals
      go_ret2
      exact ⟨ret_ib (by rw [hfin.out]; omega) hO.out.symm, below_seq (below_seq (below_seq (by assumption) (by assumption)) (by assumption)) hb4⟩

theorem AddMonths_any (d n : Int) (w : World) :
    Calls Try.prog 37 #[.int .i64 d, .int .i64 n] w fun e w' => e = .returned (.tuple #[.int .i64 (addN d n), .bool (addOkB d n)]) ∧ Below w.heap.size w w' := by
  cases h : addB d n
  · refine (AddMonths_no d n w h).mono ?_
    rintro e w' ⟨rfl, hb⟩
    have hok : addOkB d n = false := by simp [addOkB, h]
    exact ⟨ret_ib (addN_no hok).symm hok.symm, hb⟩
  · simp [addB] at h
    exact AddMonths_yes d n w h.1 h.2.1 h.2.2

set_option maxHeartbeats 1000000 in
theorem RAddMonths_no (d n : Int) (w : World) (h : addB d n = false) :
    Calls Try.prog 38 #[.int .i64 d, .int .i64 n] w fun e w' => e = .returned (.tuple #[.int .i64 0, .bool false]) ∧ w = w' := by
  cases hv : vdayB d
  · clear h
    go_enter Try.func38, Try.ntmps38
    go_wp2_with (go_at_call 47; refine (ValidDay_any _ _).mono ?_; rintro e w1 ⟨rfl, rfl⟩)
    go_ret2
    exact ⟨rfl, rfl⟩
  · by_cases h1 : n < -2399
    · clear h
      go_enter Try.func38, Try.ntmps38
      go_wp2_with (go_at_call 47; refine (ValidDay_any _ _).mono ?_; rintro e w1 ⟨rfl, rfl⟩)
      go_ret2
      exact ⟨rfl, rfl⟩
    · have h2 : 2399 < n := by
        simp [addB, hv] at h; omega
      clear h
      go_enter Try.func38, Try.ntmps38
      go_wp2_with (go_at_call 47; refine (ValidDay_any _ _).mono ?_; rintro e w1 ⟨rfl, rfl⟩)
      go_ret2
      exact ⟨rfl, rfl⟩

set_option maxHeartbeats 1000000 in
theorem RAddMonths_yes (d n : Int) (w : World) (hv : vdayB d = true) (h0 : -2399 ≤ n) (h1 : n ≤ 2399) :
    Calls Try.prog 38 #[.int .i64 d, .int .i64 n] w fun e w' => e = .returned (.tuple #[.int .i64 (addN d n), .bool (addOkB d n)]) ∧ w = w' := by
  have hadd : addB d n = true := by simp [addB, hv, h0, h1]
  have hmon := monI_yes hv
  have hdd := Lib.hid (dD_yes hv)
  obtain ⟨m0, m1⟩ := monI_bd d
  obtain ⟨l0, l1⟩ := mdy_bd (monI d + n)
  obtain ⟨_, _, _, _, t0, t1⟩ := date_bd hv
  have t2 := mlen_bd (dY d) (dM d)
  have r0 : 0 ≤ d - msum (monOf d) := by have := hdd.out; omega
  have r1 : d - msum (monOf d) ≤ 30 := by have := hdd.out; omega
  cases hm : vmonB (monI d + n)
  · have hok : addOkB d n = false := by simp [addOkB, hadd, hm]
    have hfin := Lib.hid (addN_no hok)
    have hO := Lib.hid hok
    rw [hmon] at hm m0 m1
    clear hok hadd hmon
    go_enter Try.func38, Try.ntmps38
    go_wp2_with (first | (go_at_call 47; refine (ValidDay_any _ _).mono ?_; rintro e w1 ⟨rfl, rfl⟩) | (go_at_call 49; refine (monthAt_any _ _ hv).mono ?_; rintro e w1 ⟨rfl, rfl⟩) | (go_at_call 53; refine (ValidMonth_any _ _).mono ?_; rintro e w1 ⟨rfl, rfl⟩))
    go_ret2
    exact ⟨ret_ib hfin.out.symm hO.out.symm, rfl⟩
  · have hok : addOkB d n = true := by simp [addOkB, hadd, hm]
    have hfin := Lib.hid (addN_yes hok)
    have hmst := Lib.hid (mstN_yes hm)
    have hO := Lib.hid hok
    have hv2 := (vmonB_iff _).1 hm
    have b3 := msum_bd (monI d + n).toNat
    rw [hmon] at hm m0 m1 hmst hfin l0 l1 hv2 b3
    obtain ⟨x0, x1⟩ := hv2
    clear hok hadd hmon
    go_enter Try.func38, Try.ntmps38
    go_wp2_with (first | (go_at_call 47; refine (ValidDay_any _ _).mono ?_; rintro e w1 ⟨rfl, rfl⟩) | (go_at_call 49; refine (monthAt_any _ _ hv).mono ?_; rintro e w1 ⟨rfl, rfl⟩) | (go_at_call 53; refine (ValidMonth_any _ _).mono ?_; rintro e w1 ⟨rfl, rfl⟩) | (go_at_call 46; refine (start_any _ _ (by omega) (by omega)).mono ?_; rintro e w1 ⟨rfl, rfl⟩) | (go_at_call 34; refine (RMonthDays_any _ _).mono ?_; rintro e w1 ⟨rfl, rfl⟩))
    all_goals
      go_ret2
      exact ⟨ret_ib (by rw [hfin.out, hmst.out, hdd.out]; omega) hO.out.symm, rfl⟩

theorem RAddMonths_any (d n : Int) (w : World) :
    Calls Try.prog 38 #[.int .i64 d, .int .i64 n] w fun e w' => e = .returned (.tuple #[.int .i64 (addN d n), .bool (addOkB d n)]) ∧ w = w' := by
  cases h : addB d n
  · refine (RAddMonths_no d n w h).mono ?_
    rintro e w' ⟨rfl, hb⟩
    have hok : addOkB d n = false := by simp [addOkB, h]
    exact ⟨ret_ib (addN_no hok).symm hok.symm, hb⟩
  · simp [addB] at h
    exact RAddMonths_yes d n w h.1 h.2.1 h.2.2

/-- Has somebody born on day d an n-th birthday? -/
noncomputable def bdB (d n : Int) : Bool := vdayB d && (decide (0 ≤ n) && decide (n ≤ 2099 - dY d))
/-- Is it moved to the first of March? -/
noncomputable def movedB (d n : Int) : Bool := decide (dM d = 2 ∧ dD d = 29) && !leapB (dY d + n)
noncomputable def bdM (d n : Int) : Int := if movedB d n = true then 3 else dM d
noncomputable def bdD (d n : Int) : Int := if movedB d n = true then 1 else dD d
/-- The n-th birthday; 0 where there is none. -/
noncomputable def bdN (d n : Int) : Int := if bdB d n = true then dayN (dY d + n) (bdM d n) (bdD d n) else 0
theorem bdN_no {d n : Int} (h : bdB d n = false) : bdN d n = 0 := by unfold bdN; rw [if_neg (by simp [h])]
theorem bdN_yes {d n : Int} (h : bdB d n = true) : bdN d n = dayN (dY d + n) (bdM d n) (bdD d n) := by unfold bdN; rw [if_pos h]
theorem bdB_iff (d n : Int) : bdB d n = true ↔ (vdayB d = true ∧ 0 ≤ n ∧ n ≤ 2099 - dY d) := by unfold bdB; simp
theorem moved_no {d n : Int} (h : movedB d n = false) : bdM d n = dM d ∧ bdD d n = dD d := by unfold bdM bdD; simp [h]
theorem moved_yes {d n : Int} (h : movedB d n = true) : bdM d n = 3 ∧ bdD d n = 1 := by unfold bdM bdD; simp [h]

theorem bd_date {d n : Int} (h : bdB d n = true) : dateB (dY d + n) (bdM d n) (bdD d n) = true := by
  obtain ⟨hv, h0, h1⟩ := (bdB_iff d n).1 h
  obtain ⟨a0, a1, a2, a3, a4, a5⟩ := date_bd hv
  refine (dateB_iff _ _ _).2 ?_
  cases hm : movedB d n
  · obtain ⟨e1, e2⟩ := moved_no hm
    rw [e1, e2]
    refine ⟨by omega, by omega, a2, a3, a4, ?_⟩
    unfold mlen at a5 ⊢
    by_cases h2 : dM d = 2
    · rw [if_pos h2] at a5 ⊢
      by_cases hl : leapB (dY d + n) = true
      · rw [if_pos hl]; split at a5 <;> omega
      · rw [if_neg hl]
        have hl' : leapB (dY d + n) = false := by simpa using hl
        simp [movedB, hl', h2] at hm
        split at a5 <;> omega
    · rw [if_neg h2] at a5 ⊢; exact a5
  · obtain ⟨e1, e2⟩ := moved_yes hm
    rw [e1, e2]
    have : mlen (dY d + n) 3 = 31 := mlen_31 _ _ (by omega)
    omega

end Go.Proofs.Ytddgobjblbhlbaa

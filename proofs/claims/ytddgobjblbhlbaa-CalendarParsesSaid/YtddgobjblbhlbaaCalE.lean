/- Contracts of Month, MonthStart, MonthDays, Weekday, AddMonths, Birthday of the calendar and of the reference. No conditions but those printed. -/
import Derived.Test.YtddgobjblbhlbaaCalD
namespace Go.Proofs.Ytddgobjblbhlbaa
open Go.RowKit Cal

/-- The month of a day; -1 where d is no day. -/
noncomputable def monI (d : Int) : Int := if vdayB d = true then (monOf d : Int) else -1
theorem monI_no {d : Int} (h : vdayB d = false) : monI d = -1 := by unfold monI; rw [if_neg (by simp [h])]
theorem monI_yes {d : Int} (h : vdayB d = true) : monI d = (monOf d : Int) := by unfold monI; rw [if_pos h]
theorem monI_date {d : Int} (h : vdayB d = true) : 12 * (dY d - 1900) + dM d - 1 = monI d := by
  rw [monI_yes h, dY_yes h, dM_yes h]; omega
theorem monI_bd (d : Int) : -1 ≤ monI d ∧ monI d ≤ 2399 := by
  cases h : vdayB d
  · rw [monI_no h]; omega
  · rw [monI_yes h]; have := monOf_spec d h; omega

set_option maxHeartbeats 1000000 in
theorem Month_any (d : Int) (w : World) :
    Calls Try.prog 31 #[.int .i64 d] w fun e w' => e = .returned (.int .i64 (monI d)) ∧ Below w.heap.size w w' := by
  cases h : vdayB d
  · go_enter Try.func31, Try.ntmps31
    go_wp2_with (go_at_call 25; refine (Date_any _ _).mono ?_; rintro e w1 ⟨rfl, hb⟩)
    go_ret
    exact ⟨ret_i (monI_no h).symm, by assumption⟩
  · have hd := date_bd h
    have hfin := Lib.hid (monI_date h)
    go_enter Try.func31, Try.ntmps31
    go_wp2_with (go_at_call 25; refine (Date_any _ _).mono ?_; rintro e w1 ⟨rfl, hb⟩)
    go_ret
    exact ⟨ret_i hfin.out, by assumption⟩

set_option maxHeartbeats 1000000 in
theorem RMonth_any (d : Int) (w : World) :
    Calls Try.prog 32 #[.int .i64 d] w fun e w' => e = .returned (.int .i64 (monI d)) ∧ w = w' := by
  cases h : vdayB d
  · go_enter Try.func32, Try.ntmps32
    go_wp2_with (go_at_call 47; refine (ValidDay_any _ _).mono ?_; rintro e w1 ⟨rfl, rfl⟩)
    go_ret
    exact ⟨ret_i (monI_no h).symm, rfl⟩
  · have hfin := Lib.hid (monI_yes h)
    go_enter Try.func32, Try.ntmps32
    go_wp2_with (first | (go_at_call 47; refine (ValidDay_any _ _).mono ?_; rintro e w1 ⟨rfl, rfl⟩) | (go_at_call 49; refine (monthAt_any _ _ h).mono ?_; rintro e w1 ⟨rfl, rfl⟩))
    go_ret
    exact ⟨ret_i hfin.out.symm, rfl⟩

theorem vmonB_iff (m : Int) : vmonB m = true ↔ (0 ≤ m ∧ m ≤ 2399) := by unfold vmonB; simp
/-- The first day of a month; 0 where m is no month. -/
def mstN (m : Int) : Int := if vmonB m = true then msum m.toNat else 0
theorem mstN_no {m : Int} (h : vmonB m = false) : mstN m = 0 := by unfold mstN; rw [if_neg (by simp [h])]
theorem mstN_yes {m : Int} (h : vmonB m = true) : mstN m = msum m.toNat := by unfold mstN; rw [if_pos h]
/-- The days of a month; 0 where m is no month. -/
def mdyN (m : Int) : Int := if vmonB m = true then nlen m.toNat else 0
theorem mdyN_no {m : Int} (h : vmonB m = false) : mdyN m = 0 := by unfold mdyN; rw [if_neg (by simp [h])]
theorem mdyN_yes {m : Int} (h : vmonB m = true) : mdyN m = nlen m.toNat := by unfold mdyN; rw [if_pos h]
theorem mst_date {m : Int} (h : vmonB m = true) : dateB (1900 + m / 12) (m % 12 + 1) 1 = true ∧ dayN (1900 + m / 12) (m % 12 + 1) 1 = mstN m := by
  have hm := (vmonB_iff m).1 h
  have b := nlen_bd (12 * (m.toNat / 12) + m.toNat % 12)
  have e := dayN_msum (m.toNat / 12) (m.toNat % 12) 1 (by omega) (by omega) (by omega) (by omega)
  rw [show (1900 : Int) + ((m.toNat / 12 : Nat) : Int) = 1900 + m / 12 by omega, show ((m.toNat % 12 : Nat) : Int) + 1 = m % 12 + 1 by omega] at e
  refine ⟨e.1, ?_⟩
  rw [e.2, mstN_yes h, show 12 * (m.toNat / 12) + m.toNat % 12 = m.toNat by omega]; omega
theorem nlen_int {m : Int} (h : vmonB m = true) : mlen (1900 + m / 12) (m % 12 + 1) = mdyN m := by
  have hm := (vmonB_iff m).1 h
  rw [mdyN_yes h, ← nlen_cast, show ((m.toNat : Nat) : Int) = m by omega]
theorem mst_bd (m : Int) : 0 ≤ mstN m ∧ mstN m ≤ 80000 := by
  cases h : vmonB m
  · rw [mstN_no h]; omega
  · rw [mstN_yes h]; have := (vmonB_iff m).1 h; have := msum_bd m.toNat; omega
theorem mdy_bd (m : Int) : 0 ≤ mdyN m ∧ mdyN m ≤ 31 := by
  cases h : vmonB m
  · rw [mdyN_no h]; omega
  · rw [mdyN_yes h]; have := nlen_bd m.toNat; omega

set_option maxHeartbeats 1000000 in
theorem MonthStart_any (m : Int) (w : World) :
    Calls Try.prog 29 #[.int .i64 m] w fun e w' => e = .returned (.tuple #[.int .i64 (mstN m), .bool (vmonB m)]) ∧ Below w.heap.size w w' := by
  cases h : vmonB m
  · go_enter Try.func29, Try.ntmps29
    go_wp2_with (go_at_call 52; refine (validMonth_any _ _).mono ?_; rintro e w1 ⟨rfl, rfl⟩)
    go_ret2
    exact ⟨ret_ib (mstN_no h).symm rfl, Below.refl _ _⟩
  · have hm := (vmonB_iff m).1 h
    have hfin := Lib.hid (mst_date h)
    obtain ⟨hm0, hm1⟩ := hm
    go_enter Try.func29, Try.ntmps29
    go_wp2_with (first | (go_at_call 52; refine (validMonth_any _ _).mono ?_; rintro e w1 ⟨rfl, rfl⟩) | (go_at_call 18; refine (Day_any _ _ _ _).mono ?_; rintro e w1 ⟨rfl, hb⟩))
    go_ret2
    exact ⟨ret_ib hfin.out.2 hfin.out.1, by assumption⟩

set_option maxHeartbeats 1000000 in
theorem RMonthStart_any (m : Int) (w : World) :
    Calls Try.prog 30 #[.int .i64 m] w fun e w' => e = .returned (.tuple #[.int .i64 (mstN m), .bool (vmonB m)]) ∧ w = w' := by
  cases h : vmonB m
  · go_enter Try.func30, Try.ntmps30
    go_wp2_with (go_at_call 53; refine (ValidMonth_any _ _).mono ?_; rintro e w1 ⟨rfl, rfl⟩)
    go_ret2
    exact ⟨ret_ib (mstN_no h).symm rfl, rfl⟩
  · have hm := (vmonB_iff m).1 h
    have hfin := Lib.hid (mstN_yes h)
    obtain ⟨hm0, hm1⟩ := hm
    go_enter Try.func30, Try.ntmps30
    go_wp2_with (first | (go_at_call 53; refine (ValidMonth_any _ _).mono ?_; rintro e w1 ⟨rfl, rfl⟩) | (go_at_call 46; refine (start_any _ _ (by omega) (by omega)).mono ?_; rintro e w1 ⟨rfl, rfl⟩))
    go_ret2
    exact ⟨ret_ib hfin.out.symm rfl, rfl⟩

set_option maxHeartbeats 1000000 in
theorem MonthDays_any (m : Int) (w : World) :
    Calls Try.prog 33 #[.int .i64 m] w fun e w' => e = .returned (.int .i64 (mdyN m)) ∧ Below w.heap.size w w' := by
  cases h : vmonB m
  · go_enter Try.func33, Try.ntmps33
    go_wp2_with (go_at_call 52; refine (validMonth_any _ _).mono ?_; rintro e w1 ⟨rfl, rfl⟩)
    go_ret
    exact ⟨ret_i (mdyN_no h).symm, Below.refl _ _⟩
  · have hm := (vmonB_iff m).1 h
    have hfin := Lib.hid (nlen_int h)
    obtain ⟨hm0, hm1⟩ := hm
    go_enter Try.func33, Try.ntmps33
    go_wp2_with (first | (go_at_call 52; refine (validMonth_any _ _).mono ?_; rintro e w1 ⟨rfl, rfl⟩) | (go_at_call 43; refine (monthLength_any _ _ _ (by omega) (by omega) (by omega) (by omega)).mono ?_; rintro e w1 ⟨rfl, hb⟩))
    go_ret
    exact ⟨ret_i hfin.out, by assumption⟩

set_option maxHeartbeats 1000000 in
theorem RMonthDays_any (m : Int) (w : World) :
    Calls Try.prog 34 #[.int .i64 m] w fun e w' => e = .returned (.int .i64 (mdyN m)) ∧ w = w' := by
  cases h : vmonB m
  · go_enter Try.func34, Try.ntmps34
    go_wp2_with (go_at_call 53; refine (ValidMonth_any _ _).mono ?_; rintro e w1 ⟨rfl, rfl⟩)
    go_ret
    exact ⟨ret_i (mdyN_no h).symm, rfl⟩
  · have hm := (vmonB_iff m).1 h
    have hfin := Lib.hid (nlen_int h)
    obtain ⟨hm0, hm1⟩ := hm
    go_enter Try.func34, Try.ntmps34
    go_wp2_with (first | (go_at_call 53; refine (ValidMonth_any _ _).mono ?_; rintro e w1 ⟨rfl, rfl⟩) | (go_at_call 45; refine (rlength_any _ _ _ (by omega) (by omega) (by omega) (by omega)).mono ?_; rintro e w1 ⟨rfl, rfl⟩))
    go_ret
    exact ⟨ret_i hfin.out, rfl⟩

/-- The weekday of a day; -1 where d is no day. -/
def wkdN (d : Int) : Int := if vdayB d = true then d % 7 else -1
theorem wkdN_no {d : Int} (h : vdayB d = false) : wkdN d = -1 := by unfold wkdN; rw [if_neg (by simp [h])]
theorem wkdN_yes {d : Int} (h : vdayB d = true) : wkdN d = d % 7 := by unfold wkdN; rw [if_pos h]

set_option maxHeartbeats 1000000 in
theorem Weekday_any (d : Int) (w : World) :
    Calls Try.prog 22 #[.int .i64 d] w fun e w' => e = .returned (.int .i64 (wkdN d)) ∧ w = w' := by
  cases h : vdayB d
  · go_enter Try.func22, Try.ntmps22
    go_wp2_with (go_at_call 24; refine (Valid_any _ _).mono ?_; rintro e w1 ⟨rfl, rfl⟩)
    go_ret
    exact ⟨ret_i (wkdN_no h).symm, rfl⟩
  · have hm := (vdayB_iff d).1 h
    have hfin := Lib.hid (wkdN_yes h)
    obtain ⟨hm0, hm1⟩ := hm
    go_enter Try.func22, Try.ntmps22
    go_wp2_with (go_at_call 24; refine (Valid_any _ _).mono ?_; rintro e w1 ⟨rfl, rfl⟩)
    go_ret
    exact ⟨ret_i hfin.out.symm, rfl⟩

set_option maxHeartbeats 1000000 in
theorem RWeekday_any (d : Int) (w : World) :
    Calls Try.prog 23 #[.int .i64 d] w fun e w' => e = .returned (.int .i64 (wkdN d)) ∧ w = w' := by
  cases h : vdayB d
  · go_enter Try.func23, Try.ntmps23
    go_wp2_with (go_at_call 47; refine (ValidDay_any _ _).mono ?_; rintro e w1 ⟨rfl, rfl⟩)
    go_ret
    exact ⟨ret_i (wkdN_no h).symm, rfl⟩
  · have hm := (vdayB_iff d).1 h
    have hfin := Lib.hid (wkdN_yes h)
    obtain ⟨hm0, hm1⟩ := hm
    go_enter Try.func23, Try.ntmps23
    go_wp2_with (go_at_call 47; refine (ValidDay_any _ _).mono ?_; rintro e w1 ⟨rfl, rfl⟩)
    go_ret
    exact ⟨ret_i hfin.out.symm, rfl⟩

theorem awake_facts : dateB 2000 2 29 = true ∧ dayN 2000 2 29 = 36583 := by decide

set_option maxHeartbeats 1000000 in
theorem awake_any (w : World) :
    Calls Try.prog 20 #[] w fun e w' => e = .returned (.bool true) ∧ Below w.heap.size w w' := by
  obtain ⟨h1, h2⟩ := awake_facts
  go_enter Try.func20, Try.ntmps20
  go_wp2_with (go_at_call 18; refine (Day_any _ _ _ _).mono ?_; rintro e w1 ⟨rfl, hb⟩)
  go_ret
  exact ⟨rfl, by assumption⟩

end Go.Proofs.Ytddgobjblbhlbaa

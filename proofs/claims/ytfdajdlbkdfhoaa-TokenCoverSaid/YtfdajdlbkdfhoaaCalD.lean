/- Contracts of Day, Date, Month, MonthStart, MonthDays and Weekday of the calendar and of the reference. No conditions but those printed. -/
import Derived.Test.YtfdajdlbkdfhoaaCalC
namespace Go.Proofs.Ytfdajdlbkdfhoaa
open Go.RowKit Cal

theorem below_seq {w w1 w2 : World} (h : Below w.heap.size w w1) (h2 : Below w1.heap.size w1 w2) : Below w.heap.size w w2 := h.trans (h2.mono h.size)

set_option maxHeartbeats 1000000 in
theorem RDay_no (y m d : Int) (w : World) (h : dateB y m d = false) :
    Calls Try.prog 39 #[.int .i64 y, .int .i64 m, .int .i64 d] w fun e w' => e = .returned (.tuple #[.int .i64 0, .bool false]) ∧ w = w' := by
  by_cases c1 : y < 1900
  · clear h
    go_enter Try.func39, Try.ntmps39
    go_wp2
    go_ret2
    exact ⟨rfl, rfl⟩
  by_cases c2 : 2099 < y
  · clear h
    go_enter Try.func39, Try.ntmps39
    go_wp2
    go_ret2
    exact ⟨rfl, rfl⟩
  by_cases c3 : m < 1
  · clear h
    go_enter Try.func39, Try.ntmps39
    go_wp2
    go_ret2
    exact ⟨rfl, rfl⟩
  by_cases c4 : 12 < m
  · clear h
    go_enter Try.func39, Try.ntmps39
    go_wp2
    go_ret2
    exact ⟨rfl, rfl⟩
  by_cases c5 : d < 1
  · clear h
    go_enter Try.func39, Try.ntmps39
    go_wp2
    go_ret2
    exact ⟨rfl, rfl⟩
  have c6 : mlen y m < d := by
    have := dateB_iff y m d
    rw [h] at this; simp at this; omega
  clear h
  go_enter Try.func39, Try.ntmps39
  go_wp2_with (go_at_call 46; refine (rlength_any _ _ _ (by omega) (by omega) (by omega) (by omega)).mono ?_; rintro e w' ⟨rfl, rfl⟩)
  go_ret2
  exact ⟨rfl, rfl⟩

theorem dayN_start (y m d : Int) (h : dateB y m d = true) : msum (((y - 1900) * 12 + m).toNat - 1) + d - 1 = dayN y m d := by
  obtain ⟨h0, h1, h2, h3, h4, h5⟩ := (dateB_iff y m d).1 h
  have e := msum_eq (y - 1900).toNat (m.toNat - 1) (by omega) (by omega)
  rw [dayN_yes h, show ((y - 1900) * 12 + m).toNat - 1 = 12 * (y - 1900).toNat + (m.toNat - 1) by omega, e, show (1900 : Int) + ((y - 1900).toNat : Int) = y by omega]

set_option maxHeartbeats 1000000 in
theorem RDay_yes (y m d : Int) (w : World) (h : dateB y m d = true) :
    Calls Try.prog 39 #[.int .i64 y, .int .i64 m, .int .i64 d] w fun e w' => e = .returned (.tuple #[.int .i64 (dayN y m d), .bool true]) ∧ w = w' := by
  have hfin := Lib.hid (dayN_start y m d h)
  obtain ⟨h0, h1, h2, h3, h4, h5⟩ := (dateB_iff y m d).1 h
  clear h
  have b2 := mlen_bd y m
  have b1 := msum_bd (((y - 1900) * 12 + m).toNat - 1)
  go_enter Try.func39, Try.ntmps39
  go_wp2_with (first | (go_at_call 46; refine (rlength_any _ _ _ (by omega) (by omega) (by omega) (by omega)).mono ?_; rintro e w1 ⟨rfl, rfl⟩) | (go_at_call 47; refine (start_any _ _ (by omega) (by omega)).mono ?_; rintro e w2 ⟨rfl, rfl⟩))
  go_ret2
  exact ⟨ret_ib hfin.out rfl, rfl⟩

theorem RDay_any (y m d : Int) (w : World) :
    Calls Try.prog 39 #[.int .i64 y, .int .i64 m, .int .i64 d] w fun e w' => e = .returned (.tuple #[.int .i64 (dayN y m d), .bool (dateB y m d)]) ∧ w = w' := by
  cases h : dateB y m d
  · refine (RDay_no y m d w h).mono ?_
    rintro e w' ⟨rfl, hb⟩
    exact ⟨by rw [dayN_no h], hb⟩
  · exact RDay_yes y m d w h

end Go.Proofs.Ytfdajdlbkdfhoaa

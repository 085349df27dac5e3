/- Contracts of Day, Date, Month, MonthStart, MonthDays and Weekday of the calendar and of the reference. No conditions but those printed. -/
import Derived.Test.YtddgobjblbhlbaaCalC
namespace Go.Proofs.Ytddgobjblbhlbaa
open Go.RowKit Cal

theorem below_seq {w w1 w2 : World} (h : Below w.heap.size w w1) (h2 : Below w1.heap.size w1 w2) : Below w.heap.size w w2 := h.trans (h2.mono h.size)

theorem ret_iiib {a b c a' b' c' : Int} {p p' : Bool} (h1 : a = a') (h2 : b = b') (h3 : c = c') (h4 : p = p') :
    Ending.returned (.tuple #[.int .i64 a, .int .i64 b, .int .i64 c, .bool p]) = .returned (.tuple #[.int .i64 a', .int .i64 b', .int .i64 c', .bool p']) := by rw [h1, h2, h3, h4]

set_option maxHeartbeats 1000000 in
theorem RDay_no (y m d : Int) (w : World) (h : dateB y m d = false) :
    Calls Try.prog 19 #[.int .i64 y, .int .i64 m, .int .i64 d] w fun e w' => e = .returned (.tuple #[.int .i64 0, .bool false]) ∧ w = w' := by
  by_cases c1 : y < 1900
  · clear h
    go_enter Try.func19, Try.ntmps19
    go_wp2
    go_ret2
    exact ⟨rfl, rfl⟩
  by_cases c2 : 2099 < y
  · clear h
    go_enter Try.func19, Try.ntmps19
    go_wp2
    go_ret2
    exact ⟨rfl, rfl⟩
  by_cases c3 : m < 1
  · clear h
    go_enter Try.func19, Try.ntmps19
    go_wp2
    go_ret2
    exact ⟨rfl, rfl⟩
  by_cases c4 : 12 < m
  · clear h
    go_enter Try.func19, Try.ntmps19
    go_wp2
    go_ret2
    exact ⟨rfl, rfl⟩
  by_cases c5 : d < 1
  · clear h
    go_enter Try.func19, Try.ntmps19
    go_wp2
    go_ret2
    exact ⟨rfl, rfl⟩
  have c6 : mlen y m < d := by
    have := dateB_iff y m d
    rw [h] at this; simp at this; omega
  clear h
  go_enter Try.func19, Try.ntmps19
  go_wp2_with (go_at_call 45; refine (rlength_any _ _ _ (by omega) (by omega) (by omega) (by omega)).mono ?_; rintro e w' ⟨rfl, rfl⟩)
  go_ret2
  exact ⟨rfl, rfl⟩

theorem dayN_start (y m d : Int) (h : dateB y m d = true) : msum (((y - 1900) * 12 + m).toNat - 1) + d - 1 = dayN y m d := by
  obtain ⟨h0, h1, h2, h3, h4, h5⟩ := (dateB_iff y m d).1 h
  have e := msum_eq (y - 1900).toNat (m.toNat - 1) (by omega) (by omega)
  rw [dayN_yes h, show ((y - 1900) * 12 + m).toNat - 1 = 12 * (y - 1900).toNat + (m.toNat - 1) by omega, e, show (1900 : Int) + ((y - 1900).toNat : Int) = y by omega]

set_option maxHeartbeats 1000000 in
theorem RDay_yes (y m d : Int) (w : World) (h : dateB y m d = true) :
    Calls Try.prog 19 #[.int .i64 y, .int .i64 m, .int .i64 d] w fun e w' => e = .returned (.tuple #[.int .i64 (dayN y m d), .bool true]) ∧ w = w' := by
  have hfin := Lib.hid (dayN_start y m d h)
  obtain ⟨h0, h1, h2, h3, h4, h5⟩ := (dateB_iff y m d).1 h
  clear h
  have b2 := mlen_bd y m
  have b1 := msum_bd (((y - 1900) * 12 + m).toNat - 1)
  go_enter Try.func19, Try.ntmps19
  go_wp2_with (first | (go_at_call 45; refine (rlength_any _ _ _ (by omega) (by omega) (by omega) (by omega)).mono ?_; rintro e w1 ⟨rfl, rfl⟩) | (go_at_call 46; refine (start_any _ _ (by omega) (by omega)).mono ?_; rintro e w2 ⟨rfl, rfl⟩))
  go_ret2
  exact ⟨ret_ib hfin.out rfl, rfl⟩

theorem RDay_any (y m d : Int) (w : World) :
    Calls Try.prog 19 #[.int .i64 y, .int .i64 m, .int .i64 d] w fun e w' => e = .returned (.tuple #[.int .i64 (dayN y m d), .bool (dateB y m d)]) ∧ w = w' := by
  cases h : dateB y m d
  · refine (RDay_no y m d w h).mono ?_
    rintro e w' ⟨rfl, hb⟩
    exact ⟨by rw [dayN_no h], hb⟩
  · exact RDay_yes y m d w h

set_option maxHeartbeats 1000000 in
theorem RDate_any (d : Int) (w : World) :
    Calls Try.prog 26 #[.int .i64 d] w fun e w' => e = .returned (.tuple #[.int .i64 (dY d), .int .i64 (dM d), .int .i64 (dD d), .bool (vdayB d)]) ∧ w = w' := by
  cases h : vdayB d
  · go_enter Try.func26, Try.ntmps26
    go_wp2_with (go_at_call 47; refine (ValidDay_any _ _).mono ?_; rintro e w1 ⟨rfl, rfl⟩)
    refine bodyPost_ret (results_tmp4 rfl _ _ _) rfl ?_
    exact ⟨ret_iiib (dY_no h).symm (dM_no h).symm (dD_no h).symm rfl, rfl⟩
  · have hs := monOf_spec d h
    have b := msum_bd (monOf d)
    have hd := (vdayB_iff d).1 h
    go_enter Try.func26, Try.ntmps26
    go_wp2_with (first | (go_at_call 47; refine (ValidDay_any _ _).mono ?_; rintro e w1 ⟨rfl, rfl⟩) | (go_at_call 49; refine (monthAt_any _ _ h).mono ?_; rintro e w1 ⟨rfl, rfl⟩))
    refine bodyPost_ret (results_tmp4 rfl _ _ _) rfl ?_
    exact ⟨ret_iiib (by rw [dY_yes h]; simp) (by rw [dM_yes h]; simp) (by rw [dD_yes h]) rfl, rfl⟩

theorem ylen_bd (y : Int) : 365 ≤ ylen y ∧ ylen y ≤ 366 := by unfold ylen; split <;> omega
theorem cum_le (y : Int) (j : Nat) (h : j ≤ 12) : cum y j ≤ ylen y := by
  rw [← cum_12]
  have key : ∀ n : Nat, cum y j ≤ cum y (j + n) := by
    intro n
    induction n with
    | zero => exact Int.le_refl _
    | succ n ih => have := mlen_bd y (((j + n : Nat) : Int) + 1); rw [← Nat.add_assoc, cum]; omega
  have := key (12 - j)
  rwa [show j + (12 - j) = 12 by omega] at this

set_option maxHeartbeats 2000000 in
theorem Date_any (d : Int) (w : World) :
    Calls Try.prog 25 #[.int .i64 d] w fun e w' => e = .returned (.tuple #[.int .i64 (dY d), .int .i64 (dM d), .int .i64 (dD d), .bool (vdayB d)]) ∧ Below w.heap.size w w' := by
  cases h : vdayB d
  · go_enter Try.func25, Try.ntmps25
    go_wp2_with (go_at_call 24; refine (Valid_any _ _).mono ?_; rintro e w1 ⟨rfl, rfl⟩)
    refine bodyPost_ret (results_tmp4 rfl _ _ _) rfl ?_
    exact ⟨ret_iiib (dY_no h).symm (dM_no h).symm (dD_no h).symm rfl, Below.refl _ _⟩
  · have hd := (vdayB_iff d).1 h
    obtain ⟨hd0, hd1⟩ := hd
    have hg := ystart_guess d hd0 hd1
    have hend : ystart 2100 = 73049 := by decide
    have hE := Lib.hid hend
    clear hend
    go_enter Try.func25, Try.ntmps25
    go_wp2_with (go_at_call 24; refine (Valid_any _ _).mono ?_; rintro e w1 ⟨rfl, rfl⟩)
    go_loop [2] (fun t => ∃ y : Int, 1900 ≤ y ∧ y ≤ 2099 ∧ ystart y ≤ d ∧ t = .int .i64 y) (fun t => (2099 - intOf t).toNat)
    case atStart => exact ⟨_, hg.1, hg.2.1, hg.2.2, rfl⟩
    case round =>
      obtain ⟨y, hy1, hy2, hy3, rfl⟩ := hrel
      have hb := ystart_bd y hy1 (by omega)
      have hl := ylen_bd y
      have hs := Lib.hid (ystart_succ y hy1 hy2)
      clear hg
      by_cases hc : ystart y + ylen y ≤ d
      · have hy4 : y < 2099 := by
          by_cases h : y < 2099
          · exact h
          · have e := hs.out; rw [show y + 1 = 2100 by omega, hE.out] at e; omega
        go_wp2_with (first | (go_at_call 44; refine (yearStart_any _ _ (by omega) (by omega)).mono ?_; rintro e w' ⟨rfl, rfl⟩) | (go_at_call 48; refine (yearLength_any _ _ (by omega) (by omega)).mono ?_; rintro e w' ⟨rfl, rfl⟩))
        go_round
        case rel => exact ⟨y + 1, by omega, by omega, by rw [hs.out]; exact hc, rfl⟩
        case measure => simp [intOf]; omega
      · go_wp2_with (first | (go_at_call 44; refine (yearStart_any _ _ (by omega) (by omega)).mono ?_; rintro e w' ⟨rfl, rfl⟩) | (go_at_call 48; refine (yearLength_any _ _ (by omega) (by omega)).mono ?_; rintro e w' ⟨rfl, rfl⟩))
        go_loopw [6, 3] (fun r k wr => ∃ j : Nat, j < 12 ∧ k = .int .i64 (j + 1) ∧ 0 ≤ d - ystart y - cum y j ∧ r = .int .i64 (d - ystart y - cum y j) ∧ Below w.heap.size w wr) (fun _ k _ => (12 - intOf k).toNat)
        case atStart => exact ⟨0, by omega, by simp, by simp [cum]; omega, by simp [cum], Below.refl _ _⟩
        case round =>
          obtain ⟨j, hj, rfl, hr, rfl, hbw⟩ := hrel
          have cb := cum_bd y j
          have ml := mlen_bd y (j + 1)
          by_cases hcc : mlen y (j + 1) ≤ d - ystart y - cum y j
          · have hj2 : j + 1 < 12 := by
              rcases Nat.lt_or_ge (j + 1) 12 with h | h
              · exact h
              · have e := cum_12 y; rw [show 12 = j + 1 by omega, cum] at e; omega
            go_wp2_with (go_at_call 43; refine (monthLength_any _ _ _ (by omega) (by omega) (by omega) (by omega)).mono ?_; rintro e w1 ⟨rfl, hb1⟩)
            go_roundw
            case rel => exact ⟨j + 1, hj2, by go_num, by simp only [cum]; omega, by simp only [cum]; go_num, below_seq (below_seq hbw (by assumption)) hb1⟩
            case measure => simp [intOf]; omega
          · have hfin := Lib.hid (date_of d y j hy1 hy2 hj hr (by omega))
            go_wp2_with (go_at_call 43; refine (monthLength_any _ _ _ (by omega) (by omega) (by omega) (by omega)).mono ?_; rintro e w1 ⟨rfl, hb1⟩)
            refine bodyPost_ret (results_tmp4 rfl _ _ _) rfl ?_
            obtain ⟨_, e1, e2, e3, _⟩ := hfin.out
            exact ⟨ret_iiib e1.symm e2.symm e3.symm rfl, hbw.trans (hb1.mono hbw.size)⟩

end Go.Proofs.Ytddgobjblbhlbaa

/- Contracts of the calendar's small functions, for every argument that the statements hand them. No conditions but those printed. -/
import Derived.Test.YtfdajdlbkdfhoaaDoorProg
import Derived.WalkKit
import Derived.WalkSpells
import Derived.WalkLawsBesides
import Derived.Lib.Hide
import Derived.Deep.QuietTactic
import Derived.BigQuiet
import Derived.Test.YtfdajdlbkdfhoaaDoorCalPlain
namespace Go.Proofs.YtfdajdlbkdfhoaaDoor
open Go.RowKit Cal

theorem ret_i {k : IntKind} {a b : Int} (h : a = b) : Ending.returned (.int k a) = .returned (.int k b) := by rw [h]
theorem ret_b {a b : Bool} (h : a = b) : Ending.returned (.bool a) = .returned (.bool b) := by rw [h]

theorem leapB_ff (y : Int) (h : ¬ y % 4 = 0) : (y % 400 == 0) = leapB y := by
  rw [Bool.eq_iff_iff, leapB_iff]; simp; omega
theorem leapB_tt (y : Int) (h : y % 4 = 0) (h2 : ¬ y % 100 = 0) : true = leapB y := by
  rw [Bool.eq_iff_iff, leapB_iff]; simp [h, h2]
theorem leapB_tf (y : Int) (h2 : y % 100 = 0) : (y % 400 == 0) = leapB y := by
  rw [Bool.eq_iff_iff, leapB_iff]; simp; omega

set_option maxHeartbeats 400000 in
theorem leap_any (y : Int) (w : World) (h0 : 0 ≤ y) (h1 : y ≤ 10000) :
    Calls Tryd.prog 84 #[.int .i64 y] w fun e w' => e = .returned (.bool (leapB y)) ∧ w = w' := by
  go_enter Tryd.func84, Tryd.ntmps84
  go_wp2
  · go_ret; exact ⟨ret_b (leapB_tf y (by assumption)), rfl⟩
  · go_ret; exact ⟨ret_b (leapB_tt y (by assumption) (by assumption)), rfl⟩
  · go_ret; exact ⟨ret_b (leapB_ff y (by assumption)), rfl⟩

theorem mlen_2 (y : Int) : mlen y 2 = if leapB y = true then 29 else 28 := rfl
theorem mlen_30 (y m : Int) (h : m = 4 ∨ m = 6 ∨ m = 9 ∨ m = 11) : mlen y m = 30 := by
  unfold mlen; rw [if_neg (by omega), if_pos h]
theorem mlen_31 (y m : Int) (h : m = 1 ∨ m = 3 ∨ m = 5 ∨ m = 7 ∨ m = 8 ∨ m = 10 ∨ m = 12) : mlen y m = 31 := by
  unfold mlen; rw [if_neg (by omega), if_neg (by omega)]

set_option maxHeartbeats 2000000 in
theorem monthLength_any (y m : Int) (w : World) (h0 : 0 ≤ y) (h1 : y ≤ 10000) (hm0 : 1 ≤ m) (hm1 : m ≤ 12) :
    Calls Tryd.prog 82 #[.int .i64 y, .int .i64 m] w fun e w' => e = .returned (.int .i64 (mlen y m)) ∧ Below w.heap.size w w' := by
  have hm : m = 2 ∨ m = 1 ∨ m = 3 ∨ m = 4 ∨ m = 5 ∨ m = 6 ∨ m = 7 ∨ m = 8 ∨ m = 9 ∨ m = 10 ∨ m = 11 ∨ m = 12 := by omega
  rcases hm with rfl | hm
  · by_cases hl : leapB y = true
    · go_enter Tryd.func82, Tryd.ntmps82
      go_wp2_with (go_at_call 84; refine (leap_any _ _ (by omega) (by omega)).mono ?_; rintro e w' ⟨rfl, rfl⟩)
      go_ret
      exact ⟨ret_i (by rw [mlen_2, if_pos hl]), (Below.refl _ _).alloc (Nat.le_refl _) _⟩
    · have hl' : leapB y = false := by simpa using hl
      go_enter Tryd.func82, Tryd.ntmps82
      go_wp2_with (go_at_call 84; refine (leap_any _ _ (by omega) (by omega)).mono ?_; rintro e w' ⟨rfl, rfl⟩)
      go_ret
      exact ⟨ret_i (by rw [mlen_2, if_neg hl]), (Below.refl _ _).alloc (Nat.le_refl _) _⟩
  · rcases hm with rfl | rfl | rfl | rfl | rfl | rfl | rfl | rfl | rfl | rfl | rfl
    all_goals
      go_enter Tryd.func82, Tryd.ntmps82
      go_wp2
      go_ret
      exact ⟨ret_i (by first | rw [mlen_30 _ _ (by omega)] | rw [mlen_31 _ _ (by omega)]), (Below.refl _ _).alloc (Nat.le_refl _) _⟩

set_option maxHeartbeats 400000 in
theorem yearStart_any (y : Int) (w : World) (h0 : 1900 ≤ y) (h1 : y ≤ 2100) :
    Calls Tryd.prog 83 #[.int .i64 y] w fun e w' => e = .returned (.int .i64 (ystart y)) ∧ w = w' := by
  by_cases hl : 1900 < y
  · go_enter Tryd.func83, Tryd.ntmps83
    go_wp2
    go_ret
    exact ⟨ret_i (by rw [ystart, if_pos hl]; omega), rfl⟩
  · obtain rfl : y = 1900 := by omega
    go_enter Tryd.func83, Tryd.ntmps83
    go_wp2
    go_ret
    exact ⟨ret_i (by decide), rfl⟩

/-- A month's number is one. -/
def vmonB (d : Int) : Bool := decide (0 ≤ d ∧ d ≤ 2399)

end Go.Proofs.YtfdajdlbkdfhoaaDoor

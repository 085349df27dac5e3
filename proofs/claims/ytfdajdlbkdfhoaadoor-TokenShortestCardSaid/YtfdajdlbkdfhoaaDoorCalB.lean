/- Contracts of the calendar's Day and of the reference's Day, start and monthAt. No conditions but those printed. -/
import Derived.Test.YtfdajdlbkdfhoaaDoorCalA
namespace Go.Proofs.YtfdajdlbkdfhoaaDoor
open Go.RowKit Cal

theorem pick_eq (n k : Int) (hk : 1 ≤ k) : (n.tmod k + k) % k = n % k := by
  rw [Int.add_emod_right, Int.tmod_eq_emod]
  split
  · simp
  · rw [Int.sub_emod]
    have : (k.natAbs : Int) = k := by omega
    simp [this]

theorem ret_ib {k : IntKind} {a b : Int} {p q : Bool} (h : a = b) (h' : p = q) : Ending.returned (.tuple #[.int k a, .bool p]) = .returned (.tuple #[.int k b, .bool q]) := by rw [h, h']

set_option maxHeartbeats 1000000 in
theorem Day_no (y m d : Int) (w : World) (h : dateB y m d = false) :
    Calls Tryd.prog 74 #[.int .i64 y, .int .i64 m, .int .i64 d] w fun e w' => e = .returned (.tuple #[.int .i64 0, .bool false]) ∧ Below w.heap.size w w' := by
  by_cases c1 : y < 1900
  · clear h
    go_enter Tryd.func74, Tryd.ntmps74
    go_wp2
    go_ret2
    exact ⟨rfl, Below.refl _ _⟩
  by_cases c2 : 2099 < y
  · clear h
    go_enter Tryd.func74, Tryd.ntmps74
    go_wp2
    go_ret2
    exact ⟨rfl, Below.refl _ _⟩
  by_cases c3 : m < 1
  · clear h
    go_enter Tryd.func74, Tryd.ntmps74
    go_wp2
    go_ret2
    exact ⟨rfl, Below.refl _ _⟩
  by_cases c4 : 12 < m
  · clear h
    go_enter Tryd.func74, Tryd.ntmps74
    go_wp2
    go_ret2
    exact ⟨rfl, Below.refl _ _⟩
  by_cases c5 : d < 1
  · clear h
    go_enter Tryd.func74, Tryd.ntmps74
    go_wp2
    go_ret2
    exact ⟨rfl, Below.refl _ _⟩
  have c6 : mlen y m < d := by
    have := dateB_iff y m d
    rw [h] at this; simp at this; omega
  clear h
  go_enter Tryd.func74, Tryd.ntmps74
  go_wp2_with (go_at_call 82; refine (monthLength_any _ _ _ (by omega) (by omega) (by omega) (by omega)).mono ?_; rintro e w' ⟨rfl, hb⟩)
  go_ret2
  exact ⟨rfl, hb⟩

set_option maxHeartbeats 1000000 in
theorem Day_yes (y m d : Int) (w : World) (h : dateB y m d = true) :
    Calls Tryd.prog 74 #[.int .i64 y, .int .i64 m, .int .i64 d] w fun e w' => e = .returned (.tuple #[.int .i64 (ystart y + cum y (m.toNat - 1) + d - 1), .bool true]) ∧ Below w.heap.size w w' := by
  obtain ⟨h0, h1, h2, h3, h4, h5⟩ := (dateB_iff y m d).1 h
  clear h
  have b1 := ystart_bd y h0 (by omega)
  have b2 := mlen_bd y m
  go_enter Tryd.func74, Tryd.ntmps74
  go_wp2_with (first | (go_at_call 82; refine (monthLength_any _ _ _ (by omega) (by omega) (by omega) (by omega)).mono ?_; rintro e w1 ⟨rfl, hb1⟩) | (go_at_call 83; refine (yearStart_any _ _ (by omega) (by omega)).mono ?_; rintro e w2 ⟨rfl, rfl⟩))
  go_loopw [8, 9] (fun t i wr => ∃ k : Nat, k + 1 ≤ m ∧ i = .int .i64 (k + 1) ∧ t = .int .i64 (ystart y + d - 1 + cum y k) ∧ Below w.heap.size w wr) (fun _ i _ => (m - intOf i).toNat)
  case atStart => exact ⟨0, by omega, by simp, by simp [cum], hb1⟩
  case round =>
    obtain ⟨k, hk, rfl, rfl, hb⟩ := hrel
    have b3 := cum_bd y k
    have b4 := mlen_bd y (k + 1)
    by_cases hlt : (k : Int) + 1 < m
    · go_wp2_with (go_at_call 82; refine (monthLength_any _ _ _ (by omega) (by omega) (by omega) (by omega)).mono ?_; rintro e w1 ⟨rfl, hb1⟩)
      go_roundw
      case rel => exact ⟨k + 1, by omega, by go_num, by simp only [cum]; go_num, hb.trans (hb1.mono hb.size)⟩
      case measure => simp [intOf]; omega
    · go_wp2
      go_ret2
      have e : m.toNat - 1 = k := by omega
      exact ⟨ret_ib (by rw [e]; omega) rfl, hb⟩

theorem Day_any (y m d : Int) (w : World) :
    Calls Tryd.prog 74 #[.int .i64 y, .int .i64 m, .int .i64 d] w fun e w' => e = .returned (.tuple #[.int .i64 (dayN y m d), .bool (dateB y m d)]) ∧ Below w.heap.size w w' := by
  cases h : dateB y m d
  · refine (Day_no y m d w h).mono ?_
    rintro e w' ⟨rfl, hb⟩
    exact ⟨by rw [dayN_no h], hb⟩
  · refine (Day_yes y m d w h).mono ?_
    rintro e w' ⟨rfl, hb⟩
    exact ⟨by rw [dayN_yes h], hb⟩

end Go.Proofs.YtfdajdlbkdfhoaaDoor

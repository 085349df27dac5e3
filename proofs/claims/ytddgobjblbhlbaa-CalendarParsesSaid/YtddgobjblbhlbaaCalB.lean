/- Contracts of the calendar's Day and of the reference's Day, start and monthAt. No conditions but those printed. -/
import Derived.Test.YtddgobjblbhlbaaCalA
namespace Go.Proofs.Ytddgobjblbhlbaa
open Go.RowKit Cal

theorem bcell {W w1 : World} (hb : Below W.heap.size W w1) : (∀ b o, b < W.heap.size → w1.cell? ⟨b, o, none⟩ = W.cell? ⟨b, o, none⟩) ∧ (∀ b o, b < W.heap.size → w1.frozen? ⟨b, o, none⟩ = W.frozen? ⟨b, o, none⟩) :=
  ⟨fun b o h => hb.cell (p := ⟨b, o, none⟩) h, fun b o h => hb.frozen (p := ⟨b, o, none⟩) h⟩

theorem pick_eq (n k : Int) (hk : 1 ≤ k) : (n.tmod k + k) % k = n % k := by
  rw [Int.add_emod_right, Int.tmod_eq_emod]
  split
  · simp
  · rw [Int.sub_emod]
    have : (k.natAbs : Int) = k := by omega
    simp [this]

set_option maxHeartbeats 400000 in
theorem Pick_any (n k : Int) (w : World) (h0 : 1 ≤ k) (h1 : k ≤ 1000000) :
    Calls Try.prog 17 #[.int .i64 n, .int .i64 k] w fun e w' => e = .returned (.int .i64 (n % k)) ∧ w = w' := by
  have a1 := Int.tmod_lt_of_pos n (by omega : 0 < k)
  have a2 := Int.lt_tmod_of_pos n (by omega : 0 < k)
  go_enter Try.func17, Try.ntmps17
  go_wp2
  go_ret
  exact ⟨ret_i (pick_eq n k h0), rfl⟩

/-- The number that 'near' makes of n. -/
def nearN (n : Int) : Int := if n.tmod 16 = 0 then n else n % 73088 - 20

set_option maxHeartbeats 400000 in
theorem near_any (n : Int) (w : World) :
    Calls Try.prog 21 #[.int .i64 n] w fun e w' => e = .returned (.int .i64 (nearN n)) ∧ w = w' := by
  by_cases h : n.tmod 16 = 0
  · have hb : (n.tmod 16 == 0) = true := by simpa using h
    go_enter Try.func21, Try.ntmps21
    go_wp2
    go_ret
    exact ⟨ret_i (by rw [nearN, if_pos h]), rfl⟩
  · have hb : (n.tmod 16 == 0) = false := by simpa using h
    go_enter Try.func21, Try.ntmps21
    go_wp2_with (go_at_call 17; refine (Pick_any _ _ _ (by omega) (by omega)).mono ?_; rintro e w' ⟨rfl, rfl⟩)
    go_ret
    exact ⟨ret_i (by rw [nearN, if_neg h]), rfl⟩

theorem ret_ib {k : IntKind} {a b : Int} {p q : Bool} (h : a = b) (h' : p = q) : Ending.returned (.tuple #[.int k a, .bool p]) = .returned (.tuple #[.int k b, .bool q]) := by rw [h, h']

set_option maxHeartbeats 1000000 in
theorem Day_no (y m d : Int) (w : World) (h : dateB y m d = false) :
    Calls Try.prog 18 #[.int .i64 y, .int .i64 m, .int .i64 d] w fun e w' => e = .returned (.tuple #[.int .i64 0, .bool false]) ∧ Below w.heap.size w w' := by
  by_cases c1 : y < 1900
  · clear h
    go_enter Try.func18, Try.ntmps18
    go_wp2
    go_ret2
    exact ⟨rfl, Below.refl _ _⟩
  by_cases c2 : 2099 < y
  · clear h
    go_enter Try.func18, Try.ntmps18
    go_wp2
    go_ret2
    exact ⟨rfl, Below.refl _ _⟩
  by_cases c3 : m < 1
  · clear h
    go_enter Try.func18, Try.ntmps18
    go_wp2
    go_ret2
    exact ⟨rfl, Below.refl _ _⟩
  by_cases c4 : 12 < m
  · clear h
    go_enter Try.func18, Try.ntmps18
    go_wp2
    go_ret2
    exact ⟨rfl, Below.refl _ _⟩
  by_cases c5 : d < 1
  · clear h
    go_enter Try.func18, Try.ntmps18
    go_wp2
    go_ret2
    exact ⟨rfl, Below.refl _ _⟩
  have c6 : mlen y m < d := by
    have := dateB_iff y m d
    rw [h] at this; simp at this; omega
  clear h
  go_enter Try.func18, Try.ntmps18
  go_wp2_with (go_at_call 43; refine (monthLength_any _ _ _ (by omega) (by omega) (by omega) (by omega)).mono ?_; rintro e w' ⟨rfl, hb⟩)
  go_ret2
  exact ⟨rfl, hb⟩

set_option maxHeartbeats 1000000 in
theorem Day_yes (y m d : Int) (w : World) (h : dateB y m d = true) :
    Calls Try.prog 18 #[.int .i64 y, .int .i64 m, .int .i64 d] w fun e w' => e = .returned (.tuple #[.int .i64 (ystart y + cum y (m.toNat - 1) + d - 1), .bool true]) ∧ Below w.heap.size w w' := by
  obtain ⟨h0, h1, h2, h3, h4, h5⟩ := (dateB_iff y m d).1 h
  clear h
  have b1 := ystart_bd y h0 (by omega)
  have b2 := mlen_bd y m
  go_enter Try.func18, Try.ntmps18
  go_wp2_with (first | (go_at_call 43; refine (monthLength_any _ _ _ (by omega) (by omega) (by omega) (by omega)).mono ?_; rintro e w1 ⟨rfl, hb1⟩) | (go_at_call 44; refine (yearStart_any _ _ (by omega) (by omega)).mono ?_; rintro e w2 ⟨rfl, rfl⟩))
  go_loopw [8, 9] (fun t i wr => ∃ k : Nat, k + 1 ≤ m ∧ i = .int .i64 (k + 1) ∧ t = .int .i64 (ystart y + d - 1 + cum y k) ∧ Below w.heap.size w wr) (fun _ i _ => (m - intOf i).toNat)
  case atStart => exact ⟨0, by omega, by simp, by simp [cum], hb1⟩
  case round =>
    obtain ⟨k, hk, rfl, rfl, hb⟩ := hrel
    have b3 := cum_bd y k
    have b4 := mlen_bd y (k + 1)
    by_cases hlt : (k : Int) + 1 < m
    · go_wp2_with (go_at_call 43; refine (monthLength_any _ _ _ (by omega) (by omega) (by omega) (by omega)).mono ?_; rintro e w1 ⟨rfl, hb1⟩)
      go_roundw
      case rel => exact ⟨k + 1, by omega, by go_num, by simp only [cum]; go_num, hb.trans (hb1.mono hb.size)⟩
      case measure => simp [intOf]; omega
    · go_wp2
      go_ret2
      have e : m.toNat - 1 = k := by omega
      exact ⟨ret_ib (by rw [e]; omega) rfl, hb⟩

theorem Day_any (y m d : Int) (w : World) :
    Calls Try.prog 18 #[.int .i64 y, .int .i64 m, .int .i64 d] w fun e w' => e = .returned (.tuple #[.int .i64 (dayN y m d), .bool (dateB y m d)]) ∧ Below w.heap.size w w' := by
  cases h : dateB y m d
  · refine (Day_no y m d w h).mono ?_
    rintro e w' ⟨rfl, hb⟩
    exact ⟨by rw [dayN_no h], hb⟩
  · refine (Day_yes y m d w h).mono ?_
    rintro e w' ⟨rfl, hb⟩
    exact ⟨by rw [dayN_yes h], hb⟩

end Go.Proofs.Ytddgobjblbhlbaa

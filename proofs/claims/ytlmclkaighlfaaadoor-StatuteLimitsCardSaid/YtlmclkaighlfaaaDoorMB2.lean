/- Bundle of texts: each says at its head what it proves; no conditions but those printed. -/
import Derived.Test.YtlmclkaighlfaaaDoorProg
import Derived.WalkKit
import Derived.WalkSpells
import Derived.WalkLawsBesides
import Derived.Lib.Hide
import Derived.Deep.QuietTactic
import Derived.BigQuiet
import Derived.Laws.BytesArg
import Derived.Laws.Concat
import Derived.Handy
import Derived.Test.YtlmclkaighlfaaaDoorMB0
namespace Go.Proofs.YtlmclkaighlfaaaDoor.Cal
set_option maxHeartbeats 16000000
def leapB (y : Int) : Bool := decide (y % 4 = 0 ∧ y % 100 ≠ 0 ∨ y % 400 = 0)
theorem leapB_iff (y : Int) : leapB y = true ↔ (y % 4 = 0 ∧ y % 100 ≠ 0 ∨ y % 400 = 0) := by unfold leapB; simp
def mlen (y m : Int) : Int :=
 if m = 2 then (if leapB y = true then 29 else 28) else if m = 4 ∨ m = 6 ∨ m = 9 ∨ m = 11 then 30 else 31
theorem mlen_bd (y m : Int) : 28 ≤ mlen y m ∧ mlen y m ≤ 31 := by
 unfold mlen; repeat' split
 all_goals omega
def ylen (y : Int) : Int := if leapB y = true then 366 else 365
def ystart (y : Int) : Int := 365 * (y - 1900) + (if y > 1900 then (y - 1901) / 4 else 0)
theorem ystart_bd (y : Int) (h0 : 1900 ≤ y) (h1 : y ≤ 2100) : 0 ≤ ystart y ∧ ystart y ≤ 73049 := by
 unfold ystart; split <;> omega
theorem ystart_succ (y : Int) (h0 : 1900 ≤ y) (h1 : y ≤ 2099) : ystart (y + 1) = ystart y + ylen y := by
 unfold ystart ylen;have h := leapB_iff y;by_cases hl : leapB y = true
 ·rw [if_pos hl]; have := h.1 hl
  split <;> split <;> omega
 ·rw [if_neg hl]; have : ¬ (y % 4 = 0 ∧ y % 100 ≠ 0 ∨ y % 400 = 0) := fun e => hl (h.2 e)
  split <;> split <;> omega
def cum (y : Int) : Nat → Int
 | 0 => 0
 | k + 1 => cum y k + mlen y (k + 1)
theorem cum_bd (y : Int) (k : Nat) : 28 * k ≤ cum y k ∧ cum y k ≤ 31 * k := by
 induction k with
 | zero => simp [cum]
 | succ k ih => have := mlen_bd y (k + 1); simp only [cum]; omega
theorem cum_12 (y : Int) : cum y 12 = ylen y := by
 unfold ylen;simp only [cum, mlen]
 by_cases hl : leapB y = true <;> simp [hl]
def nlen (k : Nat) : Int := mlen (1900 + (k / 12 : Nat)) ((k % 12 : Nat) + 1)
def msum : Nat → Int
 | 0 => 0
 | k + 1 => msum k + nlen k
theorem nlen_bd (k : Nat) : 28 ≤ nlen k ∧ nlen k ≤ 31 := mlen_bd _ _
theorem msum_bd (k : Nat) : 28 * k ≤ msum k ∧ msum k ≤ 31 * k := by
 induction k with
 | zero => simp [msum]
 | succ k ih => have := nlen_bd k; simp only [msum]; omega
theorem msum_in (n j : Nat) (h : j ≤ 12) : msum (12 * n + j) = msum (12 * n) + cum (1900 + n) j := by
 induction j with
 | zero => simp [cum]
 | succ j ih =>
  have h1 : (12 * n + j) / 12 = n := by omega
  have h2 : (12 * n + j) % 12 = j := by omega
  have e : 12 * n + (j + 1) = (12 * n + j) + 1 := by omega
  rw [e, msum, ih (by omega), cum, nlen, h1, h2];omega
theorem msum_year (n : Nat) (h : n ≤ 200) : msum (12 * n) = ystart (1900 + n) := by
 induction n with
 | zero => simp [msum, ystart]
 | succ n ih =>
  have e : 12 * (n + 1) = 12 * n + 12 := by omega
  have hs := ystart_succ (1900 + n) (by omega) (by omega);rw [e, msum_in n 12 (by omega), ih (by omega), cum_12, ← hs]
  congr 1
theorem msum_eq (n j : Nat) (hn : n < 200) (h : j ≤ 12) : msum (12 * n + j) = ystart (1900 + n) + cum (1900 + n) j := by
 rw [msum_in n j h, msum_year n (by omega)]
theorem msum_end : msum 2400 = 73049 := by
 have := msum_year 200 (by omega);rw [show 12 * 200 = 2400 from rfl] at this;rw [this]; decide
theorem msum_mono {a b : Nat} (h : a ≤ b) : msum a ≤ msum b := by
 induction b with
 | zero => rw [show a = 0 by omega]; exact Int.le_refl _
 | succ b ih =>
  by_cases e : a = b + 1
  ·rw [e]; omega
  ·have := ih (by omega); have := nlen_bd b; simp only [msum]; omega
theorem msum_lt {a b : Nat} (h : a < b) : msum a + nlen a ≤ msum b := by
 have h1 := msum_mono (show a + 1 ≤ b from h);simpa [msum] using h1
theorem month_unique (d : Int) (j k : Nat) (h1 : msum j ≤ d) (h2 : d < msum j + nlen j) (h3 : msum k ≤ d) (h4 : d < msum k + nlen k) : j = k := by
 rcases Nat.lt_trichotomy j k with h | h | h
 ·have := msum_lt h; omega
 ·exact h
 ·have := msum_lt h; omega
def vdayB (d : Int) : Bool := decide (0 ≤ d ∧ d ≤ 73048)
theorem vdayB_iff (d : Int) : vdayB d = true ↔ (0 ≤ d ∧ d ≤ 73048) := by unfold vdayB; simp
noncomputable def monOf (d : Int) : Nat := Classical.epsilon fun k => k < 2400 ∧ msum k ≤ d ∧ d < msum k + nlen k
theorem monOf_eq (d : Int) (k : Nat) (hk : k < 2400) (h1 : msum k ≤ d) (h2 : d < msum k + nlen k) : monOf d = k := by
 have := Classical.epsilon_spec (p := fun k => k < 2400 ∧ msum k ≤ d ∧ d < msum k + nlen k) ⟨k, hk, h1, h2⟩;exact month_unique d _ _ this.2.1 this.2.2 h1 h2
noncomputable def dY (d : Int) : Int := if vdayB d = true then 1900 + ((monOf d / 12 : Nat) : Int) else 0
noncomputable def dM (d : Int) : Int := if vdayB d = true then ((monOf d % 12 : Nat) : Int) + 1 else 0
noncomputable def dD (d : Int) : Int := if vdayB d = true then d - msum (monOf d) + 1 else 0
theorem dY_yes {d : Int} (h : vdayB d = true) : dY d = 1900 + ((monOf d / 12 : Nat) : Int) := by unfold dY; rw [if_pos h]
theorem dM_yes {d : Int} (h : vdayB d = true) : dM d = ((monOf d % 12 : Nat) : Int) + 1 := by unfold dM; rw [if_pos h]
theorem dD_yes {d : Int} (h : vdayB d = true) : dD d = d - msum (monOf d) + 1 := by unfold dD; rw [if_pos h]
theorem date_of (d y : Int) (j : Nat) (h0 : 1900 ≤ y) (h1 : y ≤ 2099) (hj : j < 12) (hl : 0 ≤ d - ystart y - cum y j) (hu : d - ystart y - cum y j < mlen y (j + 1)) :
  vdayB d = true ∧ dY d = y ∧ dM d = j + 1 ∧ dD d = d - ystart y - cum y j + 1 ∧ (monOf d : Int) = 12 * (y - 1900) + j := by
 obtain ⟨n, rfl⟩ : ∃ n : Nat, y = 1900 + n := ⟨(y - 1900).toNat, by omega⟩;have e := msum_eq n j (by omega) (by omega);have e1 : (12 * n + j) / 12 = n := by omega
 have e2 : (12 * n + j) % 12 = j := by omega
 have en : nlen (12 * n + j) = mlen (1900 + n) (j + 1) := by rw [nlen, e1, e2]
 have b := msum_bd (12 * n + j);have hlt : 12 * n + j < 2400 := by omega
 have hend := msum_lt hlt;rw [msum_end] at hend;have hm := monOf_eq d (12 * n + j) hlt (by rw [e]; omega) (by rw [e, en]; omega);have hv : vdayB d = true := (vdayB_iff d).2 (by omega);refine ⟨hv, ?_, ?_, ?_, ?_⟩
 ·rw [dY_yes hv, hm, e1]
 ·rw [dM_yes hv, hm, e2]
 ·rw [dD_yes hv, hm, e]; omega
 ·rw [hm]; omega
def dateB (y m d : Int) : Bool := decide (1900 ≤ y ∧ y ≤ 2099 ∧ 1 ≤ m ∧ m ≤ 12 ∧ 1 ≤ d ∧ d ≤ mlen y m)
theorem dateB_iff (y m d : Int) : dateB y m d = true ↔ (1900 ≤ y ∧ y ≤ 2099 ∧ 1 ≤ m ∧ m ≤ 12 ∧ 1 ≤ d ∧ d ≤ mlen y m) := by unfold dateB; simp
def dayN (y m d : Int) : Int := if dateB y m d = true then ystart y + cum y (m.toNat - 1) + d - 1 else 0
theorem dayN_no {y m d : Int} (h : dateB y m d = false) : dayN y m d = 0 := by unfold dayN; rw [if_neg (by simp [h])]
theorem dayN_yes {y m d : Int} (h : dateB y m d = true) : dayN y m d = ystart y + cum y (m.toNat - 1) + d - 1 := by unfold dayN; rw [if_pos h]
theorem date_day (y m d : Int) (h : dateB y m d = true) : vdayB (dayN y m d) = true ∧ dY (dayN y m d) = y ∧ dM (dayN y m d) = m ∧ dD (dayN y m d) = d := by
 obtain ⟨h0, h1, h2, h3, h4, h5⟩ := (dateB_iff y m d).1 h;have em : m = ((m.toNat - 1 : Nat) : Int) + 1 := by omega
 have := date_of (dayN y m d) y (m.toNat - 1) h0 h1 (by omega) (by rw [dayN_yes h]; omega) (by rw [dayN_yes h, ← em]; omega);obtain ⟨a, b, c, e, _⟩ := this;refine ⟨a, b, by omega, ?_⟩;rw [e, dayN_yes h]; omega
end Go.Proofs.YtlmclkaighlfaaaDoor.Cal
namespace Go.Proofs.YtlmclkaighlfaaaDoor
set_option maxHeartbeats 16000000
open Go.RowKit Cal
theorem ret_i {k : IntKind} {a b : Int} (h : a = b) : Ending.returned (.int k a) = .returned (.int k b) := by rw [h]
theorem ret_b {a b : Bool} (h : a = b) : Ending.returned (.bool a) = .returned (.bool b) := by rw [h]
theorem leapB_ff (y : Int) (h : ¬ y % 4 = 0) : (y % 400 == 0) = leapB y := by
 rw [Bool.eq_iff_iff, leapB_iff]; simp; omega
theorem leapB_tt (y : Int) (h : y % 4 = 0) (h2 : ¬ y % 100 = 0) : true = leapB y := by
 rw [Bool.eq_iff_iff, leapB_iff]; simp [h, h2]
theorem leapB_tf (y : Int) (h2 : y % 100 = 0) : (y % 400 == 0) = leapB y := by
 rw [Bool.eq_iff_iff, leapB_iff]; simp; omega
theorem leap_any (y : Int) (w : World) (h0 : 0 ≤ y) (h1 : y ≤ 10000) :
  Calls Tryd.prog 71 #[.int .i64 y] w fun e w' => e = .returned (.bool (leapB y)) ∧ w = w' := by
 go_enter Tryd.func71, Tryd.ntmps71;go_wp2
 ·go_ret; exact ⟨ret_b (leapB_tf y (by assumption)), rfl⟩
 ·go_ret; exact ⟨ret_b (leapB_tt y (by assumption) (by assumption)), rfl⟩
 ·go_ret; exact ⟨ret_b (leapB_ff y (by assumption)), rfl⟩
theorem mlen_2 (y : Int) : mlen y 2 = if leapB y = true then 29 else 28 := rfl
theorem mlen_30 (y m : Int) (h : m = 4 ∨ m = 6 ∨ m = 9 ∨ m = 11) : mlen y m = 30 := by
 unfold mlen; rw [if_neg (by omega), if_pos h]
theorem mlen_31 (y m : Int) (h : m = 1 ∨ m = 3 ∨ m = 5 ∨ m = 7 ∨ m = 8 ∨ m = 10 ∨ m = 12) : mlen y m = 31 := by
 unfold mlen; rw [if_neg (by omega), if_neg (by omega)]
theorem monthLength_any (y m : Int) (w : World) (h0 : 0 ≤ y) (h1 : y ≤ 10000) (hm0 : 1 ≤ m) (hm1 : m ≤ 12) :
  Calls Tryd.prog 55 #[.int .i64 y, .int .i64 m] w fun e w' => e = .returned (.int .i64 (mlen y m)) ∧ Below w.heap.size w w' := by
 have hm : m = 2 ∨ m = 1 ∨ m = 3 ∨ m = 4 ∨ m = 5 ∨ m = 6 ∨ m = 7 ∨ m = 8 ∨ m = 9 ∨ m = 10 ∨ m = 11 ∨ m = 12 := by omega
 rcases hm with rfl | hm
 ·by_cases hl : leapB y = true
  ·go_enter Tryd.func55, Tryd.ntmps55
   go_wp2_with (go_at_call 71; refine (leap_any _ _ (by omega) (by omega)).mono ?_; rintro e w' ⟨rfl, rfl⟩)
   go_ret;exact ⟨ret_i (by rw [mlen_2, if_pos hl]), (Below.refl _ _).alloc (Nat.le_refl _) _⟩
  ·have hl' : leapB y = false := by simpa using hl
   go_enter Tryd.func55, Tryd.ntmps55
   go_wp2_with (go_at_call 71; refine (leap_any _ _ (by omega) (by omega)).mono ?_; rintro e w' ⟨rfl, rfl⟩)
   go_ret;exact ⟨ret_i (by rw [mlen_2, if_neg hl]), (Below.refl _ _).alloc (Nat.le_refl _) _⟩
 ·rcases hm with rfl | rfl | rfl | rfl | rfl | rfl | rfl | rfl | rfl | rfl | rfl
  all_goals
   go_enter Tryd.func55, Tryd.ntmps55;go_wp2;go_ret;exact ⟨ret_i (by first | rw [mlen_30 _ _ (by omega)] | rw [mlen_31 _ _ (by omega)]), (Below.refl _ _).alloc (Nat.le_refl _) _⟩
theorem yearStart_any (y : Int) (w : World) (h0 : 1900 ≤ y) (h1 : y ≤ 2100) :
  Calls Tryd.prog 56 #[.int .i64 y] w fun e w' => e = .returned (.int .i64 (ystart y)) ∧ w = w' := by
 by_cases hl : 1900 < y
 ·go_enter Tryd.func56, Tryd.ntmps56;go_wp2;go_ret;exact ⟨ret_i (by rw [ystart, if_pos hl]; omega), rfl⟩
 ·obtain rfl : y = 1900 := by omega
  go_enter Tryd.func56, Tryd.ntmps56;go_wp2;go_ret;exact ⟨ret_i (by decide), rfl⟩
def vmonB (d : Int) : Bool := decide (0 ≤ d ∧ d ≤ 2399)
theorem ret_ib {k : IntKind} {a b : Int} {p q : Bool} (h : a = b) (h' : p = q) : Ending.returned (.tuple #[.int k a, .bool p]) = .returned (.tuple #[.int k b, .bool q]) := by rw [h, h']
theorem Day_no (y m d : Int) (w : World) (h : dateB y m d = false) :
  Calls Tryd.prog 36 #[.int .i64 y, .int .i64 m, .int .i64 d] w fun e w' => e = .returned (.tuple #[.int .i64 0, .bool false]) ∧ Below w.heap.size w w' := by
 by_cases c1 : y < 1900
 ·clear h;go_enter Tryd.func36, Tryd.ntmps36;go_wp2
  go_ret2
  exact ⟨rfl, Below.refl _ _⟩
 by_cases c2 : 2099 < y
 ·clear h;go_enter Tryd.func36, Tryd.ntmps36;go_wp2
  go_ret2
  exact ⟨rfl, Below.refl _ _⟩
 by_cases c3 : m < 1
 ·clear h;go_enter Tryd.func36, Tryd.ntmps36;go_wp2
  go_ret2
  exact ⟨rfl, Below.refl _ _⟩
 by_cases c4 : 12 < m
 ·clear h;go_enter Tryd.func36, Tryd.ntmps36;go_wp2
  go_ret2
  exact ⟨rfl, Below.refl _ _⟩
 by_cases c5 : d < 1
 ·clear h;go_enter Tryd.func36, Tryd.ntmps36;go_wp2
  go_ret2
  exact ⟨rfl, Below.refl _ _⟩
 have c6 : mlen y m < d := by
  have := dateB_iff y m d;rw [h] at this; simp at this; omega
 clear h;go_enter Tryd.func36, Tryd.ntmps36
 go_wp2_with (go_at_call 55; refine (monthLength_any _ _ _ (by omega) (by omega) (by omega) (by omega)).mono ?_; rintro e w' ⟨rfl, hb⟩)
 go_ret2
 exact ⟨rfl, hb⟩
theorem Day_yes (y m d : Int) (w : World) (h : dateB y m d = true) :
  Calls Tryd.prog 36 #[.int .i64 y, .int .i64 m, .int .i64 d] w fun e w' => e = .returned (.tuple #[.int .i64 (ystart y + cum y (m.toNat - 1) + d - 1), .bool true]) ∧ Below w.heap.size w w' := by
 obtain ⟨h0, h1, h2, h3, h4, h5⟩ := (dateB_iff y m d).1 h;clear h;have b1 := ystart_bd y h0 (by omega);have b2 := mlen_bd y m;go_enter Tryd.func36, Tryd.ntmps36
 go_wp2_with (first | (go_at_call 55; refine (monthLength_any _ _ _ (by omega) (by omega) (by omega) (by omega)).mono ?_; rintro e w1 ⟨rfl, hb1⟩) | (go_at_call 56; refine (yearStart_any _ _ (by omega) (by omega)).mono ?_; rintro e w2 ⟨rfl, rfl⟩))
 go_loopw [8, 9] (fun t i wr => ∃ k : Nat, k + 1 ≤ m ∧ i = .int .i64 (k + 1) ∧ t = .int .i64 (ystart y + d - 1 + cum y k) ∧ Below w.heap.size w wr) (fun _ i _ => (m - intOf i).toNat)
 case atStart => exact ⟨0, by omega, by simp, by simp [cum], hb1⟩
 case round =>
  obtain ⟨k, hk, rfl, rfl, hb⟩ := hrel;have b3 := cum_bd y k;have b4 := mlen_bd y (k + 1);by_cases hlt : (k : Int) + 1 < m
  ·go_wp2_with (go_at_call 55; refine (monthLength_any _ _ _ (by omega) (by omega) (by omega) (by omega)).mono ?_; rintro e w1 ⟨rfl, hb1⟩)
   go_roundw
   case rel => exact ⟨k + 1, by omega, by go_num, by simp only [cum]; go_num, hb.trans (hb1.mono hb.size)⟩
   case measure => simp [intOf]; omega
  ·go_wp2
   go_ret2
   have e : m.toNat - 1 = k := by omega
   exact ⟨ret_ib (by rw [e]; omega) rfl, hb⟩
theorem Day_any (y m d : Int) (w : World) :
  Calls Tryd.prog 36 #[.int .i64 y, .int .i64 m, .int .i64 d] w fun e w' => e = .returned (.tuple #[.int .i64 (dayN y m d), .bool (dateB y m d)]) ∧ Below w.heap.size w w' := by
 cases h : dateB y m d
 ·refine (Day_no y m d w h).mono ?_;rintro e w' ⟨rfl, hb⟩;exact ⟨by rw [dayN_no h], hb⟩
 ·refine (Day_yes y m d w h).mono ?_;rintro e w' ⟨rfl, hb⟩;exact ⟨by rw [dayN_yes h], hb⟩
theorem below_seq {w w1 w2 : World} (h : Below w.heap.size w w1) (h2 : Below w1.heap.size w1 w2) : Below w.heap.size w w2 := h.trans (h2.mono h.size)
noncomputable def monI (d : Int) : Int := if vdayB d = true then (monOf d : Int) else -1
def mstN (m : Int) : Int := if vmonB m = true then msum m.toNat else 0
def mdyN (m : Int) : Int := if vmonB m = true then nlen m.toNat else 0
def addB (d n : Int) : Bool := vdayB d && (decide (-2399 ≤ n) && decide (n ≤ 2399))
noncomputable def addOkB (d n : Int) : Bool := addB d n && vmonB (monI d + n)
noncomputable def addN (d n : Int) : Int := if addOkB d n = true then mstN (monI d + n) + min (dD d) (mdyN (monI d + n)) - 1 else 0
end Go.Proofs.YtlmclkaighlfaaaDoor
namespace Go.Proofs.YtlmclkaighlfaaaDoor.Str
set_option maxHeartbeats 16000000
def dl : Nat → Nat → Nat → List UInt8
 | 0, _, _ => []
 | f + 1, n, l => if n = 0 ∧ l = 0 then [] else dl f (n / 10) (l - 1) ++ [UInt8.ofNat (48 + n % 10)]
theorem dl_stop (f : Nat) : dl f 0 0 = [] := by cases f <;> simp [dl]
theorem dl_step (f n l : Nat) (h : 0 < n ∨ 0 < l) : dl (f + 1) n l = dl f (n / 10) (l - 1) ++ [UInt8.ofNat (48 + n % 10)] := by
 rw [dl, if_neg (by omega)]
theorem dl_length (f n l : Nat) : (dl f n l).length ≤ f := by
 induction f generalizing n l with
 | zero => simp [dl]
 | succ f ih =>
  rw [dl]; split
  ·simp
  ·have := ih (n / 10) (l - 1); simp; omega
def allD (l : List UInt8) : Bool := l.all fun c => decide (48 ≤ (c.toNat : Int)) && decide ((c.toNat : Int) ≤ 57)
def val (l : List UInt8) : Int := l.foldl (fun a c => 10 * a + ((c.toNat : Int) - 48)) 0
theorem allD_snoc (l : List UInt8) (c : UInt8) : allD (l ++ [c]) = (allD l && (decide (48 ≤ (c.toNat : Int)) && decide ((c.toNat : Int) ≤ 57))) := by
 simp [allD]
theorem val_snoc (l : List UInt8) (c : UInt8) : val (l ++ [c]) = 10 * val l + ((c.toNat : Int) - 48) := by
 simp [val]
theorem val_nil : val [] = 0 := rfl
theorem snoc_ind {p : List UInt8 → Prop} (h0 : p []) (h1 : ∀ l c, p l → p (l ++ [c])) (l : List UInt8) : p l := by
 have : ∀ n (l : List UInt8), l.length = n → p l := by
  intro n
  induction n with
  | zero => intro l hl; rw [List.length_eq_zero_iff.1 hl]; exact h0
  | succ n ih =>
   intro l hl;have hne : l ≠ [] := by intro e; rw [e] at hl; simp at hl
   rw [← List.dropLast_concat_getLast hne];exact h1 _ _ (ih _ (by simp [hl]))
 exact this _ l rfl
theorem val_bd (l : List UInt8) : allD l = true → 0 ≤ val l ∧ val l < ((10 ^ l.length : Nat) : Int) := by
 refine snoc_ind (p := fun l => allD l = true → 0 ≤ val l ∧ val l < ((10 ^ l.length : Nat) : Int)) ?_ ?_ l
 ·intro _; simp [val_nil]
 ·intro l c ih h;rw [allD_snoc] at h;simp at h;obtain ⟨h1, h2, h3⟩ := h;have := ih h1;rw [val_snoc, List.length_append, List.length_singleton, Nat.pow_succ];omega
theorem val_le16 (l : List UInt8) (h : allD l = true) (hl : l.length ≤ 16) : 0 ≤ val l ∧ val l ≤ 10000000000000000 := by
 have h1 := val_bd l h;have h2 : 10 ^ l.length ≤ 10 ^ 16 := Nat.pow_le_pow_right (by omega) hl;omega
theorem take_snoc (s : ByteArray) (k : Nat) (h : k < s.size) : s.data.toList.take (k + 1) = s.data.toList.take k ++ [s[k]] := by
 rw [List.take_succ_eq_append_getElem (by simpa using h)]; rfl
theorem take_all (s : ByteArray) (k : Nat) (h : s.size ≤ k) : s.data.toList.take k = s.data.toList :=
 List.take_of_length_le (by simpa using h)
theorem allD_take (l : List UInt8) (k : Nat) (h : allD l = true) : allD (l.take k) = true := by
 unfold allD at *;rw [List.all_eq_true] at *;exact fun x hx => h x (List.mem_of_mem_take hx)
theorem allD_not (s : ByteArray) (k : Nat) (h : k < s.size) (hd : ¬ (48 ≤ (s[k].toNat : Int) ∧ (s[k].toNat : Int) ≤ 57)) : allD s.data.toList = false := by
 cases hA : allD s.data.toList
 ·rfl
 ·have := allD_take _ (k + 1) hA;rw [take_snoc s k h, allD_snoc] at this;simp at this;omega
theorem allD_dl (f n l : Nat) : allD (dl f n l) = true := by
 induction f generalizing n l with
 | zero => rfl
 | succ f ih =>
  rw [dl]; split
  ·rfl
  ·rw [allD_snoc, ih];simp; omega
theorem val_dl (f n l : Nat) (hf : n < 10 ^ f) (hl : l ≤ f) : val (dl f n l) = n := by
 induction f generalizing n l with
 | zero => simp at hf; subst hf; rfl
 | succ f ih =>
  rw [dl]; split
  ·rename_i h; rw [h.1]; rfl
  ·rw [Nat.pow_succ] at hf;have hlt : n / 10 < 10 ^ f := by omega
   rw [val_snoc, ih _ _ hlt (by omega)]
   have : (UInt8.ofNat (48 + n % 10)).toNat = 48 + n % 10 := by
    rw [UInt8.toNat_ofNat']; omega
   rw [this]; omega
end Go.Proofs.YtlmclkaighlfaaaDoor.Str
namespace Go.Proofs.YtlmclkaighlfaaaDoor
set_option maxHeartbeats 16000000
open Go.RowKit Cal Str
def numV (l : List UInt8) : Int := if allD l = true then val l else 0
theorem numV_no {l : List UInt8} (h : allD l = false) : numV l = 0 := by unfold numV; rw [if_neg (by simp [h])]
theorem numV_yes {l : List UInt8} (h : allD l = true) : numV l = val l := by unfold numV; rw [if_pos h]
def strV (s : ByteArray) : Int := numV s.data.toList
def strB (s : ByteArray) : Bool := allD s.data.toList
theorem number_any (s : ByteArray) (w : World) (hs : s.size ≤ 16) :
  Calls Tryd.prog 35 #[.string s] w fun e w' => e = .returned (.tuple #[.int .i64 (strV s), .bool (strB s)]) ∧ w = w' := by
 go_enter Tryd.func35, Tryd.ntmps35;go_wp2
 go_loop [4, 5] (fun x i => ∃ k : Nat, k ≤ s.size ∧ i = .int .i64 k ∧ x = .int .i64 (val (s.data.toList.take k)) ∧ Hid (allD (s.data.toList.take k) = true)) (fun _ i => s.size - (intOf i).toNat)
 case atStart => exact ⟨0, by omega, rfl, rfl, rfl⟩
 case round =>
  obtain ⟨k, hk, rfl, rfl, hA⟩ := hrel;have hl : (s.data.toList.take k).length ≤ k := List.length_take_le _ _;obtain ⟨v0, v1⟩ := val_le16 _ hA.out (by omega);by_cases hlt : k < s.size
  ·have hts := Hj (take_snoc s k hlt);have c0 : 0 ≤ (s[k].toNat : Int) := by omega
   have c1 : (s[k].toNat : Int) ≤ 255 := by have := s[k].toNat_lt; omega
   by_cases hd : 48 ≤ (s[k].toNat : Int) ∧ (s[k].toNat : Int) ≤ 57
   ·obtain ⟨d0, d1⟩ := hd;have e1 : val (s.data.toList.take (k + 1)) = 10 * val (s.data.toList.take k) + ((s[k].toNat : Int) - 48) := by rw [hts.out, val_snoc]
    have e2 : allD (s.data.toList.take (k + 1)) = true := by rw [hts.out, allD_snoc, hA.out]; simp; omega
    have E1 := Hj e1;have E2 := Hj e2;clear e1 e2;go_wp2
    go_round
    case rel => exact ⟨k + 1, by omega, by go_num, by rw [E1.out], E2⟩
    case measure => simp [intOf]; omega
   ·have hno := allD_not s k hlt hd;have hn0 := Hj (numV_no hno);have hN := Hj hno;clear hno;go_wp2
    all_goals
     go_ret2
     exact ⟨ret_ib hn0.out.symm hN.out.symm, rfl⟩
  ·have ht := take_all s k (by omega)
   have hv : val (s.data.toList.take k) = numV s.data.toList := by
    have := hA.out; rw [ht] at this; rw [numV_yes this, ht]
   have hT : allD s.data.toList = true := by rw [← ht]; exact hA.out
   have HV := Hj hv;have HT := Hj hT;clear ht hv hT;go_wp2
   go_ret2
   exact ⟨ret_ib HV.out HT.out.symm, rfl⟩
def byteAt (s : ByteArray) (k : Nat) : Int := if h : k < s.size then ((s[k]'h).toNat : Int) else 0
def formB (s : ByteArray) : Bool := decide (s.size = 10) && (byteAt s 4 == 45 && byteAt s 7 == 45)
def digsB (s : ByteArray) : Bool := strB (s.extract 0 4) && (strB (s.extract 5 7) && strB (s.extract 8 s.size))
def prsB (s : ByteArray) : Bool := formB s && (digsB s && dateB (strV (s.extract 0 4)) (strV (s.extract 5 7)) (strV (s.extract 8 s.size)))
def prsN (s : ByteArray) : Int := if formB s = true ∧ digsB s = true then dayN (strV (s.extract 0 4)) (strV (s.extract 5 7)) (strV (s.extract 8 s.size)) else 0
theorem form_cases {s : ByteArray} (h : formB s = false) : ¬ s.size = 10 ∨ (∃ (h4 : 4 < s.size), 7 < s.size ∧ s.size ≤ 10 ∧ 10 ≤ s.size ∧ ¬ (s[4].toNat : Int) = 45) ∨ (∃ (h4 : 4 < s.size) (h7 : 7 < s.size), s.size ≤ 10 ∧ 10 ≤ s.size ∧ (s[4].toNat : Int) = 45 ∧ ¬ (s[7].toNat : Int) = 45) := by
 by_cases h1 : s.size = 10
 ·have h4 : 4 < s.size := by omega
  have h7 : 7 < s.size := by omega
  have g4 : byteAt s 4 = (s[4].toNat : Int) := by unfold byteAt; rw [dif_pos h4]
  have g7 : byteAt s 7 = (s[7].toNat : Int) := by unfold byteAt; rw [dif_pos h7]
  by_cases e4 : (s[4].toNat : Int) = 45
  ·refine .inr (.inr ⟨h4, h7, by omega, by omega, e4, fun e7 => ?_⟩);simp [formB, h1, g4, e4, g7, e7] at h
  ·exact .inr (.inl ⟨h4, h7, by omega, by omega, e4⟩)
 ·exact .inl h1
theorem form_yes {s : ByteArray} (h : formB s = true) : ∃ (h4 : 4 < s.size) (h7 : 7 < s.size), s.size ≤ 10 ∧ 10 ≤ s.size ∧ (s[4].toNat : Int) = 45 ∧ (s[7].toNat : Int) = 45 := by
 simp [formB] at h;obtain ⟨h1, e4, e7⟩ := h;have h4 : 4 < s.size := by omega
 have h7 : 7 < s.size := by omega
 have g4 : byteAt s 4 = (s[4].toNat : Int) := by unfold byteAt; rw [dif_pos h4]
 have g7 : byteAt s 7 = (s[7].toNat : Int) := by unfold byteAt; rw [dif_pos h7]
 exact ⟨h4, h7, by omega, by omega, by omega, by omega⟩
theorem Parse_form (s : ByteArray) (w : World) (hs : s.size ≤ maxLen) (h : formB s = false) :
  Calls Tryd.prog 22 #[.string s] w fun e w' => e = .returned (.tuple #[.int .i64 0, .bool false]) ∧ Below w.heap.size w w' := by
 unfold maxLen at hs
 rcases form_cases h with h1 | ⟨h4, h7, h9, h10, e4⟩ | ⟨h4, h7, h9, h10, e4, e7⟩
 ·have hb : ((s.size : Int) != 10) = true := by simp; omega
  clear h h1;go_enter Tryd.func22, Tryd.ntmps22;go_wp2
  go_ret2
  exact ⟨rfl, Below.refl _ _⟩
 ·have hb : ((s.size : Int) != 10) = false := by simp; omega
  have e4' : ((s[4].toNat : Int) != 45) = true := by simpa using e4
  clear h e4;go_enter Tryd.func22, Tryd.ntmps22;go_wp2
  go_ret2
  exact ⟨rfl, Below.refl _ _⟩
 ·have hb : ((s.size : Int) != 10) = false := by simp; omega
  have e4' : ((s[4].toNat : Int) != 45) = false := by simpa using e4
  have e7' : ((s[7].toNat : Int) != 45) = true := by simpa using e7
  clear h e4 e7;go_enter Tryd.func22, Tryd.ntmps22;go_wp2
  go_ret2
  exact ⟨rfl, Below.refl _ _⟩
theorem pc_size (s : ByteArray) (h : s.size ≤ 10) (a b : Nat) : (s.extract a b).size ≤ 10 := by
 rw [ByteArray.size_extract]; omega
theorem Parse_yes (s : ByteArray) (w : World) (h : formB s = true) :
  Calls Tryd.prog 22 #[.string s] w fun e w' => e = .returned (.tuple #[.int .i64 (prsN s), .bool (prsB s)]) ∧ Below w.heap.size w w' := by
 obtain ⟨h4, h7, h9, h10, e4, e7⟩ := form_yes h;have hb : ((s.size : Int) != 10) = false := by simp; omega
 have e4' : ((s[4].toNat : Int) != 45) = false := by simpa using e4
 have e7' : ((s[7].toNat : Int) != 45) = false := by simpa using e7
 have p1 := pc_size s h9 0 4;have p2 := pc_size s h9 5 7;have p3 := pc_size s h9 8 s.size;clear e4 e7
 cases k1 : strB (s.extract 0 4)
 ·have hF := Hj (show prsN s = 0 ∧ prsB s = false by simp [prsN, prsB, digsB, h, k1]);clear h;go_enter Tryd.func22, Tryd.ntmps22
  go_wp2_with (go_at_call 35; refine (number_any _ _ (by omega)).mono ?_; rintro e w1 ⟨rfl, rfl⟩)
  go_ret2
  exact ⟨ret_ib hF.out.1.symm hF.out.2.symm, (by repeat (first | with_reducible exact Below.refl _ _ | with_reducible assumption | refine below_seq ?_ (by with_reducible assumption)))⟩
 ·cases k2 : strB (s.extract 5 7)
  ·have hF := Hj (show prsN s = 0 ∧ prsB s = false by simp [prsN, prsB, digsB, h, k1, k2]);clear h;go_enter Tryd.func22, Tryd.ntmps22
   go_wp2_with (go_at_call 35; refine (number_any _ _ (by omega)).mono ?_; rintro e w1 ⟨rfl, rfl⟩)
   go_ret2
   exact ⟨ret_ib hF.out.1.symm hF.out.2.symm, (by repeat (first | with_reducible exact Below.refl _ _ | with_reducible assumption | refine below_seq ?_ (by with_reducible assumption)))⟩
  ·cases k3 : strB (s.extract 8 s.size)
   ·have hF := Hj (show prsN s = 0 ∧ prsB s = false by simp [prsN, prsB, digsB, h, k1, k2, k3]);clear h;go_enter Tryd.func22, Tryd.ntmps22
    go_wp2_with (go_at_call 35; refine (number_any _ _ (by omega)).mono ?_; rintro e w1 ⟨rfl, rfl⟩)
    go_ret2
    exact ⟨ret_ib hF.out.1.symm hF.out.2.symm, (by repeat (first | with_reducible exact Below.refl _ _ | with_reducible assumption | refine below_seq ?_ (by with_reducible assumption)))⟩
   ·have hF := Hj (show prsN s = dayN (strV (s.extract 0 4)) (strV (s.extract 5 7)) (strV (s.extract 8 s.size)) ∧ prsB s = dateB (strV (s.extract 0 4)) (strV (s.extract 5 7)) (strV (s.extract 8 s.size)) by simp [prsN, prsB, digsB, h, k1, k2, k3]);clear h;go_enter Tryd.func22, Tryd.ntmps22
    go_wp2_with (first | (go_at_call 35; refine (number_any _ _ (by omega)).mono ?_; rintro e w1 ⟨rfl, rfl⟩) | (go_at_call 36; refine (Day_any _ _ _ _).mono ?_; rintro e w1 ⟨rfl, hb1⟩))
    go_ret2
    exact ⟨ret_ib hF.out.1.symm hF.out.2.symm, (by repeat (first | with_reducible exact Below.refl _ _ | with_reducible assumption | refine below_seq ?_ (by with_reducible assumption)))⟩
theorem Parse_any (s : ByteArray) (w : World) (hs : s.size ≤ maxLen) :
  Calls Tryd.prog 22 #[.string s] w fun e w' => e = .returned (.tuple #[.int .i64 (prsN s), .bool (prsB s)]) ∧ Below w.heap.size w w' := by
 cases h : formB s
 ·refine (Parse_form s w hs h).mono ?_;rintro e w' ⟨rfl, hb⟩;exact ⟨by simp [prsN, prsB, h], hb⟩
 ·exact Parse_yes s w h
end Go.Proofs.YtlmclkaighlfaaaDoor

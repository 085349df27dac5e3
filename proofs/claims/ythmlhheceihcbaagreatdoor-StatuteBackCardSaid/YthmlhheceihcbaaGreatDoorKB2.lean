/- Lemmas, each as it is printed; no conditions but those printed. -/
import Derived.Test.YthmlhheceihcbaaGreatDoorProg
import Derived.WalkKit
import Derived.WalkSpells
import Derived.WalkLawsBesides
import Derived.Lib.Hide
import Derived.Deep.QuietTactic
import Derived.BigQuiet
import Derived.Laws.BytesArg
import Derived.Laws.Concat
import Derived.Handy
import Derived.Lib.Bytealg
import Derived.Test.YthmlhheceihcbaaGreatDoorKB1
import Derived.Deep.CutRange
import Derived.Deep.DeepCutAuto
namespace Go.Proofs.YthmlhheceihcbaaGreatDoor.Cal
set_option maxHeartbeats 16000000
def leapB (y : Int) : Bool := decide (y % 4 = 0 /\ y % 100 ≠ 0 \/ y % 400 = 0)
theorem leapB_iff (y : Int) : leapB y = true ↔ (y % 4 = 0 /\ y % 100 ≠ 0 \/ y % 400 = 0) := by unfold leapB; simp
def mlen (y m : Int) : Int :=
 if m = 2 then (if leapB y = true then 29 else 28) else if m = 4 \/ m = 6 \/ m = 9 \/ m = 11 then 30 else 31
theorem mlen_bd (y m : Int) : 28 <= mlen y m /\ mlen y m <= 31 := by
 unfold mlen; repeat' split
 all_goals omega
def ylen (y : Int) : Int := if leapB y = true then 366 else 365
def ystart (y : Int) : Int := 365 * (y - 1900) + (if y > 1900 then (y - 1901) / 4 else 0)
theorem ystart_bd (y : Int) (h0 : 1900 <= y) (h1 : y <= 2100) : 0 <= ystart y /\ ystart y <= 73049 := by
 unfold ystart; split <;> omega
theorem ystart_succ (y : Int) (h0 : 1900 <= y) (h1 : y <= 2099) : ystart (y + 1) = ystart y + ylen y := by
 unfold ystart ylen;have h := leapB_iff y;by_cases hl : leapB y = true
 ·rw [if_pos hl]; have := h.1 hl
  split <;> split <;> omega
 ·rw [if_neg hl]; have : ¬ (y % 4 = 0 /\ y % 100 ≠ 0 \/ y % 400 = 0) := fun e => hl (h.2 e)
  split <;> split <;> omega
def cum (y : Int) : Nat -> Int
 | 0 => 0
 | k + 1 => cum y k + mlen y (k + 1)
theorem cum_bd (y : Int) (k : Nat) : 28 * k <= cum y k /\ cum y k <= 31 * k := by
 induction k with
 | zero => simp [cum]
 | succ k ih => have := mlen_bd y (k + 1); simp only [cum]; omega
theorem cum_12 (y : Int) : cum y 12 = ylen y := by
 unfold ylen;simp only [cum, mlen]
 by_cases hl : leapB y = true <;> simp [hl]
def nlen (k : Nat) : Int := mlen (1900 + (k / 12 : Nat)) ((k % 12 : Nat) + 1)
def msum : Nat -> Int
 | 0 => 0
 | k + 1 => msum k + nlen k
theorem nlen_bd (k : Nat) : 28 <= nlen k /\ nlen k <= 31 := mlen_bd _ _
theorem msum_bd (k : Nat) : 28 * k <= msum k /\ msum k <= 31 * k := by
 induction k with
 | zero => simp [msum]
 | succ k ih => have := nlen_bd k; simp only [msum]; omega
theorem msum_in (n j : Nat) (h : j <= 12) : msum (12 * n + j) = msum (12 * n) + cum (1900 + n) j := by
 induction j with
 | zero => simp [cum]
 | succ j ih =>
  have h1 : (12 * n + j) / 12 = n := by omega
  have h2 : (12 * n + j) % 12 = j := by omega
  have e : 12 * n + (j + 1) = (12 * n + j) + 1 := by omega
  rw [e, msum, ih (by omega), cum, nlen, h1, h2];omega
theorem msum_year (n : Nat) (h : n <= 200) : msum (12 * n) = ystart (1900 + n) := by
 induction n with
 | zero => simp [msum, ystart]
 | succ n ih =>
  have e : 12 * (n + 1) = 12 * n + 12 := by omega
  have hs := ystart_succ (1900 + n) (by omega) (by omega);rw [e, msum_in n 12 (by omega), ih (by omega), cum_12, <- hs]
  congr 1
theorem msum_eq (n j : Nat) (hn : n < 200) (h : j <= 12) : msum (12 * n + j) = ystart (1900 + n) + cum (1900 + n) j := by
 rw [msum_in n j h, msum_year n (by omega)]
theorem msum_end : msum 2400 = 73049 := by
 have := msum_year 200 (by omega);rw [show 12 * 200 = 2400 from rfl] at this;rw [this]; decide
theorem msum_mono {a b : Nat} (h : a <= b) : msum a <= msum b := by
 induction b with
 | zero => rw [show a = 0 by omega]; exact Int.le_refl _
 | succ b ih =>
  by_cases e : a = b + 1
  ·rw [e]; omega
  ·have := ih (by omega); have := nlen_bd b; simp only [msum]; omega
theorem msum_lt {a b : Nat} (h : a < b) : msum a + nlen a <= msum b := by
 have h1 := msum_mono (show a + 1 <= b from h);simpa [msum] using h1
theorem month_of (d : Int) (h0 : 0 <= d) (h1 : d < 73049) : ∃ k : Nat, k < 2400 /\ msum k <= d /\ d < msum k + nlen k := by
 have key : ∀ n : Nat, d < msum n -> ∃ k : Nat, k < n /\ msum k <= d /\ d < msum k + nlen k := by
  intro n
  induction n with
  | zero => intro h; simp [msum] at h; omega
  | succ n ih =>
   intro h;by_cases hd : d < msum n
   ·obtain ⟨k, hk, a, b⟩ := ih hd; exact ⟨k, by omega, a, b⟩
   ·exact ⟨n, by omega, by omega, by simpa [msum] using h⟩
 exact key 2400 (by rw [msum_end]; exact h1)
theorem month_unique (d : Int) (j k : Nat) (h1 : msum j <= d) (h2 : d < msum j + nlen j) (h3 : msum k <= d) (h4 : d < msum k + nlen k) : j = k := by
 rcases Nat.lt_trichotomy j k with h | h | h
 ·have := msum_lt h; omega
 ·exact h
 ·have := msum_lt h; omega
def vdayB (d : Int) : Bool := decide (0 <= d /\ d <= 73048)
theorem vdayB_iff (d : Int) : vdayB d = true ↔ (0 <= d /\ d <= 73048) := by unfold vdayB; simp
noncomputable def monOf (d : Int) : Nat := Classical.epsilon fun k => k < 2400 /\ msum k <= d /\ d < msum k + nlen k
theorem monOf_spec (d : Int) (h : vdayB d = true) : monOf d < 2400 /\ msum (monOf d) <= d /\ d < msum (monOf d) + nlen (monOf d) := by
 have h' := (vdayB_iff d).1 h;exact Classical.epsilon_spec (month_of d h'.1 (by omega))
theorem monOf_eq (d : Int) (k : Nat) (hk : k < 2400) (h1 : msum k <= d) (h2 : d < msum k + nlen k) : monOf d = k := by
 have := Classical.epsilon_spec (p := fun k => k < 2400 /\ msum k <= d /\ d < msum k + nlen k) ⟨k, hk, h1, h2⟩;exact month_unique d _ _ this.2.1 this.2.2 h1 h2
noncomputable def dY (d : Int) : Int := if vdayB d = true then 1900 + ((monOf d / 12 : Nat) : Int) else 0
noncomputable def dM (d : Int) : Int := if vdayB d = true then ((monOf d % 12 : Nat) : Int) + 1 else 0
noncomputable def dD (d : Int) : Int := if vdayB d = true then d - msum (monOf d) + 1 else 0
theorem dY_no {d : Int} (h : vdayB d = false) : dY d = 0 := by unfold dY; rw [if_neg (by simp [h])]
theorem dM_no {d : Int} (h : vdayB d = false) : dM d = 0 := by unfold dM; rw [if_neg (by simp [h])]
theorem dD_no {d : Int} (h : vdayB d = false) : dD d = 0 := by unfold dD; rw [if_neg (by simp [h])]
theorem dY_yes {d : Int} (h : vdayB d = true) : dY d = 1900 + ((monOf d / 12 : Nat) : Int) := by unfold dY; rw [if_pos h]
theorem dM_yes {d : Int} (h : vdayB d = true) : dM d = ((monOf d % 12 : Nat) : Int) + 1 := by unfold dM; rw [if_pos h]
theorem dD_yes {d : Int} (h : vdayB d = true) : dD d = d - msum (monOf d) + 1 := by unfold dD; rw [if_pos h]
theorem date_bd {d : Int} (h : vdayB d = true) : 1900 <= dY d /\ dY d <= 2099 /\ 1 <= dM d /\ dM d <= 12 /\ 1 <= dD d /\ dD d <= mlen (dY d) (dM d) := by
 have hs := monOf_spec d h;rw [dY_yes h, dM_yes h, dD_yes h];have : mlen (1900 + ((monOf d / 12 : Nat) : Int)) (((monOf d % 12 : Nat) : Int) + 1) = nlen (monOf d) := rfl;rw [this]; omega
theorem date_of (d y : Int) (j : Nat) (h0 : 1900 <= y) (h1 : y <= 2099) (hj : j < 12) (hl : 0 <= d - ystart y - cum y j) (hu : d - ystart y - cum y j < mlen y (j + 1)) :
  vdayB d = true /\ dY d = y /\ dM d = j + 1 /\ dD d = d - ystart y - cum y j + 1 /\ (monOf d : Int) = 12 * (y - 1900) + j := by
 obtain ⟨n, rfl⟩ : ∃ n : Nat, y = 1900 + n := ⟨(y - 1900).toNat, by omega⟩;have e := msum_eq n j (by omega) (by omega);have e1 : (12 * n + j) / 12 = n := by omega
 have e2 : (12 * n + j) % 12 = j := by omega
 have en : nlen (12 * n + j) = mlen (1900 + n) (j + 1) := by rw [nlen, e1, e2]
 have b := msum_bd (12 * n + j);have hlt : 12 * n + j < 2400 := by omega
 have hend := msum_lt hlt;rw [msum_end] at hend;have hm := monOf_eq d (12 * n + j) hlt (by rw [e]; omega) (by rw [e, en]; omega);have hv : vdayB d = true := (vdayB_iff d).2 (by omega);refine ⟨hv, ?_, ?_, ?_, ?_⟩
 ·rw [dY_yes hv, hm, e1]
 ·rw [dM_yes hv, hm, e2]
 ·rw [dD_yes hv, hm, e]; omega
 ·rw [hm]; omega
theorem ystart_guess (d : Int) (h0 : 0 <= d) (h1 : d <= 73048) : 1900 <= 1900 + d / 366 /\ 1900 + d / 366 <= 2099 /\ ystart (1900 + d / 366) <= d := by
 refine ⟨by omega, by omega, ?_⟩
 unfold ystart; split <;> omega
def dateB (y m d : Int) : Bool := decide (1900 <= y /\ y <= 2099 /\ 1 <= m /\ m <= 12 /\ 1 <= d /\ d <= mlen y m)
theorem dateB_iff (y m d : Int) : dateB y m d = true ↔ (1900 <= y /\ y <= 2099 /\ 1 <= m /\ m <= 12 /\ 1 <= d /\ d <= mlen y m) := by unfold dateB; simp
def dayN (y m d : Int) : Int := if dateB y m d = true then ystart y + cum y (m.toNat - 1) + d - 1 else 0
theorem dayN_no {y m d : Int} (h : dateB y m d = false) : dayN y m d = 0 := by unfold dayN; rw [if_neg (by simp [h])]
theorem dayN_yes {y m d : Int} (h : dateB y m d = true) : dayN y m d = ystart y + cum y (m.toNat - 1) + d - 1 := by unfold dayN; rw [if_pos h]
theorem dayN_msum (n j : Nat) (d : Int) (hn : n < 200) (hj : j < 12) (h0 : 1 <= d) (h1 : d <= nlen (12 * n + j)) :
  dateB (1900 + n) (j + 1) d = true /\ dayN (1900 + n) (j + 1) d = msum (12 * n + j) + d - 1 := by
 have e1 : (12 * n + j) / 12 = n := by omega
 have e2 : (12 * n + j) % 12 = j := by omega
 have en : nlen (12 * n + j) = mlen (1900 + n) (j + 1) := by rw [nlen, e1, e2]
 have hb : dateB (1900 + n) (j + 1) d = true := (dateB_iff _ _ _).2 (by omega);refine ⟨hb, ?_⟩;rw [dayN_yes hb, msum_eq n j hn (by omega), show ((j : Int) + 1).toNat - 1 = j by omega]
theorem date_day (y m d : Int) (h : dateB y m d = true) : vdayB (dayN y m d) = true /\ dY (dayN y m d) = y /\ dM (dayN y m d) = m /\ dD (dayN y m d) = d := by
 obtain ⟨h0, h1, h2, h3, h4, h5⟩ := (dateB_iff y m d).1 h;have em : m = ((m.toNat - 1 : Nat) : Int) + 1 := by omega
 have := date_of (dayN y m d) y (m.toNat - 1) h0 h1 (by omega) (by rw [dayN_yes h]; omega) (by rw [dayN_yes h, <- em]; omega);obtain ⟨a, b, c, e, _⟩ := this;refine ⟨a, b, by omega, ?_⟩;rw [e, dayN_yes h]; omega
theorem day_date (d : Int) (h : vdayB d = true) : dateB (dY d) (dM d) (dD d) = true /\ dayN (dY d) (dM d) (dD d) = d := by
 have hs := monOf_spec d h;have hb := date_bd h;have h1 := (dateB_iff _ _ _).2 hb;refine ⟨h1, ?_⟩;have := (dayN_msum (monOf d / 12) (monOf d % 12) (dD d) (by omega) (by omega) (by omega) (by rw [dD_yes h]; rw [show 12 * (monOf d / 12) + monOf d % 12 = monOf d by omega]; omega)).2;rw [dY_yes h, dM_yes h, this, dD_yes h, show 12 * (monOf d / 12) + monOf d % 12 = monOf d by omega];omega
end Go.Proofs.YthmlhheceihcbaaGreatDoor.Cal
namespace Go.Proofs.YthmlhheceihcbaaGreatDoor
set_option maxHeartbeats 16000000
open Go.RowKit Cal Tryz
theorem ret_i {k : IntKind} {a b : Int} (h : a = b) : Ending.returned (.int k a) = .returned (.int k b) := by rw [h]
theorem ret_b {a b : Bool} (h : a = b) : Ending.returned (.bool a) = .returned (.bool b) := by rw [h]
theorem leapB_ff (y : Int) (h : ¬ y % 4 = 0) : (y % 400 == 0) = leapB y := by
 rw [Bool.eq_iff_iff, leapB_iff]; simp; omega
theorem leapB_tt (y : Int) (h : y % 4 = 0) (h2 : ¬ y % 100 = 0) : true = leapB y := by
 rw [Bool.eq_iff_iff, leapB_iff]; simp [h, h2]
theorem leapB_tf (y : Int) (h2 : y % 100 = 0) : (y % 400 == 0) = leapB y := by
 rw [Bool.eq_iff_iff, leapB_iff]; simp; omega
theorem leap_any (y : Int) (w : World) (h0 : 0 <= y) (h1 : y <= 10000) :
  Calls prog 170 #[.int .i64 y] w fun e w' => e = .returned (.bool (leapB y)) /\ w = w' := by
 go_enter func170, ntmps170;go_wp2
 ·go_ret; exact ⟨ret_b (leapB_tf y (by assumption)), rfl⟩
 ·go_ret; exact ⟨ret_b (leapB_tt y (by assumption) (by assumption)), rfl⟩
 ·go_ret; exact ⟨ret_b (leapB_ff y (by assumption)), rfl⟩
theorem rleap_any (y : Int) (w : World) (h0 : 0 <= y) (h1 : y <= 10000) :
  Calls prog 174 #[.int .i64 y] w fun e w' => e = .returned (.bool (leapB y)) /\ w = w' := by
 go_enter func174, ntmps174;go_wp2
 all_goals (go_ret; refine ⟨ret_b ?_, rfl⟩; rw [Bool.eq_iff_iff, leapB_iff]; simp; omega)
theorem mlen_2 (y : Int) : mlen y 2 = if leapB y = true then 29 else 28 := rfl
theorem mlen_30 (y m : Int) (h : m = 4 \/ m = 6 \/ m = 9 \/ m = 11) : mlen y m = 30 := by
 unfold mlen; rw [if_neg (by omega), if_pos h]
theorem mlen_31 (y m : Int) (h : m = 1 \/ m = 3 \/ m = 5 \/ m = 7 \/ m = 8 \/ m = 10 \/ m = 12) : mlen y m = 31 := by
 unfold mlen; rw [if_neg (by omega), if_neg (by omega)]
theorem monthLength_any (y m : Int) (w : World) (h0 : 0 <= y) (h1 : y <= 10000) (hm0 : 1 <= m) (hm1 : m <= 12) :
  Calls prog 133 #[.int .i64 y, .int .i64 m] w fun e w' => e = .returned (.int .i64 (mlen y m)) /\ Below w.heap.size w w' := by
 have hm : m = 2 \/ m = 1 \/ m = 3 \/ m = 4 \/ m = 5 \/ m = 6 \/ m = 7 \/ m = 8 \/ m = 9 \/ m = 10 \/ m = 11 \/ m = 12 := by omega
 rcases hm with rfl | hm
 ·by_cases hl : leapB y = true
  ·go_enter func133, ntmps133
   go_wp2_with (go_at_call 170; refine (leap_any _ _ (by omega) (by omega)).mono ?_; rintro e w' ⟨rfl, rfl⟩)
   go_ret;exact ⟨ret_i (by rw [mlen_2, if_pos hl]), (Below.refl _ _).alloc (Nat.le_refl _) _⟩
  ·have hl' : leapB y = false := by simpa using hl
   go_enter func133, ntmps133
   go_wp2_with (go_at_call 170; refine (leap_any _ _ (by omega) (by omega)).mono ?_; rintro e w' ⟨rfl, rfl⟩)
   go_ret;exact ⟨ret_i (by rw [mlen_2, if_neg hl]), (Below.refl _ _).alloc (Nat.le_refl _) _⟩
 ·rcases hm with rfl | rfl | rfl | rfl | rfl | rfl | rfl | rfl | rfl | rfl | rfl
  all_goals
   go_enter func133, ntmps133;go_wp2;go_ret;exact ⟨ret_i (by first | rw [mlen_30 _ _ (by omega)] | rw [mlen_31 _ _ (by omega)]), (Below.refl _ _).alloc (Nat.le_refl _) _⟩
theorem rlength_any (y m : Int) (w : World) (h0 : 0 <= y) (h1 : y <= 10000) (hm0 : 1 <= m) (hm1 : m <= 12) :
  Calls prog 141 #[.int .i64 y, .int .i64 m] w fun e w' => e = .returned (.int .i64 (mlen y m)) /\ w = w' := by
 have hm : m = 2 \/ m = 1 \/ m = 3 \/ m = 4 \/ m = 5 \/ m = 6 \/ m = 7 \/ m = 8 \/ m = 9 \/ m = 10 \/ m = 11 \/ m = 12 := by omega
 rcases hm with rfl | hm
 ·by_cases hl : leapB y = true
  ·go_enter func141, ntmps141
   go_wp2_with (go_at_call 174; refine (rleap_any _ _ (by omega) (by omega)).mono ?_; rintro e w' ⟨rfl, rfl⟩)
   go_ret;exact ⟨ret_i (by rw [mlen_2, if_pos hl]), rfl⟩
  ·have hl' : leapB y = false := by simpa using hl
   go_enter func141, ntmps141
   go_wp2_with (go_at_call 174; refine (rleap_any _ _ (by omega) (by omega)).mono ?_; rintro e w' ⟨rfl, rfl⟩)
   go_ret;exact ⟨ret_i (by rw [mlen_2, if_neg hl]), rfl⟩
 ·rcases hm with rfl | rfl | rfl | rfl | rfl | rfl | rfl | rfl | rfl | rfl | rfl
  all_goals
   go_enter func141, ntmps141;go_wp2;go_ret;exact ⟨ret_i (by first | rw [mlen_30 _ _ (by omega)] | rw [mlen_31 _ _ (by omega)]), rfl⟩
theorem yearStart_any (y : Int) (w : World) (h0 : 1900 <= y) (h1 : y <= 2100) :
  Calls prog 131 #[.int .i64 y] w fun e w' => e = .returned (.int .i64 (ystart y)) /\ w = w' := by
 by_cases hl : 1900 < y
 ·go_enter func131, ntmps131;go_wp2;go_ret;exact ⟨ret_i (by rw [ystart, if_pos hl]; omega), rfl⟩
 ·obtain rfl : y = 1900 := by omega
  go_enter func131, ntmps131;go_wp2;go_ret;exact ⟨ret_i (by decide), rfl⟩
def vmonB (d : Int) : Bool := decide (0 <= d /\ d <= 2399)
theorem ret_ib {k : IntKind} {a b : Int} {p q : Bool} (h : a = b) (h' : p = q) : Ending.returned (.tuple #[.int k a, .bool p]) = .returned (.tuple #[.int k b, .bool q]) := by rw [h, h']
theorem Day_no (y m d : Int) (w : World) (h : dateB y m d = false) :
  Calls prog 115 #[.int .i64 y, .int .i64 m, .int .i64 d] w fun e w' => e = .returned (.tuple #[.int .i64 0, .bool false]) /\ Below w.heap.size w w' := by
 by_cases c1 : y < 1900
 ·clear h;go_enter func115, ntmps115;go_wp2
  go_ret2
  exact ⟨rfl, Below.refl _ _⟩
 by_cases c2 : 2099 < y
 ·clear h;go_enter func115, ntmps115;go_wp2
  go_ret2
  exact ⟨rfl, Below.refl _ _⟩
 by_cases c3 : m < 1
 ·clear h;go_enter func115, ntmps115;go_wp2
  go_ret2
  exact ⟨rfl, Below.refl _ _⟩
 by_cases c4 : 12 < m
 ·clear h;go_enter func115, ntmps115;go_wp2
  go_ret2
  exact ⟨rfl, Below.refl _ _⟩
 by_cases c5 : d < 1
 ·clear h;go_enter func115, ntmps115;go_wp2
  go_ret2
  exact ⟨rfl, Below.refl _ _⟩
 have c6 : mlen y m < d := by
  have := dateB_iff y m d;rw [h] at this; simp at this; omega
 clear h;go_enter func115, ntmps115
 go_wp2_with (go_at_call 133; refine (monthLength_any _ _ _ (by omega) (by omega) (by omega) (by omega)).mono ?_; rintro e w' ⟨rfl, hb⟩)
 go_ret2
 exact ⟨rfl, hb⟩
theorem Day_yes (y m d : Int) (w : World) (h : dateB y m d = true) :
  Calls prog 115 #[.int .i64 y, .int .i64 m, .int .i64 d] w fun e w' => e = .returned (.tuple #[.int .i64 (ystart y + cum y (m.toNat - 1) + d - 1), .bool true]) /\ Below w.heap.size w w' := by
 obtain ⟨h0, h1, h2, h3, h4, h5⟩ := (dateB_iff y m d).1 h;clear h;have b1 := ystart_bd y h0 (by omega);have b2 := mlen_bd y m;go_enter func115, ntmps115
 go_wp2_with (first | (go_at_call 133; refine (monthLength_any _ _ _ (by omega) (by omega) (by omega) (by omega)).mono ?_; rintro e w1 ⟨rfl, hb1⟩) | (go_at_call 131; refine (yearStart_any _ _ (by omega) (by omega)).mono ?_; rintro e w2 ⟨rfl, rfl⟩))
 go_loopw [8, 9] (fun t i wr => ∃ k : Nat, k + 1 <= m /\ i = .int .i64 (k + 1) /\ t = .int .i64 (ystart y + d - 1 + cum y k) /\ Below w.heap.size w wr) (fun _ i _ => (m - intOf i).toNat)
 case atStart => exact ⟨0, by omega, by simp, by simp [cum], hb1⟩
 case round =>
  obtain ⟨k, hk, rfl, rfl, hb⟩ := hrel;have b3 := cum_bd y k;have b4 := mlen_bd y (k + 1);by_cases hlt : (k : Int) + 1 < m
  ·go_wp2_with (go_at_call 133; refine (monthLength_any _ _ _ (by omega) (by omega) (by omega) (by omega)).mono ?_; rintro e w1 ⟨rfl, hb1⟩)
   go_roundw
   case rel => exact ⟨k + 1, by omega, by go_num, by simp only [cum]; go_num, hb.trans (hb1.mono hb.size)⟩
   case measure => simp [intOf]; omega
  ·go_wp2
   go_ret2
   have e : m.toNat - 1 = k := by omega
   exact ⟨ret_ib (by rw [e]; omega) rfl, hb⟩
theorem Day_any (y m d : Int) (w : World) :
  Calls prog 115 #[.int .i64 y, .int .i64 m, .int .i64 d] w fun e w' => e = .returned (.tuple #[.int .i64 (dayN y m d), .bool (dateB y m d)]) /\ Below w.heap.size w w' := by
 cases h : dateB y m d
 ·refine (Day_no y m d w h).mono ?_;rintro e w' ⟨rfl, hb⟩;exact ⟨by rw [dayN_no h], hb⟩
 ·refine (Day_yes y m d w h).mono ?_;rintro e w' ⟨rfl, hb⟩;exact ⟨by rw [dayN_yes h], hb⟩
theorem nlen_cast (j : Nat) : mlen (1900 + (j : Int) / 12) ((j : Int) % 12 + 1) = nlen j := by
 unfold nlen; congr 1
theorem below_seq {w w1 w2 : World} (h : Below w.heap.size w w1) (h2 : Below w1.heap.size w1 w2) : Below w.heap.size w w2 := h.trans (h2.mono h.size)
noncomputable def monI (d : Int) : Int := if vdayB d = true then (monOf d : Int) else -1
def mstN (m : Int) : Int := if vmonB m = true then msum m.toNat else 0
def mdyN (m : Int) : Int := if vmonB m = true then nlen m.toNat else 0
def addB (d n : Int) : Bool := vdayB d && (decide (-2399 <= n) && decide (n <= 2399))
noncomputable def addOkB (d n : Int) : Bool := addB d n && vmonB (monI d + n)
noncomputable def addN (d n : Int) : Int := if addOkB d n = true then mstN (monI d + n) + min (dD d) (mdyN (monI d + n)) - 1 else 0
end Go.Proofs.YthmlhheceihcbaaGreatDoor
namespace Go.Proofs.YthmlhheceihcbaaGreatDoor.Str
set_option maxHeartbeats 16000000
def dl : Nat -> Nat -> Nat -> List UInt8
 | 0, _, _ => []
 | f + 1, n, l => if n = 0 /\ l = 0 then [] else dl f (n / 10) (l - 1) ++ [UInt8.ofNat (48 + n % 10)]
theorem dl_stop (f : Nat) : dl f 0 0 = [] := by cases f <;> simp [dl]
theorem dl_step (f n l : Nat) (h : 0 < n \/ 0 < l) : dl (f + 1) n l = dl f (n / 10) (l - 1) ++ [UInt8.ofNat (48 + n % 10)] := by
 rw [dl, if_neg (by omega)]
theorem dl_length (f n l : Nat) : (dl f n l).length <= f := by
 induction f generalizing n l with
 | zero => simp [dl]
 | succ f ih =>
  rw [dl]; split
  ·simp
  ·have := ih (n / 10) (l - 1); simp; omega
theorem mk_toList (s : ByteArray) : (⟨s.data.toList.toArray⟩ : ByteArray) = s := by simp
theorem append_mk (l : List UInt8) (s : ByteArray) : (⟨l.toArray⟩ : ByteArray) ++ s = ⟨(l ++ s.data.toList).toArray⟩ := by
 have := ByteArray.mk_append_mk l s.data.toList;rw [mk_toList] at this;rw [this]
theorem digit_cut (n : Nat) (h : n < 10) : (ByteArray.mk #[48, 49, 50, 51, 52, 53, 54, 55, 56, 57]).extract n (n + 1) = ⟨[UInt8.ofNat (48 + n)].toArray⟩ := by
 have h10 : n = 0 \/ n = 1 \/ n = 2 \/ n = 3 \/ n = 4 \/ n = 5 \/ n = 6 \/ n = 7 \/ n = 8 \/ n = 9 := by omega
 rcases h10 with rfl | rfl | rfl | rfl | rfl | rfl | rfl | rfl | rfl | rfl <;> decide
theorem dig_k {X k m : Nat} (hX : X <= 1000000000000000000) (hm : m = X / 10 ^ k) (h : ¬ m = 0) : k <= 18 := by
 by_cases c : k <= 18
 ·exact c
 ·have h1 : 10 ^ 19 <= 10 ^ k := Nat.pow_le_pow_right (by omega) (by omega);have h2 : X / 10 ^ k = 0 := Nat.div_eq_of_lt (by omega);omega
theorem dig_step {X k m l : Nat} {s : ByteArray} (hk : k <= 18) (h : 0 < m \/ 0 < l - k) (hE : dl 40 X l = dl (40 - k) m (l - k) ++ s.data.toList) :
  dl 40 X l = dl (40 - (k + 1)) (m / 10) (l - (k + 1)) ++ ((ByteArray.mk #[48, 49, 50, 51, 52, 53, 54, 55, 56, 57]).extract (m % 10) (m % 10 + 1) ++ s).data.toList := by
 rw [hE, show 40 - k = (40 - (k + 1)) + 1 by omega, dl_step _ _ _ h, digit_cut _ (by omega), append_mk];simp [Nat.sub_sub]
theorem dig_div {X k m : Nat} (hm : m = X / 10 ^ k) : m / 10 = X / 10 ^ (k + 1) := by
 rw [hm, Nat.div_div_eq_div_mul, Nat.pow_succ]
theorem dig_size (n : Nat) (s : ByteArray) (h : n < 10) : ((ByteArray.mk #[48, 49, 50, 51, 52, 53, 54, 55, 56, 57]).extract n (n + 1) ++ s).size = s.size + 1 := by
 rw [digit_cut _ h, append_mk];show ([UInt8.ofNat (48 + n)] ++ s.data.toList).toArray.size = s.data.size + 1
 rw [List.size_toArray, List.length_append, List.length_singleton, Array.length_toList]; omega
def dgt (x l : Int) : ByteArray := ⟨(dl 40 x.toNat l.toNat).toArray⟩
theorem dgt_size (x l : Int) : (dgt x l).size <= 40 := by
 have := dl_length 40 x.toNat l.toNat;show (dl 40 x.toNat l.toNat).toArray.size <= 40
 simpa using this
def allD (l : List UInt8) : Bool := l.all fun c => decide (48 <= (c.toNat : Int)) && decide ((c.toNat : Int) <= 57)
def val (l : List UInt8) : Int := l.foldl (fun a c => 10 * a + ((c.toNat : Int) - 48)) 0
theorem allD_snoc (l : List UInt8) (c : UInt8) : allD (l ++ [c]) = (allD l && (decide (48 <= (c.toNat : Int)) && decide ((c.toNat : Int) <= 57))) := by
 simp [allD]
theorem val_snoc (l : List UInt8) (c : UInt8) : val (l ++ [c]) = 10 * val l + ((c.toNat : Int) - 48) := by
 simp [val]
theorem val_nil : val [] = 0 := rfl
theorem snoc_ind {p : List UInt8 -> Prop} (h0 : p []) (h1 : ∀ l c, p l -> p (l ++ [c])) (l : List UInt8) : p l := by
 have : ∀ n (l : List UInt8), l.length = n -> p l := by
  intro n
  induction n with
  | zero => intro l hl; rw [List.length_eq_zero_iff.1 hl]; exact h0
  | succ n ih =>
   intro l hl;have hne : l ≠ [] := by intro e; rw [e] at hl; simp at hl
   rw [<- List.dropLast_concat_getLast hne];exact h1 _ _ (ih _ (by simp [hl]))
 exact this _ l rfl
theorem val_bd (l : List UInt8) : allD l = true -> 0 <= val l /\ val l < ((10 ^ l.length : Nat) : Int) := by
 refine snoc_ind (p := fun l => allD l = true -> 0 <= val l /\ val l < ((10 ^ l.length : Nat) : Int)) ?_ ?_ l
 ·intro _; simp [val_nil]
 ·intro l c ih h;rw [allD_snoc] at h;simp at h;obtain ⟨h1, h2, h3⟩ := h;have := ih h1;rw [val_snoc, List.length_append, List.length_singleton, Nat.pow_succ];omega
theorem val_le16 (l : List UInt8) (h : allD l = true) (hl : l.length <= 16) : 0 <= val l /\ val l <= 10000000000000000 := by
 have h1 := val_bd l h;have h2 : 10 ^ l.length <= 10 ^ 16 := Nat.pow_le_pow_right (by omega) hl;omega
theorem take_snoc (s : ByteArray) (k : Nat) (h : k < s.size) : s.data.toList.take (k + 1) = s.data.toList.take k ++ [s[k]] := by
 rw [List.take_succ_eq_append_getElem (by simpa using h)]; rfl
theorem take_all (s : ByteArray) (k : Nat) (h : s.size <= k) : s.data.toList.take k = s.data.toList :=
 List.take_of_length_le (by simpa using h)
theorem allD_take (l : List UInt8) (k : Nat) (h : allD l = true) : allD (l.take k) = true := by
 unfold allD at *;rw [List.all_eq_true] at *;exact fun x hx => h x (List.mem_of_mem_take hx)
theorem allD_not (s : ByteArray) (k : Nat) (h : k < s.size) (hd : ¬ (48 <= (s[k].toNat : Int) /\ (s[k].toNat : Int) <= 57)) : allD s.data.toList = false := by
 cases hA : allD s.data.toList
 ·rfl
 ·have := allD_take _ (k + 1) hA;rw [take_snoc s k h, allD_snoc] at this;simp at this;omega
theorem allD_dl (f n l : Nat) : allD (dl f n l) = true := by
 induction f generalizing n l with
 | zero => rfl
 | succ f ih =>
  rw [dl]; split
  ·rfl
  ·rw [allD_snoc, ih];simp; omega
theorem val_dl (f n l : Nat) (hf : n < 10 ^ f) (hl : l <= f) : val (dl f n l) = n := by
 induction f generalizing n l with
 | zero => simp at hf; subst hf; rfl
 | succ f ih =>
  rw [dl]; split
  ·rename_i h; rw [h.1]; rfl
  ·rw [Nat.pow_succ] at hf;have hlt : n / 10 < 10 ^ f := by omega
   rw [val_snoc, ih _ _ hlt (by omega)]
   have : (UInt8.ofNat (48 + n % 10)).toNat = 48 + n % 10 := by
    rw [UInt8.toNat_ofNat']; omega
   rw [this]; omega
theorem length_dl (f n l : Nat) (hn : n < 10 ^ l) (hl : l <= f) : (dl f n l).length = l := by
 induction f generalizing n l with
 | zero => simp [dl]; omega
 | succ f ih =>
  rw [dl]; split
  ·rename_i h; simp [h.2]
  ·rename_i h
   obtain ⟨l', rfl⟩ : ∃ l', l = l' + 1 := ⟨l - 1, by
    rcases Nat.eq_zero_or_pos l with e | e
    ·rw [e] at hn; simp at hn; omega
    ·omega⟩
   rw [Nat.pow_succ] at hn;have := ih (n / 10) l' (by omega) (by omega);simp [this]
end Go.Proofs.YthmlhheceihcbaaGreatDoor.Str
namespace Go.Proofs.YthmlhheceihcbaaGreatDoor
set_option maxHeartbeats 16000000
open Go.RowKit Cal Str Tryz
def strLen : Value -> Nat
 | .string s => s.size
 | _ => 0
theorem rdigits_any (x l : Int) (w : World) (h0 : 0 <= x) (h1 : x <= 1000000000000000000) (l0 : 0 <= l) (l1 : l <= 10) :
  Calls prog 55 #[.int .i64 x, .int .i64 l] w fun e w' => e = .returned (.string (dgt x l)) /\ w = w' := by
 go_enter func55, ntmps55;go_wp2
 go_loop [0, 5] (fun n t => ∃ (k : Nat) (m : Nat) (s : ByteArray), n = .int .i64 m /\ t = .string s /\ Hid (s.size = k) /\ k <= 19 /\ m <= 1000000000000000000 /\ Hid (m = x.toNat / 10 ^ k) /\ Hid (dl 40 x.toNat l.toNat = dl (40 - k) m (l.toNat - k) ++ s.data.toList)) (fun n t => (intOf n).toNat + (l.toNat - strLen t))
 case atStart => exact ⟨0, x.toNat, ⟨#[]⟩, by rw [show ((x.toNat : Nat) : Int) = x by omega], rfl, rfl, by omega, by omega, by unfold Hid; simp, by unfold Hid; simp⟩
 case round =>
  obtain ⟨k, m, s, rfl, rfl, hs, hk, hm, hd, hE⟩ := hrel;have hX : x.toNat <= 1000000000000000000 := by omega
  have hs0 : s.size <= 19 := by rw [hs.out]; exact hk
  by_cases hz : m = 0
  ·subst hz;by_cases hl : (k : Int) < l
   ·have hl2 : (s.size : Int) < l := by rw [hs.out]; exact hl
    have r1 := Hj (dig_step (k := k) (m := 0) (by omega) (by omega) hE.out);have r2 := Hj (dig_div hd.out);have r3 := Hj (dig_size 0 s (by omega));go_wp2
    go_round
    case rel => exact ⟨k + 1, 0, _, rfl, rfl, r3.out.trans (by rw [hs.out]), by omega, by omega, r2.out, r1.out⟩
    case measure => simp only [strLen, r3.out]; simp [intOf]; omega
   ·have hl2 : ¬ (s.size : Int) < l := by rw [hs.out]; exact hl
    go_wp2;go_ret;have e := hE.out;rw [show l.toNat - k = 0 by omega, dl_stop, List.nil_append] at e;exact ⟨by rw [dgt, e]; simp, rfl⟩
  ·have hk8 := dig_k hX hd.out hz;have r1 := Hj (dig_step (k := k) (m := m) hk8 (by omega) hE.out);have r2 := Hj (dig_div hd.out);have r3 := Hj (dig_size (m % 10) s (by omega));have hz' : (0 : Int) < m := by omega
   go_wp2
   go_round
   case rel => exact ⟨k + 1, m / 10, _, by go_num, rfl, r3.out.trans (by rw [hs.out]), by omega, by omega, r2.out, r1.out⟩
   case measure => simp only [strLen, r3.out]; simp [intOf]; omega
def numV (l : List UInt8) : Int := if allD l = true then val l else 0
theorem numV_no {l : List UInt8} (h : allD l = false) : numV l = 0 := by unfold numV; rw [if_neg (by simp [h])]
theorem numV_yes {l : List UInt8} (h : allD l = true) : numV l = val l := by unfold numV; rw [if_pos h]
def strV (s : ByteArray) : Int := numV s.data.toList
def strB (s : ByteArray) : Bool := allD s.data.toList
theorem number_any (s : ByteArray) (w : World) (hs : s.size <= 16) :
  Calls prog 114 #[.string s] w fun e w' => e = .returned (.tuple #[.int .i64 (strV s), .bool (strB s)]) /\ w = w' := by
 go_enter func114, ntmps114;go_wp2
 go_loop [4, 5] (fun x i => ∃ k : Nat, k <= s.size /\ i = .int .i64 k /\ x = .int .i64 (val (s.data.toList.take k)) /\ Hid (allD (s.data.toList.take k) = true)) (fun _ i => s.size - (intOf i).toNat)
 case atStart => exact ⟨0, by omega, rfl, rfl, rfl⟩
 case round =>
  obtain ⟨k, hk, rfl, rfl, hA⟩ := hrel;have hl : (s.data.toList.take k).length <= k := List.length_take_le _ _;obtain ⟨v0, v1⟩ := val_le16 _ hA.out (by omega);by_cases hlt : k < s.size
  ·have hts := Hj (take_snoc s k hlt);have c0 : 0 <= (s[k].toNat : Int) := by omega
   have c1 : (s[k].toNat : Int) <= 255 := by have := s[k].toNat_lt; omega
   by_cases hd : 48 <= (s[k].toNat : Int) /\ (s[k].toNat : Int) <= 57
   ·obtain ⟨d0, d1⟩ := hd;have e1 : val (s.data.toList.take (k + 1)) = 10 * val (s.data.toList.take k) + ((s[k].toNat : Int) - 48) := by rw [hts.out, val_snoc]
    have e2 : allD (s.data.toList.take (k + 1)) = true := by rw [hts.out, allD_snoc, hA.out]; simp; omega
    have E1 := Hj e1;have E2 := Hj e2;clear e1 e2;go_wp2
    go_round
    case rel => exact ⟨k + 1, by omega, by go_num, by rw [E1.out], E2⟩
    case measure => simp [intOf]; omega
   ·have hno := allD_not s k hlt hd;have hn0 := Hj (numV_no hno);have hN := Hj hno;clear hno;go_wp2
    all_goals
     go_ret2
     exact ⟨ret_ib hn0.out.symm hN.out.symm, rfl⟩
  ·have ht := take_all s k (by omega)
   have hv : val (s.data.toList.take k) = numV s.data.toList := by
    have := hA.out; rw [ht] at this; rw [numV_yes this, ht]
   have hT : allD s.data.toList = true := by rw [<- ht]; exact hA.out
   have HV := Hj hv;have HT := Hj hT;clear ht hv hT;go_wp2
   go_ret2
   exact ⟨ret_ib HV.out HT.out.symm, rfl⟩
def byteAt (s : ByteArray) (k : Nat) : Int := if h : k < s.size then ((s[k]'h).toNat : Int) else 0
def formB (s : ByteArray) : Bool := decide (s.size = 10) && (byteAt s 4 == 45 && byteAt s 7 == 45)
def digsB (s : ByteArray) : Bool := strB (s.extract 0 4) && (strB (s.extract 5 7) && strB (s.extract 8 s.size))
def prsB (s : ByteArray) : Bool := formB s && (digsB s && dateB (strV (s.extract 0 4)) (strV (s.extract 5 7)) (strV (s.extract 8 s.size)))
def prsN (s : ByteArray) : Int := if formB s = true /\ digsB s = true then dayN (strV (s.extract 0 4)) (strV (s.extract 5 7)) (strV (s.extract 8 s.size)) else 0
theorem form_cases {s : ByteArray} (h : formB s = false) : ¬ s.size = 10 \/ (∃ (h4 : 4 < s.size), 7 < s.size /\ s.size <= 10 /\ 10 <= s.size /\ ¬ (s[4].toNat : Int) = 45) \/ (∃ (h4 : 4 < s.size) (h7 : 7 < s.size), s.size <= 10 /\ 10 <= s.size /\ (s[4].toNat : Int) = 45 /\ ¬ (s[7].toNat : Int) = 45) := by
 by_cases h1 : s.size = 10
 ·have h4 : 4 < s.size := by omega
  have h7 : 7 < s.size := by omega
  have g4 : byteAt s 4 = (s[4].toNat : Int) := by unfold byteAt; rw [dif_pos h4]
  have g7 : byteAt s 7 = (s[7].toNat : Int) := by unfold byteAt; rw [dif_pos h7]
  by_cases e4 : (s[4].toNat : Int) = 45
  ·refine .inr (.inr ⟨h4, h7, by omega, by omega, e4, fun e7 => ?_⟩);simp [formB, h1, g4, e4, g7, e7] at h
  ·exact .inr (.inl ⟨h4, h7, by omega, by omega, e4⟩)
 ·exact .inl h1
theorem form_yes {s : ByteArray} (h : formB s = true) : ∃ (h4 : 4 < s.size) (h7 : 7 < s.size), s.size <= 10 /\ 10 <= s.size /\ (s[4].toNat : Int) = 45 /\ (s[7].toNat : Int) = 45 := by
 simp [formB] at h;obtain ⟨h1, e4, e7⟩ := h;have h4 : 4 < s.size := by omega
 have h7 : 7 < s.size := by omega
 have g4 : byteAt s 4 = (s[4].toNat : Int) := by unfold byteAt; rw [dif_pos h4]
 have g7 : byteAt s 7 = (s[7].toNat : Int) := by unfold byteAt; rw [dif_pos h7]
 exact ⟨h4, h7, by omega, by omega, by omega, by omega⟩
theorem Parse_form (s : ByteArray) (w : World) (hs : s.size <= maxLen) (h : formB s = false) :
  Calls prog 72 #[.string s] w fun e w' => e = .returned (.tuple #[.int .i64 0, .bool false]) /\ Below w.heap.size w w' := by
 unfold maxLen at hs
 rcases form_cases h with h1 | ⟨h4, h7, h9, h10, e4⟩ | ⟨h4, h7, h9, h10, e4, e7⟩
 ·have hb : ((s.size : Int) != 10) = true := by simp; omega
  clear h h1;go_enter func72, ntmps72;go_wp2
  go_ret2
  exact ⟨rfl, Below.refl _ _⟩
 ·have hb : ((s.size : Int) != 10) = false := by simp; omega
  have e4' : ((s[4].toNat : Int) != 45) = true := by simpa using e4
  clear h e4;go_enter func72, ntmps72;go_wp2
  go_ret2
  exact ⟨rfl, Below.refl _ _⟩
 ·have hb : ((s.size : Int) != 10) = false := by simp; omega
  have e4' : ((s[4].toNat : Int) != 45) = false := by simpa using e4
  have e7' : ((s[7].toNat : Int) != 45) = true := by simpa using e7
  clear h e4 e7;go_enter func72, ntmps72;go_wp2
  go_ret2
  exact ⟨rfl, Below.refl _ _⟩
theorem pc_size (s : ByteArray) (h : s.size <= 10) (a b : Nat) : (s.extract a b).size <= 10 := by
 rw [ByteArray.size_extract]; omega
theorem Parse_yes (s : ByteArray) (w : World) (h : formB s = true) :
  Calls prog 72 #[.string s] w fun e w' => e = .returned (.tuple #[.int .i64 (prsN s), .bool (prsB s)]) /\ Below w.heap.size w w' := by
 obtain ⟨h4, h7, h9, h10, e4, e7⟩ := form_yes h;have hb : ((s.size : Int) != 10) = false := by simp; omega
 have e4' : ((s[4].toNat : Int) != 45) = false := by simpa using e4
 have e7' : ((s[7].toNat : Int) != 45) = false := by simpa using e7
 have p1 := pc_size s h9 0 4;have p2 := pc_size s h9 5 7;have p3 := pc_size s h9 8 s.size;clear e4 e7
 cases k1 : strB (s.extract 0 4)
 ·have hF := Hj (show prsN s = 0 /\ prsB s = false by simp [prsN, prsB, digsB, h, k1]);clear h;go_enter func72, ntmps72
  go_wp2_with (go_at_call 114; refine (number_any _ _ (by omega)).mono ?_; rintro e w1 ⟨rfl, rfl⟩)
  go_ret2
  exact ⟨ret_ib hF.out.1.symm hF.out.2.symm, (by repeat (first | with_reducible exact Below.refl _ _ | with_reducible assumption | refine below_seq ?_ (by with_reducible assumption)))⟩
 ·cases k2 : strB (s.extract 5 7)
  ·have hF := Hj (show prsN s = 0 /\ prsB s = false by simp [prsN, prsB, digsB, h, k1, k2]);clear h;go_enter func72, ntmps72
   go_wp2_with (go_at_call 114; refine (number_any _ _ (by omega)).mono ?_; rintro e w1 ⟨rfl, rfl⟩)
   go_ret2
   exact ⟨ret_ib hF.out.1.symm hF.out.2.symm, (by repeat (first | with_reducible exact Below.refl _ _ | with_reducible assumption | refine below_seq ?_ (by with_reducible assumption)))⟩
  ·cases k3 : strB (s.extract 8 s.size)
   ·have hF := Hj (show prsN s = 0 /\ prsB s = false by simp [prsN, prsB, digsB, h, k1, k2, k3]);clear h;go_enter func72, ntmps72
    go_wp2_with (go_at_call 114; refine (number_any _ _ (by omega)).mono ?_; rintro e w1 ⟨rfl, rfl⟩)
    go_ret2
    exact ⟨ret_ib hF.out.1.symm hF.out.2.symm, (by repeat (first | with_reducible exact Below.refl _ _ | with_reducible assumption | refine below_seq ?_ (by with_reducible assumption)))⟩
   ·have hF := Hj (show prsN s = dayN (strV (s.extract 0 4)) (strV (s.extract 5 7)) (strV (s.extract 8 s.size)) /\ prsB s = dateB (strV (s.extract 0 4)) (strV (s.extract 5 7)) (strV (s.extract 8 s.size)) by simp [prsN, prsB, digsB, h, k1, k2, k3]);clear h;go_enter func72, ntmps72
    go_wp2_with (first | (go_at_call 114; refine (number_any _ _ (by omega)).mono ?_; rintro e w1 ⟨rfl, rfl⟩) | (go_at_call 115; refine (Day_any _ _ _ _).mono ?_; rintro e w1 ⟨rfl, hb1⟩))
    go_ret2
    exact ⟨ret_ib hF.out.1.symm hF.out.2.symm, (by repeat (first | with_reducible exact Below.refl _ _ | with_reducible assumption | refine below_seq ?_ (by with_reducible assumption)))⟩
theorem Parse_any (s : ByteArray) (w : World) (hs : s.size <= maxLen) :
  Calls prog 72 #[.string s] w fun e w' => e = .returned (.tuple #[.int .i64 (prsN s), .bool (prsB s)]) /\ Below w.heap.size w w' := by
 cases h : formB s
 ·refine (Parse_form s w hs h).mono ?_;rintro e w' ⟨rfl, hb⟩;exact ⟨by simp [prsN, prsB, h], hb⟩
 ·exact Parse_yes s w h
end Go.Proofs.YthmlhheceihcbaaGreatDoor
namespace Go.Proofs.YthmlhheceihcbaaGreatDoor.Tok
set_option maxHeartbeats 16000000
open Str
def low (c : UInt8) : Bool := decide (97 <= (c.toNat : Int)) && decide ((c.toNat : Int) <= 122)
def dgb (c : UInt8) : Bool := decide (48 <= (c.toNat : Int)) && decide ((c.toNat : Int) <= 57)
def inw (c : UInt8) : Bool := low c || (dgb c || ((c.toNat : Int) == 95))
def inn (c : UInt8) : Bool := inw c || ((c.toNat : Int) == 46)
theorem drop_cons (s : ByteArray) (k : Nat) (h : k < s.size) : s.data.toList.drop k = s[k] :: s.data.toList.drop (k + 1) := by
 rw [List.drop_eq_getElem_cons (by simpa using h)]; rfl
theorem drop_end (s : ByteArray) (k : Nat) (h : s.size <= k) : s.data.toList.drop k = [] :=
 List.drop_eq_nil_of_le (by simpa using h)
theorem drop_len (s : ByteArray) (k : Nat) : (s.data.toList.drop k).length = s.size - k := by
 rw [List.length_drop]; simp
def skl : Bool -> List UInt8 -> Nat
 | _, [] => 0
 | c, x :: l => if (x.toNat : Int) = 10 then skl false l + 1 else if (x.toNat : Int) = 35 then skl true l + 1 else if c = false /\ ¬ ((x.toNat : Int) = 9 \/ (x.toNat : Int) = 13 \/ (x.toNat : Int) = 32) then 0 else skl c l + 1
theorem skl_le (c : Bool) (l : List UInt8) : skl c l <= l.length := by
 induction l generalizing c with
 | nil => simp [skl]
 | cons x l ih =>
  have h0 := ih false;have h1 := ih true;have h2 := ih c;simp only [skl, List.length_cons];split
  ·omega
  ·split
   ·omega
   ·split <;> omega
theorem skl_nil (c : Bool) : skl c [] = 0 := rfl
theorem skl_10 (c : Bool) {x : UInt8} (l : List UInt8) (h : (x.toNat : Int) = 10) : skl c (x :: l) = skl false l + 1 := by simp only [skl]; rw [if_pos h]
theorem skl_35 (c : Bool) {x : UInt8} (l : List UInt8) (h : (x.toNat : Int) = 35) : skl c (x :: l) = skl true l + 1 := by simp only [skl]; rw [if_neg (by omega), if_pos h]
theorem skl_in {x : UInt8} (l : List UInt8) (h : ¬ (x.toNat : Int) = 10) : skl true (x :: l) = skl true l + 1 := by
 simp only [skl]; rw [if_neg h];by_cases h3 : (x.toNat : Int) = 35
 ·rw [if_pos h3]
 ·rw [if_neg h3, if_neg (by simp)]
theorem skl_bl (c : Bool) {x : UInt8} (l : List UInt8) (h : (x.toNat : Int) = 9 \/ (x.toNat : Int) = 13 \/ (x.toNat : Int) = 32) : skl c (x :: l) = skl c l + 1 := by
 simp only [skl]; rw [if_neg (by omega), if_neg (by omega), if_neg (fun h' => h'.2 h)]
theorem skl_no {x : UInt8} (l : List UInt8) (h0 : ¬ (x.toNat : Int) = 10) (h1 : ¬ (x.toNat : Int) = 35) (h2 : ¬ ((x.toNat : Int) = 9 \/ (x.toNat : Int) = 13 \/ (x.toNat : Int) = 32)) : skl false (x :: l) = 0 := by
 simp only [skl]; rw [if_neg h0, if_neg h1, if_pos ⟨trivial, h2⟩]
def rn (p : UInt8 -> Bool) : List UInt8 -> Nat
 | [] => 0
 | x :: l => if p x = true then rn p l + 1 else 0
theorem rn_le (p : UInt8 -> Bool) (l : List UInt8) : rn p l <= l.length := by
 induction l with
 | nil => simp [rn]
 | cons x l ih => simp only [rn, List.length_cons]; split <;> omega
theorem rn_nil (p : UInt8 -> Bool) : rn p [] = 0 := rfl
theorem rn_yes {p : UInt8 -> Bool} {x : UInt8} (l : List UInt8) (h : p x = true) : rn p (x :: l) = rn p l + 1 := by simp only [rn]; rw [if_pos h]
theorem rn_no {p : UInt8 -> Bool} {x : UInt8} (l : List UInt8) (h : p x = false) : rn p (x :: l) = 0 := by simp only [rn]; rw [if_neg (by simp [h])]
theorem rn_app {p : UInt8 -> Bool} {l m : List UInt8} (h : l.all p = true) : rn p (l ++ m) = l.length + rn p m := by
 induction l with
 | nil => simp
 | cons x l ih => simp at h; rw [List.cons_append, rn_yes _ h.1, ih (by simpa using h.2), List.length_cons]; omega
def sg1 (c : UInt8) : Bool := (c.toNat : Int) == 60 || ((c.toNat : Int) == 62 || ((c.toNat : Int) == 61 || ((c.toNat : Int) == 43 || ((c.toNat : Int) == 45 || ((c.toNat : Int) == 42 || ((c.toNat : Int) == 47 || ((c.toNat : Int) == 40 || ((c.toNat : Int) == 41 || ((c.toNat : Int) == 123 || ((c.toNat : Int) == 125 || ((c.toNat : Int) == 44 || (c.toNat : Int) == 59)))))))))))
def sg2 (c d : UInt8) : Bool := ((c.toNat : Int) == 60 && (d.toNat : Int) == 61) || (((c.toNat : Int) == 62 && (d.toNat : Int) == 61) || ((c.toNat : Int) == 60 && (d.toNat : Int) == 62))
def sgl : List UInt8 -> Nat
 | [] => 0
 | [c] => if sg1 c = true then 1 else 0
 | c :: d :: _ => if sg2 c d = true then 2 else if sg1 c = true then 1 else 0
theorem sgl_le (l : List UInt8) : sgl l <= l.length /\ sgl l <= 2 := by
 match l with
 | [] => simp [sgl]
 | [c] => simp only [sgl, List.length_cons, List.length_nil]; split <;> omega
 | c :: d :: m => simp only [sgl, List.length_cons]; (split; omega; split <;> omega)
/-! Words -/
def okL : List UInt8 -> Bool
 | [] => true
 | x :: l => low x && l.all inw
def wordB (s : ByteArray) : Bool := okL s.data.toList && (decide (1 <= s.size) && decide (s.size <= 12))
theorem low_inw {c : UInt8} (h : low c = true) : inw c = true := by unfold inw; rw [h]; rfl
theorem wordB_short {s : ByteArray} (h : s.size < 1) : wordB s = false := by unfold wordB; simp; omega
theorem wordB_long {s : ByteArray} (h : 12 < s.size) : wordB s = false := by unfold wordB; simp; omega
theorem wordB_ok {s : ByteArray} (h : okL s.data.toList = true) : wordB s = (decide (1 <= s.size) && decide (s.size <= 12)) := by unfold wordB; rw [h]; rfl
theorem list_head (s : ByteArray) (h : 0 < s.size) : s.data.toList = s[0] :: s.data.toList.drop 1 := by
 have := drop_cons s 0 h; rwa [List.drop_zero] at this
theorem wordB_head {s : ByteArray} (h : 0 < s.size) (hl : low s[0] = false) : wordB s = false := by
 unfold wordB; rw [list_head s h]; simp [okL, hl]
theorem okL_all {l : List UInt8} (h : okL l = true) : l.all inw = true := by
 cases l with
 | nil => rfl
 | cons x l => simp [okL] at h; simp [low_inw h.1]; exact h.2
theorem wordB_byte {s : ByteArray} {k : Nat} (h : k < s.size) (hi : inw s[k] = false) : wordB s = false := by
 cases hw : okL s.data.toList
 ·unfold wordB; rw [hw]; rfl
 ·have h1 := okL_all hw;rw [List.all_eq_true] at h1
  have := h1 s[k] (by
   have hl : k < s.data.toList.length := by simpa using h
   exact List.getElem_mem hl)
  rw [hi] at this; cases this
theorem wordB_all {s : ByteArray} (h : 0 < s.size) (h12 : s.size <= 12) (hl : low s[0] = true) (ha : s.data.toList.all inw = true) : wordB s = true := by
 have hok : okL s.data.toList = true := by
  rw [list_head s h] at ha |-;simp only [List.all_cons, Bool.and_eq_true] at ha;simp only [okL, hl, ha.2]; rfl
 rw [wordB_ok hok]; simp; omega
theorem okL_snoc (l : List UInt8) (c : UInt8) (h : l ≠ []) : okL (l ++ [c]) = (okL l && inw c) := by
 cases l with
 | nil => exact absurd rfl h
 | cons x l => simp [okL, Bool.and_assoc]
theorem take_len (s : ByteArray) (k : Nat) (h : k <= s.size) : (s.data.toList.take k).length = k := by
 rw [List.length_take]; have : s.data.toList.length = s.size := by simp
 omega
theorem okL_step {s : ByteArray} {k : Nat} (h : k < s.size) (hA : okL (s.data.toList.take k) = true) (hi : inw s[k] = true) (h0 : 0 < k) : okL (s.data.toList.take (k + 1)) = true := by
 rw [take_snoc s k h, okL_snoc _ _ (by intro e; have h2 := take_len s k (by omega); rw [e] at h2; simp at h2; omega), hA, hi]; rfl
theorem okL_low {s : ByteArray} {k : Nat} (h : k < s.size) (hA : okL (s.data.toList.take k) = true) (hl : low s[k] = true) : okL (s.data.toList.take (k + 1)) = true := by
 by_cases h0 : 0 < k
 ·exact okL_step h hA (low_inw hl) h0
 ·obtain rfl : k = 0 := by omega
  rw [take_snoc s 0 h]; simp [okL, hl]
def skp (s : ByteArray) (a : Nat) : Nat := a + skl false (s.data.toList.drop a)
theorem skp_le {s : ByteArray} {a : Nat} (h : a <= s.size) : skp s a <= s.size /\ a <= skp s a := by
 have := skl_le false (s.data.toList.drop a);rw [drop_len] at this;unfold skp; omega
/-! Decimal texts -/
def sufD (l : List UInt8) : Int := match l.getLast? with
 | none => 2
 | some c => if (c.toNat : Int) = 100 then 3 else if (c.toNat : Int) = 109 then 4 else 2
def bare (l : List UInt8) : List UInt8 := if sufD l = 2 then l else l.take (l.length - 1)
def ahd : List UInt8 -> List UInt8
 | [] => []
 | x :: l => if (x.toNat : Int) = 46 then [] else x :: ahd l
def pnt : List UInt8 -> Bool
 | [] => false
 | x :: l => (x.toNat : Int) == 46 || pnt l
def bhd : List UInt8 -> List UInt8
 | [] => []
 | x :: l => if (x.toNat : Int) = 46 then l else bhd l
theorem ahd_len (l : List UInt8) : (ahd l).length <= l.length := by
 induction l with
 | nil => simp [ahd]
 | cons x l ih => simp only [ahd]; split <;> simp <;> omega
theorem bhd_len (l : List UInt8) : (ahd l).length + (bhd l).length <= l.length := by
 induction l with
 | nil => simp [ahd, bhd]
 | cons x l ih => simp only [ahd, bhd]; split <;> simp <;> omega
theorem bhd_no {l : List UInt8} (h : pnt l = false) : bhd l = [] /\ ahd l = l := by
 induction l with
 | nil => exact ⟨rfl, rfl⟩
 | cons x l ih =>
  simp [pnt] at h;have := ih h.2;simp only [ahd, bhd]; rw [if_neg h.1, if_neg h.1, this.1, this.2]; exact ⟨rfl, rfl⟩
theorem pnt_split {l : List UInt8} (h : pnt l = true) : l = ahd l ++ 46 :: bhd l := by
 induction l with
 | nil => simp [pnt] at h
 | cons x l ih =>
  by_cases h1 : (x.toNat : Int) = 46
  ·simp only [ahd, bhd]; rw [if_pos h1, if_pos h1];have : x = 46 := UInt8.toNat_inj.1 (by show x.toNat = 46; omega);rw [this]; rfl
  ·simp [pnt, h1] at h;simp only [ahd, bhd]; rw [if_neg h1, if_neg h1, List.cons_append, <- ih h]
def hd0 (l : List UInt8) : Bool := match l with
 | [] => false
 | x :: _ => (x.toNat : Int) == 48
def lenB (l : List UInt8) : Bool := decide (1 <= (ahd l).length) && (decide ((ahd l).length <= 9) && (!(decide (2 <= (ahd l).length) && hd0 (ahd l)) && (!pnt l || (decide (1 <= (bhd l).length) && decide ((bhd l).length <= 4)))))
def frmB (l : List UInt8) : Bool := lenB l && (allD (ahd l) && allD (bhd l))
def digN (l : List UInt8) : Int := val (ahd l) * ((10 ^ (bhd l).length : Nat) : Int) + val (bhd l)
def digD (l : List UInt8) : Int := ((10 ^ (bhd l).length : Nat) : Int)
theorem len_facts {l : List UInt8} (h : lenB l = true) : 1 <= (ahd l).length /\ (ahd l).length <= 9 /\ (bhd l).length <= 4 := by
 unfold lenB at h;simp at h;refine ⟨h.1, h.2.1, ?_⟩
 rcases h.2.2.2 with h4 | h4
 ·rw [(bhd_no h4).1]; simp
 ·exact h4.2
theorem dig_bd {l : List UInt8} (h : frmB l = true) : 0 <= digN l /\ digN l < 10000000000000 /\ 1 <= digD l /\ digD l <= 10000 := by
 unfold frmB at h;simp only [Bool.and_eq_true] at h;obtain ⟨h1, h2, h3⟩ := h;obtain ⟨l1, l2, l3⟩ := len_facts h1;obtain ⟨v0, v1⟩ := val_bd _ h2;obtain ⟨u0, u1⟩ := val_bd _ h3
 have p9 : ((10 ^ (ahd l).length : Nat) : Int) <= 1000000000 := by
  have := Nat.pow_le_pow_right (n := 10) (by decide) l2;omega
 have b0 : 1 <= 10 ^ (bhd l).length := Nat.one_le_pow _ _ (by decide)
 have b4 : 10 ^ (bhd l).length <= 10000 := by
  have := Nat.pow_le_pow_right (n := 10) (by decide) l3;omega
 unfold digN digD;generalize 10 ^ (bhd l).length = t at *;have m1 : val (ahd l) * (t : Int) <= 999999999 * t := Int.mul_le_mul_of_nonneg_right (by omega) (by omega);have m0 : 0 <= val (ahd l) * (t : Int) := Int.mul_nonneg v0 (by omega);refine ⟨by omega, by omega, by omega, by omega⟩
end Go.Proofs.YthmlhheceihcbaaGreatDoor.Tok
namespace Go.Proofs.YthmlhheceihcbaaGreatDoor.Tok
set_option maxHeartbeats 16000000
open Str Frac
theorem mk_list (l : List UInt8) : (⟨l.toArray⟩ : ByteArray).data.toList = l := by simp
theorem ba_ext {a b : ByteArray} (h : a.data.toList = b.data.toList) : a = b := by
 cases a; cases b; simpa using h
theorem ext_data (s : ByteArray) (a b : Nat) : (s.extract a b).data.toList = (s.data.toList.drop a).take (b - a) := by
 simp
theorem size_list (s : ByteArray) : s.data.toList.length = s.size := by simp
theorem at_list (s : ByteArray) (k : Nat) (h : k < s.size) : s.data.toList[k]? = some s[k] := by
 have hl : k < s.data.toList.length := by simpa using h
 rw [List.getElem?_eq_getElem hl]; rfl
def ahS (s : ByteArray) : ByteArray := ⟨(ahd s.data.toList).toArray⟩
def bhS (s : ByteArray) : ByteArray := ⟨(bhd s.data.toList).toArray⟩
def pnS (s : ByteArray) : Bool := pnt s.data.toList
theorem ahS_size (s : ByteArray) : (ahS s).size = (ahd s.data.toList).length := by rw [<- size_list, ahS, mk_list]
theorem bhS_size (s : ByteArray) : (bhS s).size = (bhd s.data.toList).length := by rw [<- size_list, bhS, mk_list]
theorem idx_pnt (l : List UInt8) : (pnt l = false /\ Lib.indexByte l 46 = -1) \/ (pnt l = true /\ Lib.indexByte l 46 = ((ahd l).length : Int) /\ (ahd l).length < l.length) := by
 induction l with
 | nil => exact .inl ⟨rfl, rfl⟩
 | cons x l ih =>
  by_cases h : (x.toNat : Int) = 46
  ·have e : x = 46 := UInt8.toNat_inj.1 (by show x.toNat = 46; omega);subst e;exact .inr ⟨by simp [pnt], by simp [Lib.indexByte, ahd], by simp [ahd]⟩
  ·have e : (x == 46) = false := by
    rw [zn]; intro e; subst e; exact h rfl
   rcases ih with ⟨p, i⟩ | ⟨p, i, hl⟩
   ·left; refine ⟨by simp [pnt, p, h], ?_⟩
    simp only [Lib.indexByte, e, i]; rfl
   ·right; refine ⟨by simp [pnt, p], ?_, by simp [ahd, h]; omega⟩
    simp only [Lib.indexByte, e, i, ahd];rw [if_neg h];have : (((ahd l).length : Int) == -1) = false := by rw [zn]; omega
    simp [this]
theorem ah_take (l : List UInt8) : l.take (ahd l).length = ahd l := by
 induction l with
 | nil => rfl
 | cons x l ih =>
  simp only [ahd];split
  ·rfl
  ·simp [ih]
theorem bh_drop {l : List UInt8} (h : pnt l = true) : l.drop ((ahd l).length + 1) = bhd l := by
 have := pnt_split h
 have e : (ahd l ++ 46 :: bhd l).drop ((ahd l).length + 1) = bhd l := by
  rw [<- List.drop_drop, List.drop_left]; rfl
 rw [<- this] at e; exact e
theorem ahS_take (s : ByteArray) {n : Nat} (h : (ahd s.data.toList).length = n) : s.extract 0 n = ahS s := by
 apply ba_ext;rw [ext_data, ahS, mk_list, <- h, List.drop_zero, Nat.sub_zero, ah_take]
theorem bhS_drop (s : ByteArray) {n : Nat} (hp : pnS s = true) (h : (ahd s.data.toList).length = n) : s.extract (n + 1) s.size = bhS s := by
 apply ba_ext;rw [ext_data, bhS, mk_list, <- h, bh_drop hp];apply List.take_of_length_le;have := bhd_len s.data.toList;rw [pnt_split hp] at this;have hl := size_list s;have h3 := congrArg List.length (pnt_split hp);simp only [List.length_append, List.length_cons] at h3;omega
theorem noS (s : ByteArray) (hp : pnS s = false) : ahS s = s /\ bhS s = ⟨#[]⟩ := by
 have := bhd_no hp;exact ⟨ba_ext (by rw [ahS, mk_list, this.2]), ba_ext (by rw [bhS, mk_list, this.1])⟩
def sufI (s : ByteArray) : Int := if h : 0 < s.size then (if ((s[s.size - 1]'(by omega)).toNat : Int) = 100 then 3 else if ((s[s.size - 1]'(by omega)).toNat : Int) = 109 then 4 else 2) else 2
def brS (s : ByteArray) : ByteArray := if sufI s = 2 then s else s.extract 0 (s.size - 1)
theorem suf_nil {s : ByteArray} (h : ¬ 0 < s.size) : sufI s = 2 /\ brS s = s := by
 have e : sufI s = 2 := by unfold sufI; rw [dif_neg h]
 exact ⟨e, by unfold brS; rw [if_pos e]⟩
theorem suf_d {s : ByteArray} (h : 0 < s.size) (hd : ((s[s.size - 1]'(by omega)).toNat : Int) = 100) : sufI s = 3 /\ brS s = s.extract 0 (s.size - 1) := by
 have e : sufI s = 3 := by unfold sufI; rw [dif_pos h, if_pos hd]
 exact ⟨e, by unfold brS; rw [if_neg (by omega)]⟩
theorem suf_m {s : ByteArray} (h : 0 < s.size) (hd : ((s[s.size - 1]'(by omega)).toNat : Int) = 109) : sufI s = 4 /\ brS s = s.extract 0 (s.size - 1) := by
 have e : sufI s = 4 := by unfold sufI; rw [dif_pos h, if_neg (by omega), if_pos hd]
 exact ⟨e, by unfold brS; rw [if_neg (by omega)]⟩
theorem suf_n {s : ByteArray} (h : 0 < s.size) (h1 : ¬ ((s[s.size - 1]'(by omega)).toNat : Int) = 100) (h2 : ¬ ((s[s.size - 1]'(by omega)).toNat : Int) = 109) : sufI s = 2 /\ brS s = s := by
 have e : sufI s = 2 := by unfold sufI; rw [dif_pos h, if_neg h1, if_neg h2]
 exact ⟨e, by unfold brS; rw [if_pos e]⟩
theorem suf_bd (s : ByteArray) : sufI s = 2 \/ sufI s = 3 \/ sufI s = 4 := by
 unfold sufI; split
 ·split
  ·exact .inr (.inl rfl)
  ·split
   ·exact .inr (.inr rfl)
   ·exact .inl rfl
 ·exact .inl rfl
theorem br_size (s : ByteArray) : (brS s).size <= s.size := by
 unfold brS; split
 ·exact Nat.le_refl _
 ·rw [ByteArray.size_extract]; omega
def decB (s : ByteArray) : Bool := frmB (brS s).data.toList
noncomputable def decN (s : ByteArray) : Int := if decB s = true then mkN (digN (brS s).data.toList) (digD (brS s).data.toList) else 0
noncomputable def decD (s : ByteArray) : Int := if decB s = true then mkD (digN (brS s).data.toList) (digD (brS s).data.toList) else 0
def decX (s : ByteArray) : Int := if decB s = true then sufI s else 0
theorem dec_no {s : ByteArray} (h : decB s = false) : decN s = 0 /\ decD s = 0 /\ decX s = 0 := by
 unfold decN decD decX; rw [if_neg (by simp [h]), if_neg (by simp [h]), if_neg (by simp [h])]; exact ⟨rfl, rfl, rfl⟩
theorem dec_yes {s : ByteArray} (h : decB s = true) : decN s = mkN (digN (brS s).data.toList) (digD (brS s).data.toList) /\ decD s = mkD (digN (brS s).data.toList) (digD (brS s).data.toList) /\ decX s = sufI s := by
 unfold decN decD decX; rw [if_pos h, if_pos h, if_pos h]; exact ⟨rfl, rfl, rfl⟩
theorem val_app (a b : List UInt8) : val (a ++ b) = val a * ((10 ^ b.length : Nat) : Int) + val b := by
 induction b using snoc_ind with
 | h0 => simp [val_nil]
 | h1 l c ih =>
  rw [<- List.append_assoc, val_snoc, ih, val_snoc, List.length_append, List.length_cons, List.length_nil, Nat.zero_add, Nat.pow_succ]
  push_cast
  grind
/-! Lowest terms over 2 and 5 -/
theorem cop_of {g : Nat} (hg : g ∣ 10000) (h2 : ¬ 2 ∣ g) (h5 : ¬ 5 ∣ g) : g = 1 := by
 have c2 : Nat.Coprime g 2 := by
  have h : Nat.gcd g 2 ∣ 2 := Nat.gcd_dvd_right _ _;have hl := Nat.le_of_dvd (by decide) h;have hp : 0 < Nat.gcd g 2 := Nat.gcd_pos_of_pos_right _ (by decide)
  rcases (show Nat.gcd g 2 = 1 \/ Nat.gcd g 2 = 2 by omega) with e | e
  ·exact e
  ·exact absurd (e ▸ Nat.gcd_dvd_left g 2) h2
 have c5 : Nat.Coprime g 5 := by
  have h : Nat.gcd g 5 ∣ 5 := Nat.gcd_dvd_right _ _;have hl := Nat.le_of_dvd (by decide) h;have hp : 0 < Nat.gcd g 5 := Nat.gcd_pos_of_pos_right _ (by decide)
  rcases (show Nat.gcd g 5 = 1 \/ Nat.gcd g 5 = 2 \/ Nat.gcd g 5 = 3 \/ Nat.gcd g 5 = 4 \/ Nat.gcd g 5 = 5 by omega) with e | e | e | e | e
  ·exact e
  ·rw [e] at h; exact absurd h (by decide)
  ·rw [e] at h; exact absurd h (by decide)
  ·rw [e] at h; exact absurd h (by decide)
  ·exact absurd (e ▸ Nat.gcd_dvd_left g 5) h5
 have c : Nat.Coprime g (2 ^ 4 * 5 ^ 4) := Nat.Coprime.mul_right (Nat.Coprime.pow_right 4 c2) (Nat.Coprime.pow_right 4 c5);have e : Nat.gcd g 10000 = g := Nat.gcd_eq_left hg;have e2 : Nat.gcd g (2 ^ 4 * 5 ^ 4) = 1 := c;rw [show 2 ^ 4 * 5 ^ 4 = 10000 by decide, e] at e2;exact e2
structure Red (n d N D : Int) : Prop where
 pos : 0 < D
 n0 : 0 <= N
 le : D <= 10000
 nle : N < 10000000000000
 dvd : D ∣ 10000
 eq : N * d = n * D
theorem Red.start {n d : Int} (h0 : 0 <= n) (h1 : n < 10000000000000) (d1 : 1 <= d) (d2 : d ∣ 10000) : Red n d n d :=
 ⟨by omega, h0, Int.le_of_dvd (by decide) d2, h1, d2, rfl⟩
theorem Red.step {n d N D p : Int} (h : Red n d N D) (hp : 2 <= p) (hN : N % p = 0) (hD : D % p = 0) : Red n d (N / p) (D / p) /\ D / p < D := by
 obtain ⟨a, ha⟩ := Int.dvd_of_emod_eq_zero hN;obtain ⟨b, hb⟩ := Int.dvd_of_emod_eq_zero hD;have e1 : N / p = a := by rw [ha, Int.mul_ediv_cancel_left _ (by omega)]
 have e2 : D / p = b := by rw [hb, Int.mul_ediv_cancel_left _ (by omega)]
 have hpos := h.pos;have hn0 := h.n0
 have hb0 : 0 < b := by
  rcases Int.lt_or_le 0 b with hx | hx
  ·exact hx
  ·have := Int.mul_nonneg (show 0 <= p by omega) (show 0 <= -b by omega);have e : p * -b = -(p * b) := Int.mul_neg _ _;omega
 have ha0 : 0 <= a := by
  rcases Int.lt_or_le a 0 with hx | hx
  ·have := Int.mul_pos (show 0 < p by omega) (show 0 < -a by omega);have e : p * -a = -(p * a) := Int.mul_neg _ _;omega
  ·exact hx
 have l1 : 2 * b <= p * b := Int.mul_le_mul_of_nonneg_right hp (by omega);have l2 : 2 * a <= p * a := Int.mul_le_mul_of_nonneg_right hp ha0;have hle := h.le;have hnle := h.nle;rw [e1, e2];refine ⟨⟨hb0, ha0, by omega, by omega, ?_, ?_⟩, by omega⟩
 ·exact Int.dvd_trans ⟨p, by rw [hb, Int.mul_comm]⟩ h.dvd
 ·have he := h.eq;rw [ha, hb] at he;have : p * (a * d) = p * (n * b) := by grind
  exact Int.eq_of_mul_eq_mul_left (by omega) this
theorem Red.fin {n d N D : Int} (h : Red n d N D) (hd : 0 < d) (h0 : 0 <= n) (h1 : n < 10000000000000) (dle : d <= 10000) (h2 : ¬ (N % 2 = 0 /\ D % 2 = 0)) (h5 : ¬ (N % 5 = 0 /\ D % 5 = 0)) : mkN n d = N /\ mkD n d = D := by
 have hpos := h.pos
 have hg : Nat.gcd N.natAbs D.natAbs = 1 := by
  have d1 := Nat.gcd_dvd_left N.natAbs D.natAbs;have d2 := Nat.gcd_dvd_right N.natAbs D.natAbs;have d3 : D.natAbs ∣ 10000 := by have := Int.natAbs_dvd_natAbs.2 h.dvd; simpa using this
  refine cop_of (Nat.dvd_trans d2 d3) (fun k => h2 ?_) (fun k => h5 ?_)
  ·have k1 := Nat.dvd_trans k d1;have k2 := Nat.dvd_trans k d2;omega
  ·have k1 := Nat.dvd_trans k d1;have k2 := Nat.dvd_trans k d2;omega
 have e : mkN n d = nN n d /\ mkD n d = nD n d := by
  unfold mkN mkD mkS;rw [if_neg (by omega), if_neg (by omega), if_neg (by omega)];have : (d.natAbs : Int) = d := by omega
  rw [this]; exact ⟨rfl, rfl⟩
 rw [e.1, e.2]
 have hok : nOk n d = true := by
  have p1 := rD_pos n d hd;have m1 := rD_mul n d;have m2 := rN_mul n d;have gp := gOf_pos n d hd
  have b1 : rD n d <= d := by
   have : 1 * rD n d <= (gOf n d : Int) * rD n d := Int.mul_le_mul_of_nonneg_right (by omega) (by omega);omega
  have b2 : (rN n d).natAbs <= n.natAbs := by
   have e : n.natAbs = gOf n d * (rN n d).natAbs := by
    have := congrArg Int.natAbs m2; rw [Int.natAbs_mul, Int.natAbs_natCast] at this; exact this
   rw [e]; exact Nat.le_mul_of_pos_left _ gp
  unfold nOk; simp; omega
 rcases n_cases n d hd with ⟨_, _, _, hn⟩ | ⟨_, _, hv, he⟩
 ·rw [hok] at hn; cases hn
 ·have hv2 := (validB_iff _ _).1 hv;refine low_unique (by omega) hpos hv2.2 hg ?_;have he2 := h.eq;generalize nN n d = x at *;generalize nD n d = y at *;have : d * (x * D) = d * (N * y) := by grind
  exact Int.eq_of_mul_eq_mul_left (by omega) this
theorem dvd_ten (k : Nat) (h : k <= 4) : ((10 ^ k : Nat) : Int) ∣ 10000 := by
 rcases (show k = 0 \/ k = 1 \/ k = 2 \/ k = 3 \/ k = 4 by omega) with rfl | rfl | rfl | rfl | rfl <;> decide
/-! What decides whether a text is a number -/
theorem decB_eq (s : ByteArray) : decB s = ((decide (1 <= (ahS (brS s)).size) && (decide ((ahS (brS s)).size <= 9) && (!(decide (2 <= (ahS (brS s)).size) && hd0 (ahS (brS s)).data.toList) && (!pnS (brS s) || (decide (1 <= (bhS (brS s)).size) && decide ((bhS (brS s)).size <= 4)))))) && (allD (ahS (brS s)).data.toList && allD (bhS (brS s)).data.toList)) := by
 unfold decB frmB lenB;rw [ahS_size, bhS_size];unfold ahS bhS pnS;rw [mk_list, mk_list]
theorem hd0_at {a : ByteArray} (h : 0 < a.size) : hd0 a.data.toList = ((a[0].toNat : Int) == 48) := by
 rw [list_head a h]; rfl
theorem dig_of {s a b : ByteArray} (ha : ahS (brS s) = a) (hb : bhS (brS s) = b) : digN (brS s).data.toList = val (a.data.toList ++ b.data.toList) /\ digD (brS s).data.toList = ((10 ^ b.size : Nat) : Int) /\ digN (brS s).data.toList = val a.data.toList * ((10 ^ b.size : Nat) : Int) + val b.data.toList := by
 have e1 : a.data.toList = ahd (brS s).data.toList := by rw [<- ha, ahS, mk_list]
 have e2 : b.data.toList = bhd (brS s).data.toList := by rw [<- hb, bhS, mk_list]
 have e3 : b.size = (bhd (brS s).data.toList).length := by rw [<- size_list, e2]
 unfold digN digD;rw [val_app, e1, e2, e3]; exact ⟨rfl, rfl, rfl⟩
end Go.Proofs.YthmlhheceihcbaaGreatDoor.Tok
namespace Go.Proofs.YthmlhheceihcbaaGreatDoor
set_option maxHeartbeats 16000000
open Go.RowKit Cal Str Tok Tryz
set_option linter.unusedVariables false
theorem u8_bd (c : UInt8) : 0 <= (c.toNat : Int) /\ (c.toNat : Int) <= 255 := ⟨by omega, by have := c.toNat_lt; omega⟩
theorem lower_any (c : UInt8) (w : World) :
  Calls prog 149 #[.int .u8 (c.toNat : Int)] w fun e w' => e = .returned (.bool (low c)) /\ w = w' := by
 obtain ⟨c0, c1⟩ := u8_bd c
 by_cases h1 : 97 <= (c.toNat : Int) <;> by_cases h2 : (c.toNat : Int) <= 122
 all_goals
  go_enter func149, ntmps149;go_wp2;go_ret;exact ⟨ret_b (by simp [low]; omega), rfl⟩
theorem letter_any (c : UInt8) (w : World) :
  Calls prog 136 #[.int .u8 (c.toNat : Int)] w fun e w' => e = .returned (.bool (low c)) /\ w = w' := by
 obtain ⟨c0, c1⟩ := u8_bd c
 by_cases h1 : 97 <= (c.toNat : Int) <;> by_cases h2 : (c.toNat : Int) <= 122
 all_goals
  go_enter func136, ntmps136;go_wp2;go_ret;exact ⟨ret_b (by simp [low]; omega), rfl⟩
theorem digit_any (c : UInt8) (w : World) :
  Calls prog 172 #[.int .u8 (c.toNat : Int)] w fun e w' => e = .returned (.bool (dgb c)) /\ w = w' := by
 obtain ⟨c0, c1⟩ := u8_bd c
 by_cases h1 : 48 <= (c.toNat : Int) <;> by_cases h2 : (c.toNat : Int) <= 57
 all_goals
  go_enter func172, ntmps172;go_wp2;go_ret;exact ⟨ret_b (by simp [dgb]; omega), rfl⟩
theorem rdigit_any (c : UInt8) (w : World) :
  Calls prog 137 #[.int .u8 (c.toNat : Int)] w fun e w' => e = .returned (.bool (dgb c)) /\ w = w' := by
 obtain ⟨c0, c1⟩ := u8_bd c
 by_cases h1 : 48 <= (c.toNat : Int) <;> by_cases h2 : (c.toNat : Int) <= 57
 all_goals
  go_enter func137, ntmps137;go_wp2;go_ret;exact ⟨ret_b (by simp [dgb]; omega), rfl⟩
theorem inWord_any (c : UInt8) (w : World) :
  Calls prog 150 #[.int .u8 (c.toNat : Int)] w fun e w' => e = .returned (.bool (inw c)) /\ w = w' := by
 obtain ⟨c0, c1⟩ := u8_bd c;have hi : Hid (inw c = (low c || (dgb c || ((c.toNat : Int) == 95)))) := rfl
 cases hl : low c <;> cases hd : dgb c
 all_goals
  go_enter func150, ntmps150
  go_wp2_with (first | (go_at_call 149; refine (lower_any _ _).mono ?_; rintro e w1 ⟨rfl, rfl⟩) | (go_at_call 172; refine (digit_any _ _).mono ?_; rintro e w1 ⟨rfl, rfl⟩))
  go_ret;exact ⟨ret_b (by rw [hi.out, hl, hd]; rfl), rfl⟩
theorem IsWord_any (s : ByteArray) (w : World) (hs : s.size <= maxLen) :
  Calls prog 111 #[.string s] w fun e w' => e = .returned (.bool (wordB s)) /\ w = w' := by
 unfold maxLen at hs;by_cases h0 : s.size < 1
 ·have hn : Hid (wordB s = false) := wordB_short h0;go_enter func111, ntmps111;go_wp2;go_ret;exact ⟨ret_b hn.out.symm, rfl⟩
 ·by_cases h12 : 12 < s.size
  ·have hn : Hid (wordB s = false) := wordB_long h12;go_enter func111, ntmps111;go_wp2;go_ret;exact ⟨ret_b hn.out.symm, rfl⟩
  ·have hp : 0 < s.size := by omega
   have hlen : (s.size : Int) <= 12 := by omega
   cases hl : low (s[0]'hp)
   ·have hn : Hid (wordB s = false) := wordB_head hp hl;go_enter func111, ntmps111
    go_wp2_with (go_at_call 149; refine (lower_any _ _).mono ?_; rintro e w1 ⟨rfl, rfl⟩)
    go_ret;exact ⟨ret_b hn.out.symm, rfl⟩
   ·have hh := Hj hl;go_enter func111, ntmps111
    go_wp2_with (go_at_call 149; refine (lower_any _ _).mono ?_; rintro e w1 ⟨rfl, rfl⟩)
    go_loop [3] (fun i => ∃ k : Nat, k <= s.size /\ i = .int .i64 k /\ Hid ((s.data.toList.take k).all inw = true)) (fun i => s.size - (intOf i).toNat)
    case atStart => exact ⟨0, by omega, rfl, rfl⟩
    case round =>
     obtain ⟨k, hk, rfl, hA⟩ := hrel;clear hl;by_cases hlt : k < s.size
     ·have hts := Hj (take_snoc s k hlt)
      cases hi : inw s[k]
      ·have hn : Hid (wordB s = false) := wordB_byte hlt hi
       go_wp2_with (go_at_call 150; refine (inWord_any _ _).mono ?_; rintro e w1 ⟨rfl, rfl⟩)
       go_ret;exact ⟨ret_b hn.out.symm, rfl⟩
      ·have hA2 : Hid ((s.data.toList.take (k + 1)).all inw = true) := by
        show _ = _; rw [hts.out, List.all_append, hA.out]; simp [hi]
       go_wp2_with (go_at_call 150; refine (inWord_any _ _).mono ?_; rintro e w1 ⟨rfl, rfl⟩)
       go_round
       case rel => exact ⟨k + 1, by omega, by go_num, hA2⟩
       case measure => simp [intOf]; omega
     ·have hn : Hid (wordB s = true) := wordB_all hp (by omega) hh.out (by have := hA.out; rwa [take_all s k (by omega)] at this);go_wp2;go_ret;exact ⟨ret_b hn.out.symm, rfl⟩
theorem rIsWord_any (s : ByteArray) (w : World) (hs : s.size <= maxLen) :
  Calls prog 98 #[.string s] w fun e w' => e = .returned (.bool (wordB s)) /\ w = w' := by
 unfold maxLen at hs;go_enter func98, ntmps98;go_wp2
 go_loop [3] (fun i => ∃ k : Nat, k <= s.size /\ i = .int .i64 k /\ Hid (okL (s.data.toList.take k) = true)) (fun i => s.size - (intOf i).toNat)
 case atStart => exact ⟨0, by omega, rfl, rfl⟩
 case round =>
  obtain ⟨k, hk, rfl, hA⟩ := hrel;by_cases hlt : k < s.size
  ·obtain ⟨c0, c1⟩ := u8_bd s[k]
   cases hl : low s[k]
   ·by_cases hk0 : k = 0
    ·have hn : Hid (wordB s = false) := by subst hk0; exact wordB_head hlt hl
     subst hk0
     go_wp2_with (go_at_call 136; refine (letter_any _ _).mono ?_; rintro e w1 ⟨rfl, rfl⟩)
     go_ret;exact ⟨ret_b hn.out.symm, rfl⟩
    ·have k0 : ((k : Int) == 0) = false := by simpa using hk0
     cases hd : dgb s[k]
     ·by_cases h95 : (s[k].toNat : Int) = 95
      ·have hA2 : Hid (okL (s.data.toList.take (k + 1)) = true) := okL_step hlt hA.out (by simp [inw, h95]) (by omega);have e1 : ((s[k].toNat : Int) != 95) = false := by simpa using h95
       clear h95
       go_wp2_with (first | (go_at_call 136; refine (letter_any _ _).mono ?_; rintro e w1 ⟨rfl, rfl⟩) | (go_at_call 137; refine (rdigit_any _ _).mono ?_; rintro e w1 ⟨rfl, rfl⟩))
       go_round
       case rel => exact ⟨k + 1, by omega, by go_num, hA2⟩
       case measure => simp [intOf]; omega
      ·have hn : Hid (wordB s = false) := wordB_byte hlt (by simp [inw, hl, hd, h95]);have e1 : ((s[k].toNat : Int) != 95) = true := by simpa using h95
       go_wp2_with (first | (go_at_call 136; refine (letter_any _ _).mono ?_; rintro e w1 ⟨rfl, rfl⟩) | (go_at_call 137; refine (rdigit_any _ _).mono ?_; rintro e w1 ⟨rfl, rfl⟩))
       go_ret;exact ⟨ret_b hn.out.symm, rfl⟩
     ·have hA2 : Hid (okL (s.data.toList.take (k + 1)) = true) := okL_step hlt hA.out (by simp [inw, hd]) (by omega)
      go_wp2_with (first | (go_at_call 136; refine (letter_any _ _).mono ?_; rintro e w1 ⟨rfl, rfl⟩) | (go_at_call 137; refine (rdigit_any _ _).mono ?_; rintro e w1 ⟨rfl, rfl⟩))
      go_round
      case rel => exact ⟨k + 1, by omega, by go_num, hA2⟩
      case measure => simp [intOf]; omega
   ·have hA2 : Hid (okL (s.data.toList.take (k + 1)) = true) := okL_low hlt hA.out hl
    go_wp2_with (go_at_call 136; refine (letter_any _ _).mono ?_; rintro e w1 ⟨rfl, rfl⟩)
    go_round
    case rel => exact ⟨k + 1, by omega, by go_num, hA2⟩
    case measure => simp [intOf]; omega
  ·have hok : okL s.data.toList = true := by have := hA.out; rwa [take_all s k (by omega)] at this
   have hn := Hj (wordB_ok hok);clear hok
   rcases (show (1 <= s.size /\ s.size <= 12) \/ ¬ 1 <= s.size \/ (1 <= s.size /\ ¬ s.size <= 12) by omega) with ⟨h1, h12⟩ | h1 | ⟨h1, h12⟩
   all_goals
    go_wp2;go_ret;exact ⟨ret_b (by rw [hn.out]; first | rfl | (rw [Bool.eq_iff_iff]; simp; omega) | (rw [Bool.eq_iff_iff]; simp [*]; done) | (rw [Bool.eq_iff_iff]; simp [*]; omega)), rfl⟩
theorem skip_any (s : ByteArray) (a : Nat) (w : World) (hs : s.size <= maxLen) (ha : a <= s.size) :
  Calls prog 147 #[.string s, .int .i64 (a : Int)] w fun e w' => e = .returned (.int .i64 (skp s a : Nat)) /\ w = w' := by
 unfold maxLen at hs;go_enter func147, ntmps147;go_wp2
 go_step3
 go_wp2
 go_step3
 go_wp2
 go_loop [1] (fun i => ∃ (k : Nat), k <= s.size /\ i = .int .i64 k /\ Hid (k + skl false (s.data.toList.drop k) = skp s a)) (fun i => s.size - (intOf i).toNat)
 case atStart => exact ⟨a, ha, rfl, rfl⟩
 case round =>
  obtain ⟨k, hk, rfl, hA⟩ := hrel;by_cases hlt : k < s.size
  ·obtain ⟨c0, c1⟩ := u8_bd s[k];have hdr := Hj (drop_cons s k hlt);by_cases hb : (s[k].toNat : Int) = 32 \/ (s[k].toNat : Int) = 9 \/ (s[k].toNat : Int) = 10 \/ (s[k].toNat : Int) = 13
   ·have hA2 : Hid (k + 1 + skl false (s.data.toList.drop (k + 1)) = skp s a) := by
     have h := hA.out;rw [hdr.out] at h
     rcases hb with hb | hb | hb | hb
     ·rw [skl_bl _ _ (by omega)] at h; show _ = _; omega
     ·rw [skl_bl _ _ (by omega)] at h; show _ = _; omega
     ·rw [skl_10 _ _ hb] at h; show _ = _; omega
     ·rw [skl_bl _ _ (by omega)] at h; show _ = _; omega
    rcases hb with hb | hb | hb | hb
    all_goals
     go_wp2
     go_round
     case rel => exact ⟨k + 1, by omega, by go_num, hA2⟩
     case measure => simp [intOf]; omega
   ·have n9 : ((s[k].toNat : Int) == 9) = false := by simp; omega
    have n10 : ((s[k].toNat : Int) == 10) = false := by simp; omega
    have n13 : ((s[k].toNat : Int) == 13) = false := by simp; omega
    have n32 : ((s[k].toNat : Int) == 32) = false := by simp; omega
    by_cases h35 : (s[k].toNat : Int) = 35
    ·have hA3 : Hid (k + skl true (s.data.toList.drop k) = skp s a) := by
      have h := hA.out;rw [hdr.out, skl_35 _ _ h35] at h;show _ = _
      rw [hdr.out, skl_35 _ _ h35]; exact h
     have h35' := Hj h35;go_wp2
     go_loop [1] (fun i => ∃ (j : Nat), k <= j /\ j <= s.size /\ i = .int .i64 j /\ Hid (j + skl true (s.data.toList.drop j) = skp s a)) (fun i => s.size - (intOf i).toNat)
     case atStart => exact ⟨k, by omega, by omega, rfl, hA3⟩
     case round =>
      obtain ⟨j, hkj, hj, rfl, hB⟩ := hrel;clear h35;by_cases hjl : j < s.size
      ·obtain ⟨e0, e1⟩ := u8_bd s[j];have hdj := Hj (drop_cons s j hjl);by_cases h10 : (s[j].toNat : Int) = 10
       ·have hA2 : Hid (j + skl false (s.data.toList.drop j) = skp s a) := by
         have h := hB.out;rw [hdj.out, skl_10 _ _ h10] at h;show _ = _
         rw [hdj.out, skl_10 _ _ h10]; exact h
        have hne : k ≠ j := fun h => by subst h; have := h35'.out; omega
        go_wp2
        go_round
        case rel => exact ⟨j, by omega, rfl, hA2⟩
        case measure => simp [intOf]; omega
       ·have hB2 : Hid (j + 1 + skl true (s.data.toList.drop (j + 1)) = skp s a) := by
         have h := hB.out;rw [hdj.out, skl_in _ h10] at h;show _ = _; omega
        have m10 : ((s[j].toNat : Int) != 10) = true := by simp; omega
        go_wp2
        go_round
        case rel => exact ⟨j + 1, by omega, by omega, by go_num, hB2⟩
        case measure => simp [intOf]; omega
      ·have hA2 : Hid (j + skl false (s.data.toList.drop j) = skp s a) := by
        have h := hB.out;rw [drop_end s j (by omega), skl_nil] at h;show _ = _
        rw [drop_end s j (by omega), skl_nil]; exact h
       go_wp2
       go_round
       case rel => exact ⟨j, by omega, rfl, hA2⟩
       case measure => simp [intOf]; omega
    ·have n35 : ((s[k].toNat : Int) == 35) = false := by simp; omega
     have hz : Hid (k = skp s a) := by
      have := hA.out; rw [hdr.out, skl_no _ (by omega) h35 (by omega)] at this; exact this
     go_wp2;(try rw [Exit.noGoto_ret]);go_ret;exact ⟨ret_i (by rw [<- hz.out]), rfl⟩
  ·have hz : Hid (k = skp s a) := by
    have := hA.out; rw [drop_end s k (by omega), skl_nil] at this; exact this
   go_wp2;(try rw [Exit.noGoto_ret]);go_ret;exact ⟨ret_i (by rw [<- hz.out]), rfl⟩
end Go.Proofs.YthmlhheceihcbaaGreatDoor
namespace Go.Proofs.YthmlhheceihcbaaGreatDoor
set_option maxHeartbeats 16000000
open Go.RowKit Cal Str Tok Frac Tryz
set_option linter.unusedVariables false
theorem index1_any (s : ByteArray) (w : World) : Calls prog 191 #[.string s, .string ⟨#[46]⟩] w fun e w' => e = .returned (.int .i64 (Lib.indexByte s.data.toList 46)) /\ w = w' :=
 (Tryz.stringslite_Index_one s 46 w).mono fun e w' ⟨a, b⟩ => ⟨a, b.symm⟩
theorem cut1_any (s : ByteArray) (w : World) (hs : s.size <= maxLen) :
  Calls prog 171 #[.string s, .string ⟨#[46]⟩] w fun e w' => e = .returned (.tuple #[.string (ahS s), .string (bhS s), .bool (pnS s)]) /\ Rel w w' := by
 unfold maxLen at hs
 rcases idx_pnt s.data.toList with ⟨hp, hi⟩ | ⟨hp, hi, hl⟩
 ·have hr := Hj (noS s hp);have hP : Hid (pnS s = false) := hp;have hI := Hj hi;clear hp hi;go_enter func171, ntmps171
  go_wp2_with (go_at_call 191; refine (index1_any _ _).mono ?_; rw [hI.out]; rintro e w1 ⟨rfl, rfl⟩)
  refine bodyPost_ret ?_ rfl ⟨rfl, Rel.refl _⟩;rw [hr.out.1, hr.out.2, hP.out];simp [results, results171, go_sem]
 ·obtain ⟨n, hn⟩ : ∃ n, (ahd s.data.toList).length = n := ⟨_, rfl⟩;have hlen := size_list s;rw [hn] at hi hl;rw [hlen] at hl;have e1 := Hj (ahS_take s hn);have e2 := Hj (bhS_drop s hp hn);have hP : Hid (pnS s = true) := hp;have hI := Hj hi;clear hp hi hn hlen;have q1 : IntKind.i64.wrap ((n : Int) + 1) = (n : Int) + 1 := IntWalk.i64_in _ ⟨by omega, by omega⟩;have q2 : ((n : Int) + 1).toNat = n + 1 := by omega
  have q3 : (0 : Int) <= (n : Int) + 1 := by omega
  have q4 : (n : Int) + 1 <= (s.size : Int) := by omega
  have q5 : (n : Int) <= (s.size : Int) := by omega
  go_enter func171, ntmps171
  go_wp2_with (go_at_call 191; refine (index1_any _ _).mono ?_; rw [hI.out]; rintro e w1 ⟨rfl, rfl⟩)
  refine wp_region_calm (fun _ _ => True) (fun _ => false) [0, 1, 2, 3, 4, 5, 6, 7, 8, 9, 10, 11] 0 (by kernel_rfl) (by kernel_rfl) (fun _ _ _ _ _ => trivial) trivial (fun w0 h0 => ?_)
  iterate 12
   refine wcg ?_;apply ei
   ·intro M w hM hS;unfold calmAt;go_simp;exact ⟨rfl, Rel.refl _⟩
  refine wpCalm_nil (wpAnyR_end (by kernel_rfl) (fun w1 h1 => ?_));simp only [Act.put, zla, zlb, zlc];go_wp2;refine bodyPost_ret ?_ rfl ⟨rfl, h0.trans h1⟩;rw [<- e1.out, <- e2.out, hP.out];simp [results, results171, go_sem]
theorem cut_any (s : ByteArray) (w : World) (hs : s.size <= maxLen) :
  Calls prog 134 #[.string s, .string ⟨#[46]⟩] w fun e w' => e = .returned (.tuple #[.string (ahS s), .string (bhS s), .bool (pnS s)]) /\ Rel w w' := by
 go_enter func134, ntmps134
 go_wp2_with (go_at_call 171; refine (cut1_any _ _ hs).mono ?_; rintro e w1 ⟨rfl, hb⟩)
 refine bodyPost_ret ?_ rfl ⟨rfl, hb⟩;simp [results, results134, go_sem]
theorem dgb_bd {c : UInt8} (h : dgb c = true) : 48 <= (c.toNat : Int) /\ (c.toNat : Int) <= 57 := by unfold dgb at h; simpa using h
theorem dgb_no {c : UInt8} (h : dgb c = false) : ¬ (48 <= (c.toNat : Int) /\ (c.toNat : Int) <= 57) := by unfold dgb at h; simp at h; omega
theorem natural_any (s : ByteArray) (w : World) (hs : s.size <= 16) :
  Calls prog 135 #[.string s] w fun e w' => e = .returned (.tuple #[.int .i64 (strV s), .bool (strB s)]) /\ w = w' := by
 go_enter func135, ntmps135;go_wp2
 go_loop [2, 4] (fun x i => ∃ k : Nat, k <= s.size /\ i = .int .i64 k /\ x = .int .i64 (val (s.data.toList.take k)) /\ Hid (allD (s.data.toList.take k) = true)) (fun _ i => s.size - (intOf i).toNat)
 case atStart => exact ⟨0, by omega, rfl, rfl, rfl⟩
 case round =>
  obtain ⟨k, hk, rfl, rfl, hA⟩ := hrel;have hl : (s.data.toList.take k).length <= k := List.length_take_le _ _;obtain ⟨v0, v1⟩ := val_le16 _ hA.out (by omega);by_cases hlt : k < s.size
  ·have hts := Hj (take_snoc s k hlt);have c0 : 0 <= (s[k].toNat : Int) := by omega
   have c1 : (s[k].toNat : Int) <= 255 := by have := s[k].toNat_lt; omega
   cases hd : dgb s[k]
   ·have hno := allD_not s k hlt (dgb_no hd);have hn0 := Hj (numV_no hno);have hN := Hj hno;clear hno
    go_wp2_with (go_at_call 172; refine (digit_any _ _).mono ?_; rintro e w1 ⟨rfl, rfl⟩)
    go_ret2
    exact ⟨ret_ib hn0.out.symm hN.out.symm, rfl⟩
   ·obtain ⟨d0, d1⟩ := dgb_bd hd;have e1 : val (s.data.toList.take (k + 1)) = 10 * val (s.data.toList.take k) + ((s[k].toNat : Int) - 48) := by rw [hts.out, val_snoc]
    have e2 : allD (s.data.toList.take (k + 1)) = true := by rw [hts.out, allD_snoc, hA.out]; simp; omega
    have E1 := Hj e1;have E2 := Hj e2;clear e1 e2
    go_wp2_with (go_at_call 172; refine (digit_any _ _).mono ?_; rintro e w1 ⟨rfl, rfl⟩)
    go_round
    case rel => exact ⟨k + 1, by omega, by go_num, by rw [E1.out], E2⟩
    case measure => simp [intOf]; omega
  ·have ht := take_all s k (by omega)
   have hv : val (s.data.toList.take k) = numV s.data.toList := by
    have := hA.out; rw [ht] at this; rw [numV_yes this, ht]
   have hT : allD s.data.toList = true := by rw [<- ht]; exact hA.out
   have HV := Hj hv;have HT := Hj hT;clear ht hv hT;go_wp2
   go_ret2
   exact ⟨ret_ib HV.out HT.out.symm, rfl⟩
end Go.Proofs.YthmlhheceihcbaaGreatDoor
namespace Go.Proofs.YthmlhheceihcbaaGreatDoor
set_option maxHeartbeats 16000000
open Go.RowKit Cal Str Tok Frac Tryz
attribute [local go_sem] calmUpon
set_option linter.unusedVariables false
set_option linter.unusedSimpArgs false
def DecRes (s : ByteArray) (w : World) (e : Ending) (w' : World) : Prop := e = .returned (.tuple #[.agg #[.int .i64 (decN s), .int .i64 (decD s)], .int .i64 (decX s), .bool (decB s)]) /\ Rel w w'
theorem pow_bd (k n : Nat) (h : k <= n + 4) : 1 <= ((10 ^ (k - n) : Nat) : Int) /\ ((10 ^ (k - n) : Nat) : Int) <= 10000 := by
 have h1 : 1 <= 10 ^ (k - n) := Nat.one_le_pow _ _ (by decide);have h2 := Nat.pow_le_pow_right (n := 10) (by decide) (show k - n <= 4 by omega);omega
end Go.Proofs.YthmlhheceihcbaaGreatDoor

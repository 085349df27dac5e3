/- Plain facts on the calendar: month lengths, starts of months and years; no program in sight. No conditions. -/
namespace Go.Proofs.YtfdajdlbkdfhoaaDoor.Cal

/-- Is the year a leap year? -/
def leapB (y : Int) : Bool := decide (y % 4 = 0 ∧ y % 100 ≠ 0 ∨ y % 400 = 0)

theorem leapB_iff (y : Int) : leapB y = true ↔ (y % 4 = 0 ∧ y % 100 ≠ 0 ∨ y % 400 = 0) := by unfold leapB; simp

/-- The days of month m (1 to 12) of year y. -/
def mlen (y m : Int) : Int :=
  if m = 2 then (if leapB y = true then 29 else 28) else if m = 4 ∨ m = 6 ∨ m = 9 ∨ m = 11 then 30 else 31

theorem mlen_bd (y m : Int) : 28 ≤ mlen y m ∧ mlen y m ≤ 31 := by
  unfold mlen; repeat' split
  all_goals omega

/-- The first day of year y. -/
def ystart (y : Int) : Int := 365 * (y - 1900) + (if y > 1900 then (y - 1901) / 4 else 0)

theorem ystart_bd (y : Int) (h0 : 1900 ≤ y) (h1 : y ≤ 2100) : 0 ≤ ystart y ∧ ystart y ≤ 73049 := by
  unfold ystart; split <;> omega

/-- The days of the first k months of year y. -/
def cum (y : Int) : Nat → Int
  | 0 => 0
  | k + 1 => cum y k + mlen y (k + 1)

theorem cum_bd (y : Int) (k : Nat) : 28 * k ≤ cum y k ∧ cum y k ≤ 31 * k := by
  induction k with
  | zero => simp [cum]
  | succ k ih => have := mlen_bd y (k + 1); simp only [cum]; omega

/-- The length of month k, counted from January 1900. -/
def nlen (k : Nat) : Int := mlen (1900 + (k / 12 : Nat)) ((k % 12 : Nat) + 1)

/-- The first day of month k, counted from January 1900. -/
def msum : Nat → Int
  | 0 => 0
  | k + 1 => msum k + nlen k

/-- Is d a day? -/
def vdayB (d : Int) : Bool := decide (0 ≤ d ∧ d ≤ 73048)
/-- The month of a day, counted from January 1900. -/
noncomputable def monOf (d : Int) : Nat := Classical.epsilon fun k => k < 2400 ∧ msum k ≤ d ∧ d < msum k + nlen k
noncomputable def dD (d : Int) : Int := if vdayB d = true then d - msum (monOf d) + 1 else 0
/-- Is y, m, d a date of the calendar? -/
def dateB (y m d : Int) : Bool := decide (1900 ≤ y ∧ y ≤ 2099 ∧ 1 ≤ m ∧ m ≤ 12 ∧ 1 ≤ d ∧ d ≤ mlen y m)
theorem dateB_iff (y m d : Int) : dateB y m d = true ↔ (1900 ≤ y ∧ y ≤ 2099 ∧ 1 ≤ m ∧ m ≤ 12 ∧ 1 ≤ d ∧ d ≤ mlen y m) := by unfold dateB; simp
/-- The day of a date; 0 where there is none. -/
def dayN (y m d : Int) : Int := if dateB y m d = true then ystart y + cum y (m.toNat - 1) + d - 1 else 0

theorem dayN_no {y m d : Int} (h : dateB y m d = false) : dayN y m d = 0 := by unfold dayN; rw [if_neg (by simp [h])]
theorem dayN_yes {y m d : Int} (h : dateB y m d = true) : dayN y m d = ystart y + cum y (m.toNat - 1) + d - 1 := by unfold dayN; rw [if_pos h]
end Go.Proofs.YtfdajdlbkdfhoaaDoor.Cal

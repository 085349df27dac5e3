/- Plain facts on the calendar: month lengths, starts of months and years; no program in sight. No conditions. -/
namespace Go.Proofs.YtnhmebhmlbofgaaDoor.Cal

/-- Is the year a leap year? -/
def leapB (y : Int) : Bool := decide (y % 4 = 0 ∧ y % 100 ≠ 0 ∨ y % 400 = 0)

/-- The days of month m (1 to 12) of year y. -/
def mlen (y m : Int) : Int :=
  if m = 2 then (if leapB y = true then 29 else 28) else if m = 4 ∨ m = 6 ∨ m = 9 ∨ m = 11 then 30 else 31

/-- The length of month k, counted from January 1900. -/
def nlen (k : Nat) : Int := mlen (1900 + (k / 12 : Nat)) ((k % 12 : Nat) + 1)

/-- The first day of month k, counted from January 1900. -/
def msum : Nat → Int
  | 0 => 0
  | k + 1 => msum k + nlen k

/-- Is d a day? -/
def vdayB (d : Int) : Bool := decide (0 ≤ d ∧ d ≤ 73048)
/-- The month of a day, counted from January 1900. -/
noncomputable def monOf (d : Int) : Nat := Classical.epsilon fun k => k < 2400 ∧ msum k ≤ d ∧ d < msum k + nlen k
noncomputable def dD (d : Int) : Int := if vdayB d = true then d - msum (monOf d) + 1 else 0
end Go.Proofs.YtnhmebhmlbofgaaDoor.Cal

/- Plain facts on the calendar: month lengths, starts of months and years; no program in sight. No conditions. -/
namespace Go.Proofs.Ytddgobjblbhlbaa.Cal

/-- Is the year a leap year? -/
def leapB (y : Int) : Bool := decide (y % 4 = 0 ∧ y % 100 ≠ 0 ∨ y % 400 = 0)

theorem leapB_iff (y : Int) : leapB y = true ↔ (y % 4 = 0 ∧ y % 100 ≠ 0 ∨ y % 400 = 0) := by unfold leapB; simp

/-- The days of month m (1 to 12) of year y. -/
def mlen (y m : Int) : Int :=
  if m = 2 then (if leapB y = true then 29 else 28) else if m = 4 ∨ m = 6 ∨ m = 9 ∨ m = 11 then 30 else 31

theorem mlen_bd (y m : Int) : 28 ≤ mlen y m ∧ mlen y m ≤ 31 := by
  unfold mlen; repeat' split
  all_goals omega

/-- The days of year y. -/
def ylen (y : Int) : Int := if leapB y = true then 366 else 365

/-- The first day of year y. -/
def ystart (y : Int) : Int := 365 * (y - 1900) + (if y > 1900 then (y - 1901) / 4 else 0)

theorem ystart_bd (y : Int) (h0 : 1900 ≤ y) (h1 : y ≤ 2100) : 0 ≤ ystart y ∧ ystart y ≤ 73049 := by
  unfold ystart; split <;> omega

theorem ystart_succ (y : Int) (h0 : 1900 ≤ y) (h1 : y ≤ 2099) : ystart (y + 1) = ystart y + ylen y := by
  unfold ystart ylen
  have h := leapB_iff y
  by_cases hl : leapB y = true
  · rw [if_pos hl]; have := h.1 hl
    split <;> split <;> omega
  · rw [if_neg hl]; have : ¬ (y % 4 = 0 ∧ y % 100 ≠ 0 ∨ y % 400 = 0) := fun e => hl (h.2 e)
    split <;> split <;> omega

/-- The days of the first k months of year y. -/
def cum (y : Int) : Nat → Int
  | 0 => 0
  | k + 1 => cum y k + mlen y (k + 1)

theorem cum_bd (y : Int) (k : Nat) : 28 * k ≤ cum y k ∧ cum y k ≤ 31 * k := by
  induction k with
  | zero => simp [cum]
  | succ k ih => have := mlen_bd y (k + 1); simp only [cum]; omega

theorem cum_12 (y : Int) : cum y 12 = ylen y := by
  unfold ylen
  simp only [cum, mlen]
  by_cases hl : leapB y = true <;> simp [hl]

/-- The length of month k, counted from January 1900. -/
def nlen (k : Nat) : Int := mlen (1900 + (k / 12 : Nat)) ((k % 12 : Nat) + 1)

/-- The first day of month k, counted from January 1900. -/
def msum : Nat → Int
  | 0 => 0
  | k + 1 => msum k + nlen k

theorem nlen_bd (k : Nat) : 28 ≤ nlen k ∧ nlen k ≤ 31 := mlen_bd _ _

theorem msum_bd (k : Nat) : 28 * k ≤ msum k ∧ msum k ≤ 31 * k := by
  induction k with
  | zero => simp [msum]
  | succ k ih => have := nlen_bd k; simp only [msum]; omega

theorem msum_in (n j : Nat) (h : j ≤ 12) : msum (12 * n + j) = msum (12 * n) + cum (1900 + n) j := by
  induction j with
  | zero => simp [cum]
  | succ j ih =>
    have h1 : (12 * n + j) / 12 = n := by omega
    have h2 : (12 * n + j) % 12 = j := by omega
    have e : 12 * n + (j + 1) = (12 * n + j) + 1 := by omega
    rw [e, msum, ih (by omega), cum, nlen, h1, h2]
    omega

theorem msum_year (n : Nat) (h : n ≤ 200) : msum (12 * n) = ystart (1900 + n) := by
  induction n with
  | zero => simp [msum, ystart]
  | succ n ih =>
    have e : 12 * (n + 1) = 12 * n + 12 := by omega
    have hs := ystart_succ (1900 + n) (by omega) (by omega)
    rw [e, msum_in n 12 (by omega), ih (by omega), cum_12, ← hs]
    congr 1

theorem msum_eq (n j : Nat) (hn : n < 200) (h : j ≤ 12) : msum (12 * n + j) = ystart (1900 + n) + cum (1900 + n) j := by
  rw [msum_in n j h, msum_year n (by omega)]

theorem msum_end : msum 2400 = 73049 := by
  have := msum_year 200 (by omega)
  rw [show 12 * 200 = 2400 from rfl] at this
  rw [this]; decide

theorem msum_mono {a b : Nat} (h : a ≤ b) : msum a ≤ msum b := by
  induction b with
  | zero => rw [show a = 0 by omega]; exact Int.le_refl _
  | succ b ih =>
    by_cases e : a = b + 1
    · rw [e]; omega
    · have := ih (by omega); have := nlen_bd b; simp only [msum]; omega

theorem msum_lt {a b : Nat} (h : a < b) : msum a + nlen a ≤ msum b := by
  have h1 := msum_mono (show a + 1 ≤ b from h)
  simpa [msum] using h1

/-- Every day lies in a month. -/
theorem month_of (d : Int) (h0 : 0 ≤ d) (h1 : d < 73049) : ∃ k : Nat, k < 2400 ∧ msum k ≤ d ∧ d < msum k + nlen k := by
  have key : ∀ n : Nat, d < msum n → ∃ k : Nat, k < n ∧ msum k ≤ d ∧ d < msum k + nlen k := by
    intro n
    induction n with
    | zero => intro h; simp [msum] at h; omega
    | succ n ih =>
      intro h
      by_cases hd : d < msum n
      · obtain ⟨k, hk, a, b⟩ := ih hd; exact ⟨k, by omega, a, b⟩
      · exact ⟨n, by omega, by omega, by simpa [msum] using h⟩
  exact key 2400 (by rw [msum_end]; exact h1)

theorem month_unique (d : Int) (j k : Nat) (h1 : msum j ≤ d) (h2 : d < msum j + nlen j) (h3 : msum k ≤ d) (h4 : d < msum k + nlen k) : j = k := by
  rcases Nat.lt_trichotomy j k with h | h | h
  · have := msum_lt h; omega
  · exact h
  · have := msum_lt h; omega

/-- Is d a day? -/
def vdayB (d : Int) : Bool := decide (0 ≤ d ∧ d ≤ 73048)
theorem vdayB_iff (d : Int) : vdayB d = true ↔ (0 ≤ d ∧ d ≤ 73048) := by unfold vdayB; simp

/-- The month of a day, counted from January 1900. -/
noncomputable def monOf (d : Int) : Nat := Classical.epsilon fun k => k < 2400 ∧ msum k ≤ d ∧ d < msum k + nlen k
theorem monOf_spec (d : Int) (h : vdayB d = true) : monOf d < 2400 ∧ msum (monOf d) ≤ d ∧ d < msum (monOf d) + nlen (monOf d) := by
  have h' := (vdayB_iff d).1 h
  exact Classical.epsilon_spec (month_of d h'.1 (by omega))
theorem monOf_eq (d : Int) (k : Nat) (hk : k < 2400) (h1 : msum k ≤ d) (h2 : d < msum k + nlen k) : monOf d = k := by
  have := Classical.epsilon_spec (p := fun k => k < 2400 ∧ msum k ≤ d ∧ d < msum k + nlen k) ⟨k, hk, h1, h2⟩
  exact month_unique d _ _ this.2.1 this.2.2 h1 h2

/-- The date of a day: year, month, day of the month; zeros where d is no day. -/
noncomputable def dY (d : Int) : Int := if vdayB d = true then 1900 + ((monOf d / 12 : Nat) : Int) else 0
noncomputable def dM (d : Int) : Int := if vdayB d = true then ((monOf d % 12 : Nat) : Int) + 1 else 0
noncomputable def dD (d : Int) : Int := if vdayB d = true then d - msum (monOf d) + 1 else 0
theorem dY_no {d : Int} (h : vdayB d = false) : dY d = 0 := by unfold dY; rw [if_neg (by simp [h])]
theorem dM_no {d : Int} (h : vdayB d = false) : dM d = 0 := by unfold dM; rw [if_neg (by simp [h])]
theorem dD_no {d : Int} (h : vdayB d = false) : dD d = 0 := by unfold dD; rw [if_neg (by simp [h])]
theorem dY_yes {d : Int} (h : vdayB d = true) : dY d = 1900 + ((monOf d / 12 : Nat) : Int) := by unfold dY; rw [if_pos h]
theorem dM_yes {d : Int} (h : vdayB d = true) : dM d = ((monOf d % 12 : Nat) : Int) + 1 := by unfold dM; rw [if_pos h]
theorem dD_yes {d : Int} (h : vdayB d = true) : dD d = d - msum (monOf d) + 1 := by unfold dD; rw [if_pos h]

theorem date_bd {d : Int} (h : vdayB d = true) : 1900 ≤ dY d ∧ dY d ≤ 2099 ∧ 1 ≤ dM d ∧ dM d ≤ 12 ∧ 1 ≤ dD d ∧ dD d ≤ mlen (dY d) (dM d) := by
  have hs := monOf_spec d h
  rw [dY_yes h, dM_yes h, dD_yes h]
  have : mlen (1900 + ((monOf d / 12 : Nat) : Int)) (((monOf d % 12 : Nat) : Int) + 1) = nlen (monOf d) := rfl
  rw [this]; omega

/-- The date found by the year and the month that hold the day. -/
theorem date_of (d y : Int) (j : Nat) (h0 : 1900 ≤ y) (h1 : y ≤ 2099) (hj : j < 12) (hl : 0 ≤ d - ystart y - cum y j) (hu : d - ystart y - cum y j < mlen y (j + 1)) :
    vdayB d = true ∧ dY d = y ∧ dM d = j + 1 ∧ dD d = d - ystart y - cum y j + 1 ∧ (monOf d : Int) = 12 * (y - 1900) + j := by
  obtain ⟨n, rfl⟩ : ∃ n : Nat, y = 1900 + n := ⟨(y - 1900).toNat, by omega⟩
  have e := msum_eq n j (by omega) (by omega)
  have e1 : (12 * n + j) / 12 = n := by omega
  have e2 : (12 * n + j) % 12 = j := by omega
  have en : nlen (12 * n + j) = mlen (1900 + n) (j + 1) := by rw [nlen, e1, e2]
  have b := msum_bd (12 * n + j)
  have hlt : 12 * n + j < 2400 := by omega
  have hend := msum_lt hlt
  rw [msum_end] at hend
  have hm := monOf_eq d (12 * n + j) hlt (by rw [e]; omega) (by rw [e, en]; omega)
  have hv : vdayB d = true := (vdayB_iff d).2 (by omega)
  refine ⟨hv, ?_, ?_, ?_, ?_⟩
  · rw [dY_yes hv, hm, e1]
  · rw [dM_yes hv, hm, e2]
  · rw [dD_yes hv, hm, e]; omega
  · rw [hm]; omega

theorem ystart_guess (d : Int) (h0 : 0 ≤ d) (h1 : d ≤ 73048) : 1900 ≤ 1900 + d / 366 ∧ 1900 + d / 366 ≤ 2099 ∧ ystart (1900 + d / 366) ≤ d := by
  refine ⟨by omega, by omega, ?_⟩
  unfold ystart; split <;> omega

/-- Is y, m, d a date of the calendar? -/
def dateB (y m d : Int) : Bool := decide (1900 ≤ y ∧ y ≤ 2099 ∧ 1 ≤ m ∧ m ≤ 12 ∧ 1 ≤ d ∧ d ≤ mlen y m)
theorem dateB_iff (y m d : Int) : dateB y m d = true ↔ (1900 ≤ y ∧ y ≤ 2099 ∧ 1 ≤ m ∧ m ≤ 12 ∧ 1 ≤ d ∧ d ≤ mlen y m) := by unfold dateB; simp
/-- The day of a date; 0 where there is none. -/
def dayN (y m d : Int) : Int := if dateB y m d = true then ystart y + cum y (m.toNat - 1) + d - 1 else 0

theorem dayN_no {y m d : Int} (h : dateB y m d = false) : dayN y m d = 0 := by unfold dayN; rw [if_neg (by simp [h])]
theorem dayN_yes {y m d : Int} (h : dateB y m d = true) : dayN y m d = ystart y + cum y (m.toNat - 1) + d - 1 := by unfold dayN; rw [if_pos h]
theorem dateB_f (y m d : Int) (h : y < 1900 ∨ 2099 < y ∨ m < 1 ∨ 12 < m ∨ d < 1 ∨ mlen y m < d) : dateB y m d = false := by
  rw [← Bool.not_eq_true, dateB_iff]; omega

/-- A date's day by its month. -/
theorem dayN_msum (n j : Nat) (d : Int) (hn : n < 200) (hj : j < 12) (h0 : 1 ≤ d) (h1 : d ≤ nlen (12 * n + j)) :
    dateB (1900 + n) (j + 1) d = true ∧ dayN (1900 + n) (j + 1) d = msum (12 * n + j) + d - 1 := by
  have e1 : (12 * n + j) / 12 = n := by omega
  have e2 : (12 * n + j) % 12 = j := by omega
  have en : nlen (12 * n + j) = mlen (1900 + n) (j + 1) := by rw [nlen, e1, e2]
  have hb : dateB (1900 + n) (j + 1) d = true := (dateB_iff _ _ _).2 (by omega)
  refine ⟨hb, ?_⟩
  rw [dayN_yes hb, msum_eq n j hn (by omega), show ((j : Int) + 1).toNat - 1 = j by omega]

/-- A number that is a date's day, and back. -/
theorem date_day (y m d : Int) (h : dateB y m d = true) : vdayB (dayN y m d) = true ∧ dY (dayN y m d) = y ∧ dM (dayN y m d) = m ∧ dD (dayN y m d) = d := by
  obtain ⟨h0, h1, h2, h3, h4, h5⟩ := (dateB_iff y m d).1 h
  have em : m = ((m.toNat - 1 : Nat) : Int) + 1 := by omega
  have := date_of (dayN y m d) y (m.toNat - 1) h0 h1 (by omega) (by rw [dayN_yes h]; omega) (by rw [dayN_yes h, ← em]; omega)
  obtain ⟨a, b, c, e, _⟩ := this
  refine ⟨a, b, by omega, ?_⟩
  rw [e, dayN_yes h]; omega

theorem day_date (d : Int) (h : vdayB d = true) : dateB (dY d) (dM d) (dD d) = true ∧ dayN (dY d) (dM d) (dD d) = d := by
  have hs := monOf_spec d h
  have hb := date_bd h
  have h1 := (dateB_iff _ _ _).2 hb
  refine ⟨h1, ?_⟩
  have := (dayN_msum (monOf d / 12) (monOf d % 12) (dD d) (by omega) (by omega) (by omega) (by rw [dD_yes h]; rw [show 12 * (monOf d / 12) + monOf d % 12 = monOf d by omega]; omega)).2
  rw [dY_yes h, dM_yes h, this, dD_yes h, show 12 * (monOf d / 12) + monOf d % 12 = monOf d by omega]
  omega

end Go.Proofs.Ytddgobjblbhlbaa.Cal

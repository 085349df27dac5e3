/- Plain facts on fractions in lowest terms; no program in sight. No conditions. -/
namespace Go.Proofs.YtnhmebhmlbofgaaDoor.Frac

/-- The greatest common divisor that a fraction is shortened by. -/
def gOf (s d : Int) : Nat := Nat.gcd s.natAbs d.natAbs
/-- The shortened numerator and denominator. -/
def rN (s d : Int) : Int := s / (gOf s d : Int)
def rD (s d : Int) : Int := d / (gOf s d : Int)
/-- Does the shortened fraction lie in range? -/
def nOk (s d : Int) : Bool := decide ((rN s d).natAbs ≤ 1000000000000000) && decide (rD s d ≤ 1000000000)
/-- The result of shortening s/d: numerator, denominator, error number. -/
def nN (s d : Int) : Int := if nOk s d = true then rN s d else 0
def nD (s d : Int) : Int := if nOk s d = true then rD s d else 0
def nE (s d : Int) : Int := if nOk s d = true then 0 else 2

theorem gOf_pos (s d : Int) (h : 0 < d) : 0 < gOf s d := Nat.gcd_pos_of_pos_right _ (by omega)

theorem rN_mul (s d : Int) : s = (gOf s d : Int) * rN s d := by
  have h : (gOf s d : Int) ∣ s := Int.ofNat_dvd_left.2 (Nat.gcd_dvd_left _ _)
  exact (Int.mul_ediv_cancel' h).symm
theorem rD_mul (s d : Int) : d = (gOf s d : Int) * rD s d := by
  have h : (gOf s d : Int) ∣ d := Int.ofNat_dvd_left.2 (Nat.gcd_dvd_right _ _)
  exact (Int.mul_ediv_cancel' h).symm

theorem rD_pos (s d : Int) (h : 0 < d) : 0 < rD s d := by
  have e := rD_mul s d
  have g := gOf_pos s d h
  by_cases c : 0 < rD s d
  · exact c
  · have : (gOf s d : Int) * rD s d ≤ 0 := Int.mul_nonpos_of_nonneg_of_nonpos (by omega) (by omega)
    omega

theorem r_coprime (s d : Int) (h : 0 < d) : Nat.gcd (rN s d).natAbs (rD s d).natAbs = 1 := by
  have g := gOf_pos s d h
  have e1 : s.natAbs = gOf s d * (rN s d).natAbs := by
    have := congrArg Int.natAbs (rN_mul s d)
    rwa [Int.natAbs_mul, Int.natAbs_natCast] at this
  have e2 : d.natAbs = gOf s d * (rD s d).natAbs := by
    have := congrArg Int.natAbs (rD_mul s d)
    rwa [Int.natAbs_mul, Int.natAbs_natCast] at this
  have e3 : gOf s d = gOf s d * Nat.gcd (rN s d).natAbs (rD s d).natAbs := by
    rw [← Nat.gcd_mul_left, ← e1, ← e2]; rfl
  have := Nat.eq_of_mul_eq_mul_left g (show gOf s d * Nat.gcd (rN s d).natAbs (rD s d).natAbs = gOf s d * 1 by omega)
  exact this

/-- Two shortened fractions of one value are the same. -/
theorem low_unique {a b c d : Int} (hb : 0 < b) (hd : 0 < d) (h1 : Nat.gcd a.natAbs b.natAbs = 1) (h2 : Nat.gcd c.natAbs d.natAbs = 1) (h : a * d = c * b) : a = c ∧ b = d := by
  have hn : a.natAbs * d.natAbs = c.natAbs * b.natAbs := by
    rw [← Int.natAbs_mul, ← Int.natAbs_mul, h]
  have k1 : b.natAbs ∣ d.natAbs := by
    have : b.natAbs ∣ a.natAbs * d.natAbs := by rw [hn]; exact Nat.dvd_mul_left _ _
    exact Nat.Coprime.dvd_of_dvd_mul_left (show Nat.Coprime b.natAbs a.natAbs by rw [Nat.coprime_comm]; exact h1) this
  have k2 : d.natAbs ∣ b.natAbs := by
    have : d.natAbs ∣ c.natAbs * b.natAbs := by rw [← hn]; exact Nat.dvd_mul_left _ _
    exact Nat.Coprime.dvd_of_dvd_mul_left (show Nat.Coprime d.natAbs c.natAbs by rw [Nat.coprime_comm]; exact h2) this
  have e : b.natAbs = d.natAbs := Nat.dvd_antisymm k1 k2
  have e' : b = d := by omega
  refine ⟨?_, e'⟩
  rw [e'] at h
  exact Int.eq_of_mul_eq_mul_right (by omega) h

/-- Shortening depends on the value alone. -/
theorem r_value {s d s' d' : Int} (hd : 0 < d) (hd' : 0 < d') (h : s * d' = s' * d) : rN s d = rN s' d' ∧ rD s d = rD s' d' := by
  refine low_unique (rD_pos s d hd) (rD_pos s' d' hd') (r_coprime s d hd) (r_coprime s' d' hd') ?_
  have g1 := gOf_pos s d hd
  have g2 := gOf_pos s' d' hd'
  have a1 := rN_mul s d
  have a2 := rD_mul s d
  have a3 := rN_mul s' d'
  have a4 := rD_mul s' d'
  generalize rN s d = x at *
  generalize rD s d = y at *
  generalize rN s' d' = z at *
  generalize rD s' d' = t at *
  have e : (x * t) * ((gOf s d : Int) * (gOf s' d' : Int)) = (z * y) * ((gOf s d : Int) * (gOf s' d' : Int)) := by
    generalize (gOf s d : Int) = p at *
    generalize (gOf s' d' : Int) = q at *
    subst a1 a2 a3 a4
    grind
  refine Int.eq_of_mul_eq_mul_right ?_ e
  have : (0 : Int) < (gOf s d : Int) * (gOf s' d' : Int) := Int.mul_pos (by omega) (by omega)
  omega

theorem n_value {s d s' d' : Int} (hd : 0 < d) (hd' : 0 < d') (h : s * d' = s' * d) : nN s d = nN s' d' ∧ nD s d = nD s' d' ∧ nE s d = nE s' d' := by
  obtain ⟨e1, e2⟩ := r_value hd hd' h
  unfold nN nD nE nOk
  rw [e1, e2]; exact ⟨rfl, rfl, rfl⟩

/-- Is n/d a valid fraction? -/
def validB (n d : Int) : Bool := decide (1 ≤ d ∧ d ≤ 1000000000 ∧ -1000000000000000 ≤ n ∧ n ≤ 1000000000000000) && decide (Nat.gcd n.natAbs d.natAbs = 1)
theorem validB_iff (n d : Int) : validB n d = true ↔ ((1 ≤ d ∧ d ≤ 1000000000 ∧ -1000000000000000 ≤ n ∧ n ≤ 1000000000000000) ∧ Nat.gcd n.natAbs d.natAbs = 1) := by
  unfold validB; simp

theorem n_valid {n d : Int} (h : validB n d = true) : nN n d = n ∧ nD n d = d ∧ nE n d = 0 := by
  obtain ⟨⟨h0, h1, h2, h3⟩, h4⟩ := (validB_iff n d).1 h
  have g : gOf n d = 1 := h4
  have e1 : rN n d = n := by unfold rN; rw [g]; simp
  have e2 : rD n d = d := by unfold rD; rw [g]; simp
  have : nOk n d = true := by unfold nOk; rw [e1, e2]; simp; omega
  unfold nN nD nE
  rw [if_pos this, if_pos this, if_pos this, e1, e2]; exact ⟨rfl, rfl, rfl⟩

theorem n_cases (s d : Int) (hd : 0 < d) : (nE s d = 2 ∧ nN s d = 0 ∧ nD s d = 0 ∧ nOk s d = false) ∨ (nE s d = 0 ∧ nOk s d = true ∧ validB (nN s d) (nD s d) = true ∧ nN s d * d = s * nD s d) := by
  unfold nN nD nE
  cases h : nOk s d
  · exact .inl ⟨by simp, by simp, by simp, rfl⟩
  · right
    have hp := rD_pos s d hd
    have hc := r_coprime s d hd
    have a1 := rN_mul s d
    have a2 := rD_mul s d
    simp only [nOk, Bool.and_eq_true, decide_eq_true_eq] at h
    refine ⟨by simp, rfl, ?_, ?_⟩
    · simp only [if_true]
      exact (validB_iff _ _).2 ⟨by omega, hc⟩
    · simp only [if_true]
      generalize rN s d = x at *
      generalize rD s d = y at *
      generalize (gOf s d : Int) = p at *
      subst a1 a2
      grind

theorem n_sign (s d : Int) (hd : 0 < d) (h : nE s d = 0) : (nN s d < 0 ↔ s < 0) ∧ (nN s d = 0 ↔ s = 0) := by
  rcases n_cases s d hd with ⟨e, _⟩ | ⟨_, _, hv, he⟩
  · omega
  · have hp : 0 < nD s d := by have := (validB_iff _ _).1 hv; omega
    generalize nN s d = x at *
    generalize nD s d = y at *
    constructor
    · constructor
      · intro hx
        have : x * d < 0 := Int.mul_neg_of_neg_of_pos hx hd
        rw [he] at this
        by_cases c : s < 0
        · exact c
        · have : 0 ≤ s * y := Int.mul_nonneg (by omega) (by omega); omega
      · intro hs
        have : s * y < 0 := Int.mul_neg_of_neg_of_pos hs hp
        rw [← he] at this
        by_cases c : x < 0
        · exact c
        · have : 0 ≤ x * d := Int.mul_nonneg (by omega) (by omega); omega
    · constructor
      · intro hx
        rw [hx, Int.zero_mul] at he
        exact (Int.mul_eq_zero.1 he.symm).resolve_right (by omega)
      · intro hs
        rw [hs, Int.zero_mul] at he
        exact (Int.mul_eq_zero.1 he).resolve_right (by omega)

/-! The operations: numerator, denominator, error number of each. -/
def negN (n d : Int) : Int := if validB n d = true then -n else 0
def negD (n d : Int) : Int := if validB n d = true then d else 0
def negE (n d : Int) : Int := if validB n d = true then 0 else 1

def addB (a b c d : Int) : Bool := validB a b && validB c d
def addN (a b c d : Int) : Int := if addB a b c d = true then nN (a * d + c * b) (b * d) else 0
def addD (a b c d : Int) : Int := if addB a b c d = true then nD (a * d + c * b) (b * d) else 0
def addE (a b c d : Int) : Int := if addB a b c d = true then nE (a * d + c * b) (b * d) else 1

def mulN (a b c d : Int) : Int := if addB a b c d = true then nN (a * c) (b * d) else 0
def mulD (a b c d : Int) : Int := if addB a b c d = true then nD (a * c) (b * d) else 0
def mulE (a b c d : Int) : Int := if addB a b c d = true then nE (a * c) (b * d) else 1

/-- The numerator and denominator of a quotient, the denominator positive. -/
def dvS (a c d : Int) : Int := if c < 0 then -(a * d) else a * d
def dvD (b c : Int) : Int := b * (c.natAbs : Int)
def divN (a b c d : Int) : Int := if addB a b c d = true then (if c = 0 then 0 else nN (dvS a c d) (dvD b c)) else 0
def divD (a b c d : Int) : Int := if addB a b c d = true then (if c = 0 then 0 else nD (dvS a c d) (dvD b c)) else 0
def divE (a b c d : Int) : Int := if addB a b c d = true then (if c = 0 then 3 else nE (dvS a c d) (dvD b c)) else 1

def subN (a b c d : Int) : Int := if validB c d = true then addN a b (-c) d else 0
def subD (a b c d : Int) : Int := if validB c d = true then addD a b (-c) d else 0
def subE (a b c d : Int) : Int := if validB c d = true then addE a b (-c) d else 1

def cmpV (a b c d : Int) : Int := if addB a b c d = true then (if a * d < c * b then -1 else if a * d = c * b then 0 else 1) else 0
def cmpE (a b c d : Int) : Int := if addB a b c d = true then 0 else 1

def mkS (n d : Int) : Int := if d < 0 then -n else n
def mkN (n d : Int) : Int := if d = 0 then 0 else nN (mkS n d) (d.natAbs : Int)
def mkD (n d : Int) : Int := if d = 0 then 0 else nD (mkS n d) (d.natAbs : Int)
def mkE (n d : Int) : Int := if d = 0 then 3 else nE (mkS n d) (d.natAbs : Int)

def flN (n d : Int) : Int := if validB n d = true then n / d else 0
def clN (n d : Int) : Int := if validB n d = true then -((-n) / d) else 0
def flE (n d : Int) : Int := if validB n d = true then 0 else 1

theorem addB_iff (a b c d : Int) : addB a b c d = true ↔ (validB a b = true ∧ validB c d = true) := by unfold addB; simp
theorem valid_pos {n d : Int} (h : validB n d = true) : 0 < d := by have := (validB_iff n d).1 h; omega
theorem valid_neg {n d : Int} (h : validB n d = true) : validB (-n) d = true := by
  have := (validB_iff n d).1 h
  exact (validB_iff _ _).2 ⟨by omega, by rw [Int.natAbs_neg]; exact this.2⟩

/-- What OK says of each operation. -/
theorem add_ok {a b c d : Int} (h : addE a b c d = 0) : validB a b = true ∧ validB c d = true ∧ validB (addN a b c d) (addD a b c d) = true ∧ addN a b c d * (b * d) = (a * d + c * b) * addD a b c d := by
  unfold addN addD
  unfold addE at h
  cases hB : addB a b c d
  · rw [hB] at h; simp at h
  · rw [hB] at h; simp only [if_true] at h ⊢
    obtain ⟨v1, v2⟩ := (addB_iff a b c d).1 hB
    have hp := Int.mul_pos (valid_pos v1) (valid_pos v2)
    rcases n_cases (a * d + c * b) (b * d) hp with ⟨e, _⟩ | ⟨_, _, hv, he⟩
    · omega
    · exact ⟨v1, v2, hv, he⟩
theorem mul_ok {a b c d : Int} (h : mulE a b c d = 0) : validB a b = true ∧ validB c d = true ∧ validB (mulN a b c d) (mulD a b c d) = true ∧ mulN a b c d * (b * d) = (a * c) * mulD a b c d := by
  unfold mulN mulD
  unfold mulE at h
  cases hB : addB a b c d
  · rw [hB] at h; simp at h
  · rw [hB] at h; simp only [if_true] at h ⊢
    obtain ⟨v1, v2⟩ := (addB_iff a b c d).1 hB
    have hp := Int.mul_pos (valid_pos v1) (valid_pos v2)
    rcases n_cases (a * c) (b * d) hp with ⟨e, _⟩ | ⟨_, _, hv, he⟩
    · omega
    · exact ⟨v1, v2, hv, he⟩

theorem addB_comm (a b c d : Int) : addB a b c d = addB c d a b := by unfold addB; rw [Bool.and_comm]
theorem add_comm (a b c d : Int) : addN a b c d = addN c d a b ∧ addD a b c d = addD c d a b ∧ addE a b c d = addE c d a b := by
  unfold addN addD addE
  rw [addB_comm, show a * d + c * b = c * b + a * d by omega, Int.mul_comm b d]; exact ⟨rfl, rfl, rfl⟩
theorem mul_comm (a b c d : Int) : mulN a b c d = mulN c d a b ∧ mulD a b c d = mulD c d a b ∧ mulE a b c d = mulE c d a b := by
  unfold mulN mulD mulE
  rw [addB_comm, Int.mul_comm a c, Int.mul_comm b d]; exact ⟨rfl, rfl, rfl⟩

theorem add_of {a b c d : Int} (v1 : validB a b = true) (v2 : validB c d = true) : addN a b c d = nN (a * d + c * b) (b * d) ∧ addD a b c d = nD (a * d + c * b) (b * d) ∧ addE a b c d = nE (a * d + c * b) (b * d) := by
  have hB := (addB_iff a b c d).2 ⟨v1, v2⟩
  unfold addN addD addE
  simp [hB]
theorem mul_of {a b c d : Int} (v1 : validB a b = true) (v2 : validB c d = true) : mulN a b c d = nN (a * c) (b * d) ∧ mulD a b c d = nD (a * c) (b * d) ∧ mulE a b c d = nE (a * c) (b * d) := by
  have hB := (addB_iff a b c d).2 ⟨v1, v2⟩
  unfold mulN mulD mulE
  simp [hB]

theorem cancel {x y k : Int} (hk : 0 < k) (h : x * k = y * k) : x = y := Int.eq_of_mul_eq_mul_right (by omega) h

theorem add_group {a b c d e f : Int} (h1 : addE a b c d = 0) (h2 : addE c d e f = 0) :
    addN (addN a b c d) (addD a b c d) e f = addN a b (addN c d e f) (addD c d e f) ∧ addD (addN a b c d) (addD a b c d) e f = addD a b (addN c d e f) (addD c d e f) ∧ addE (addN a b c d) (addD a b c d) e f = addE a b (addN c d e f) (addD c d e f) := by
  obtain ⟨v1, v2, v3, e1⟩ := add_ok h1
  obtain ⟨_, w2, w3, e2⟩ := add_ok h2
  obtain ⟨p1, p2, p3⟩ := add_of v3 w2
  obtain ⟨q1, q2, q3⟩ := add_of v1 w3
  rw [p1, p2, p3, q1, q2, q3]
  have b1 := valid_pos v1
  have b2 := valid_pos v2
  have b3 := valid_pos v3
  have b4 := valid_pos w2
  have b5 := valid_pos w3
  clear p1 p2 p3 q1 q2 q3 h1 h2 v1 v2 v3 w2 w3
  generalize addN a b c d = A at *
  generalize addD a b c d = B at *
  generalize addN c d e f = C at *
  generalize addD c d e f = D at *
  refine n_value (Int.mul_pos b3 b4) (Int.mul_pos b1 b5) (cancel b2 ?_)
  have x1 : (A * f + e * B) * (b * D) * d = f * D * (A * (b * d)) + e * B * b * D * d := by grind
  have x2 : (a * D + C * b) * (B * f) * d = a * D * B * f * d + b * B * (C * (d * f)) := by grind
  rw [x1, x2, e1, e2]; grind

theorem mul_group {a b c d e f : Int} (h1 : mulE a b c d = 0) (h2 : mulE c d e f = 0) :
    mulN (mulN a b c d) (mulD a b c d) e f = mulN a b (mulN c d e f) (mulD c d e f) ∧ mulD (mulN a b c d) (mulD a b c d) e f = mulD a b (mulN c d e f) (mulD c d e f) ∧ mulE (mulN a b c d) (mulD a b c d) e f = mulE a b (mulN c d e f) (mulD c d e f) := by
  obtain ⟨v1, v2, v3, e1⟩ := mul_ok h1
  obtain ⟨_, w2, w3, e2⟩ := mul_ok h2
  obtain ⟨p1, p2, p3⟩ := mul_of v3 w2
  obtain ⟨q1, q2, q3⟩ := mul_of v1 w3
  rw [p1, p2, p3, q1, q2, q3]
  have b1 := valid_pos v1
  have b2 := valid_pos v2
  have b3 := valid_pos v3
  have b4 := valid_pos w2
  have b5 := valid_pos w3
  clear p1 p2 p3 q1 q2 q3 h1 h2 v1 v2 v3 w2 w3
  generalize mulN a b c d = A at *
  generalize mulD a b c d = B at *
  generalize mulN c d e f = C at *
  generalize mulD c d e f = D at *
  refine n_value (Int.mul_pos b3 b4) (Int.mul_pos b1 b5) (cancel b2 ?_)
  have x1 : (A * e) * (b * D) * d = e * D * (A * (b * d)) := by grind
  have x2 : (a * C) * (B * f) * d = a * B * (C * (d * f)) := by grind
  rw [x1, x2, e1, e2]; grind

/-- a * (b + c) and a * b + a * c. -/
theorem spread {a b c d e f : Int} (h1 : addE c d e f = 0) (h2 : mulE a b c d = 0) (h3 : mulE a b e f = 0) :
    mulN a b (addN c d e f) (addD c d e f) = addN (mulN a b c d) (mulD a b c d) (mulN a b e f) (mulD a b e f) ∧ mulD a b (addN c d e f) (addD c d e f) = addD (mulN a b c d) (mulD a b c d) (mulN a b e f) (mulD a b e f) ∧ mulE a b (addN c d e f) (addD c d e f) = addE (mulN a b c d) (mulD a b c d) (mulN a b e f) (mulD a b e f) := by
  obtain ⟨v2, v3, v4, e1⟩ := add_ok h1
  obtain ⟨v1, _, v5, e2⟩ := mul_ok h2
  obtain ⟨_, _, v6, e3⟩ := mul_ok h3
  obtain ⟨p1, p2, p3⟩ := mul_of v1 v4
  obtain ⟨q1, q2, q3⟩ := add_of v5 v6
  rw [p1, p2, p3, q1, q2, q3]
  have b1 := valid_pos v1
  have b2 := valid_pos v2
  have b3 := valid_pos v3
  have b4 := valid_pos v4
  have b5 := valid_pos v5
  have b6 := valid_pos v6
  clear p1 p2 p3 q1 q2 q3 h1 h2 h3 v1 v2 v3 v4 v5 v6
  generalize addN c d e f = S at *
  generalize addD c d e f = T at *
  generalize mulN a b c d = X at *
  generalize mulD a b c d = Y at *
  generalize mulN a b e f = Z at *
  generalize mulD a b e f = W at *
  refine n_value (Int.mul_pos b1 b4) (Int.mul_pos b5 b6) (cancel (Int.mul_pos b2 b3) ?_)
  have x1 : a * S * (Y * W) * (d * f) = a * Y * W * (S * (d * f)) := by grind
  have x2 : (X * W + Z * Y) * (b * T) * (d * f) = W * T * f * (X * (b * d)) + Y * T * d * (Z * (b * f)) := by grind
  rw [x1, x2, e1, e2, e3]; grind

/-- (a + b) - b. -/
theorem add_undo {a b c d : Int} (h : addE a b c d = 0) :
    subE (addN a b c d) (addD a b c d) c d = 0 ∧ subN (addN a b c d) (addD a b c d) c d = a ∧ subD (addN a b c d) (addD a b c d) c d = b := by
  obtain ⟨v1, v2, v3, e1⟩ := add_ok h
  obtain ⟨p1, p2, p3⟩ := add_of v3 (valid_neg v2)
  obtain ⟨q1, q2, q3⟩ := n_valid v1
  unfold subE subN subD
  rw [if_pos v2, if_pos v2, if_pos v2, p1, p2, p3]
  have b1 := valid_pos v1
  have b2 := valid_pos v2
  have b3 := valid_pos v3
  clear p1 p2 p3 h v1 v2 v3
  generalize addN a b c d = A at *
  generalize addD a b c d = B at *
  have := n_value (s := A * d + -c * B) (d := B * d) (s' := a) (d' := b) (Int.mul_pos b3 b2) b1 (by
    have x1 : (A * d + -c * B) * b = A * (b * d) - c * B * b := by grind
    rw [x1, e1]; grind)
  rw [this.1, this.2.1, this.2.2]
  exact ⟨q3, q1, q2⟩

theorem div_of {a b c d : Int} (v1 : validB a b = true) (v2 : validB c d = true) (h : c ≠ 0) : divN a b c d = nN (dvS a c d) (dvD b c) ∧ divD a b c d = nD (dvS a c d) (dvD b c) ∧ divE a b c d = nE (dvS a c d) (dvD b c) := by
  have hB := (addB_iff a b c d).2 ⟨v1, v2⟩
  unfold divN divD divE
  simp [hB, h]
theorem dvD_pos {b c : Int} (hb : 0 < b) (h : c ≠ 0) : 0 < dvD b c := by
  unfold dvD; exact Int.mul_pos hb (by omega)

/-- (a * b) / b. -/
theorem mul_undo {a b c d : Int} (h : mulE a b c d = 0) (hc : c ≠ 0) :
    divE (mulN a b c d) (mulD a b c d) c d = 0 ∧ divN (mulN a b c d) (mulD a b c d) c d = a ∧ divD (mulN a b c d) (mulD a b c d) c d = b := by
  obtain ⟨v1, v2, v3, e1⟩ := mul_ok h
  obtain ⟨p1, p2, p3⟩ := div_of v3 v2 hc
  obtain ⟨q1, q2, q3⟩ := n_valid v1
  rw [p1, p2, p3]
  have b1 := valid_pos v1
  have b2 := valid_pos v2
  have b3 := valid_pos v3
  clear p1 p2 p3 h v1 v2 v3
  generalize mulN a b c d = A at *
  generalize mulD a b c d = B at *
  have := n_value (s := dvS A c d) (d := dvD B c) (s' := a) (d' := b) (dvD_pos b3 hc) b1 (by
    unfold dvS dvD
    by_cases cn : c < 0
    · rw [if_pos cn, show (c.natAbs : Int) = -c by omega]
      have x1 : -(A * d) * b = -(A * (b * d)) := by grind
      rw [x1, e1]; grind
    · rw [if_neg cn, show (c.natAbs : Int) = c by omega]
      have x1 : A * d * b = A * (b * d) := by grind
      rw [x1, e1]; grind)
  rw [this.1, this.2.1, this.2.2]
  exact ⟨q3, q1, q2⟩

theorem cmp_of {a b c d : Int} (v1 : validB a b = true) (v2 : validB c d = true) : cmpV a b c d = (if a * d < c * b then -1 else if a * d = c * b then 0 else 1) ∧ cmpE a b c d = 0 := by
  have hB := (addB_iff a b c d).2 ⟨v1, v2⟩
  unfold cmpV cmpE; simp [hB]
theorem cmp_no {a b c d : Int} (h : addB a b c d = false) : cmpV a b c d = 0 ∧ cmpE a b c d = 1 := by
  unfold cmpV cmpE; simp [h]
theorem cmp_bd (a b c d : Int) : -1 ≤ cmpV a b c d ∧ cmpV a b c d ≤ 1 := by
  unfold cmpV; repeat' split
  all_goals omega
theorem cmp_swap (a b c d : Int) : cmpV c d a b = -cmpV a b c d ∧ cmpE c d a b = cmpE a b c d := by
  unfold cmpV cmpE
  rw [addB_comm c d a b]
  refine ⟨?_, rfl⟩
  repeat' split
  all_goals omega
theorem cmp_zero {a b c d : Int} (v1 : validB a b = true) (v2 : validB c d = true) : cmpV a b c d = 0 ↔ (a = c ∧ b = d) := by
  rw [(cmp_of v1 v2).1]
  constructor
  · intro h
    have e : a * d = c * b := by
      by_cases c1 : a * d < c * b
      · rw [if_pos c1] at h; omega
      · by_cases c2 : a * d = c * b
        · exact c2
        · rw [if_neg c1, if_neg c2] at h; omega
    exact low_unique (valid_pos v1) (valid_pos v2) ((validB_iff _ _).1 v1).2 ((validB_iff _ _).1 v2).2 e
  · rintro ⟨rfl, rfl⟩
    rw [if_neg (by omega), if_pos rfl]
theorem cmp_le {a b c d : Int} (v1 : validB a b = true) (v2 : validB c d = true) : (cmpV a b c d ≤ 0 ↔ a * d ≤ c * b) ∧ (cmpV a b c d < 0 ↔ a * d < c * b) := by
  rw [(cmp_of v1 v2).1]
  by_cases c1 : a * d < c * b
  · rw [if_pos c1]; omega
  · by_cases c2 : a * d = c * b
    · rw [if_neg c1, if_pos c2]; omega
    · rw [if_neg c1, if_neg c2]; omega

theorem cross_le {a b c d e f : Int} (hb : 0 < b) (hd : 0 < d) (hf : 0 < f) (h1 : a * d ≤ c * b) (h2 : c * f ≤ e * d) : a * f ≤ e * b := by
  have x1 : a * d * f ≤ c * b * f := Int.mul_le_mul_of_nonneg_right h1 (by omega)
  have x2 : c * f * b ≤ e * d * b := Int.mul_le_mul_of_nonneg_right h2 (by omega)
  have x3 : a * f * d ≤ e * b * d := by
    have y1 : a * f * d = a * d * f := by grind
    have y2 : e * b * d = e * d * b := by grind
    have y3 : c * b * f = c * f * b := by grind
    omega
  exact Int.le_of_mul_le_mul_right x3 hd
theorem cross_lt {a b c d e f : Int} (hb : 0 < b) (hd : 0 < d) (hf : 0 < f) (h1 : a * d ≤ c * b) (h2 : c * f ≤ e * d) (h : a * d < c * b ∨ c * f < e * d) : a * f < e * b := by
  have y1 : a * f * d = a * d * f := by grind
  have y2 : e * b * d = e * d * b := by grind
  have y3 : c * b * f = c * f * b := by grind
  have x1 : a * d * f ≤ c * b * f := Int.mul_le_mul_of_nonneg_right h1 (by omega)
  have x2 : c * f * b ≤ e * d * b := Int.mul_le_mul_of_nonneg_right h2 (by omega)
  have x3 : a * f * d < e * b * d := by
    rcases h with h | h
    · have : a * d * f < c * b * f := Int.mul_lt_mul_of_pos_right h hf
      omega
    · have : c * f * b < e * d * b := Int.mul_lt_mul_of_pos_right h hb
      omega
  exact Int.lt_of_mul_lt_mul_right x3 (by omega)

/-- The order is transitive. -/
theorem cmp_trans {a b c d e f : Int} (v1 : validB a b = true) (v2 : validB c d = true) (v3 : validB e f = true) (h1 : cmpV a b c d ≤ 0) (h2 : cmpV c d e f ≤ 0) :
    cmpV a b e f ≤ 0 ∧ ((cmpV a b c d < 0 ∨ cmpV c d e f < 0) → cmpV a b e f < 0) := by
  have l1 := cmp_le v1 v2
  have l2 := cmp_le v2 v3
  have l3 := cmp_le v1 v3
  have p1 := valid_pos v1
  have p2 := valid_pos v2
  have p3 := valid_pos v3
  refine ⟨l3.1.2 (cross_le p1 p2 p3 (l1.1.1 h1) (l2.1.1 h2)), fun h => l3.2.2 (cross_lt p1 p2 p3 (l1.1.1 h1) (l2.1.1 h2) ?_)⟩
  rcases h with h | h
  · exact .inl (l1.2.1 h)
  · exact .inr (l2.2.1 h)

/-- Differences agree with the order. -/
theorem sub_sign {a b c d : Int} (v1 : validB a b = true) (v2 : validB c d = true) (h : subE a b c d = 0) :
    (subN a b c d < 0 ↔ cmpV a b c d < 0) ∧ (subN a b c d = 0 ↔ cmpV a b c d = 0) := by
  unfold subE at h
  unfold subN
  rw [if_pos v2] at h ⊢
  obtain ⟨p1, _, p3⟩ := add_of v1 (valid_neg v2)
  rw [p3] at h
  rw [p1]
  have hs := n_sign _ _ (Int.mul_pos (valid_pos v1) (valid_pos v2)) h
  have e : a * d + -c * b = a * d - c * b := by grind
  rw [e] at hs ⊢
  rw [(cmp_of v1 v2).1]
  by_cases c1 : a * d < c * b
  · rw [if_pos c1]; omega
  · by_cases c2 : a * d = c * b
    · rw [if_neg c1, if_pos c2]; omega
    · rw [if_neg c1, if_neg c2]; omega

/-- Between floor and ceiling. -/
theorem floor_facts {n d : Int} (v : validB n d = true) :
    flN n d * d ≤ n ∧ n ≤ clN n d * d ∧ -1000000000000000 ≤ flN n d ∧ flN n d ≤ 1000000000000000 ∧ -1000000000000000 ≤ clN n d ∧ clN n d ≤ 1000000000000000 ∧ ((clN n d - flN n d = 1 ∧ 1 < d) ∨ (clN n d = flN n d ∧ d = 1)) := by
  obtain ⟨⟨h0, h1, h2, h3⟩, h4⟩ := (validB_iff n d).1 v
  unfold flN clN
  rw [if_pos v, if_pos v]
  have a1 := Int.emod_nonneg n (show d ≠ 0 by omega)
  have a2 := Int.emod_lt_of_pos n (show 0 < d by omega)
  have a3 := Int.mul_ediv_add_emod n d
  have b1 := Int.emod_nonneg (-n) (show d ≠ 0 by omega)
  have b2 := Int.emod_lt_of_pos (-n) (show 0 < d by omega)
  have b3 := Int.mul_ediv_add_emod (-n) d
  have c1 : -1000000000000000 ≤ n / d ∧ n / d ≤ 1000000000000000 := by
    constructor
    · rw [Int.le_ediv_iff_mul_le (by omega)]
      have : -1000000000000000 * d ≤ -1000000000000000 * 1 := Int.mul_le_mul_of_nonpos_left (by omega) (by omega)
      omega
    · have : n / d < 1000000000000001 := by
        rw [Int.ediv_lt_iff_lt_mul (by omega)]
        have : (1000000000000001 : Int) * 1 ≤ 1000000000000001 * d := Int.mul_le_mul_of_nonneg_left (by omega) (by omega)
        omega
      omega
  have c2 : -1000000000000000 ≤ (-n) / d ∧ (-n) / d ≤ 1000000000000000 := by
    constructor
    · rw [Int.le_ediv_iff_mul_le (by omega)]
      have : -1000000000000000 * d ≤ -1000000000000000 * 1 := Int.mul_le_mul_of_nonpos_left (by omega) (by omega)
      omega
    · have : (-n) / d < 1000000000000001 := by
        rw [Int.ediv_lt_iff_lt_mul (by omega)]
        have : (1000000000000001 : Int) * 1 ≤ 1000000000000001 * d := Int.mul_le_mul_of_nonneg_left (by omega) (by omega)
        omega
      omega
  rw [Int.mul_comm (n / d) d, Int.neg_mul, Int.mul_comm ((-n) / d) d]
  refine ⟨by omega, by omega, by omega, by omega, by omega, by omega, ?_⟩
  by_cases hd : d = 1
  · subst hd
    right; simp
  · left
    refine ⟨?_, by omega⟩
    have hne : n % d ≠ 0 := by
      intro e
      have hdv : d ∣ n := Int.dvd_of_emod_eq_zero e
      have : d.natAbs ∣ Nat.gcd n.natAbs d.natAbs := Nat.dvd_gcd (Int.natAbs_dvd_natAbs.2 hdv) (Nat.dvd_refl _)
      rw [h4] at this
      have := Nat.le_of_dvd (by omega) this
      omega
    generalize n / d = q at *
    generalize n % d = r at *
    generalize (-n) / d = q' at *
    generalize (-n) % d = r' at *
    have e1 : d * (q + q') = -(r + r') := by rw [Int.mul_add]; omega
    have e2 : q + q' = -1 := by
      have k1 : d * (q + q') < d * 0 := by omega
      have k2 : d * (-2) < d * (q + q') := by omega
      have m1 := Int.lt_of_mul_lt_mul_left k1 (by omega)
      have m2 := Int.lt_of_mul_lt_mul_left k2 (by omega)
      omega
    omega

theorem mk_one {x : Int} (h0 : -1000000000000000 ≤ x) (h1 : x ≤ 1000000000000000) : mkN x 1 = x ∧ mkD x 1 = 1 ∧ mkE x 1 = 0 ∧ validB x 1 = true := by
  have v : validB x 1 = true := (validB_iff x 1).2 ⟨by omega, by simp⟩
  have := n_valid v
  unfold mkN mkD mkE mkS
  simp
  exact ⟨this.1, this.2.1, this.2.2, v⟩
theorem mk_valid {n d : Int} (h : mkE n d = 0) : validB (mkN n d) (mkD n d) = true := by
  unfold mkE at h
  unfold mkN mkD
  by_cases hd : d = 0
  · rw [if_pos hd] at h; omega
  · rw [if_neg hd] at h ⊢
    rw [if_neg hd]
    rcases n_cases (mkS n d) (d.natAbs : Int) (by omega) with ⟨e, _⟩ | ⟨_, _, hv, _⟩
    · omega
    · exact hv

end Go.Proofs.YtnhmebhmlbofgaaDoor.Frac

/- Contracts of Valid, ValidFraction, and joins of shortened results. No conditions but those printed. -/
import Derived.Test.YtnhmebhmlbofgaaDoorRatG
namespace Go.Proofs.YtnhmebhmlbofgaaDoor
open Go.RowKit Frac

attribute [local go_sem] calmUpon
set_option linter.unusedSimpArgs false
set_option linter.unusedVariables false

/-- A shortened result is the value's own. -/
theorem w_n {s d : Int} {N D : Nat} {neg : Bool} (hd : 0 < d) (hD : 0 < D) (hc : Nat.gcd N D = 1) (hv : (if neg = true then -(N : Int) else N) * d = s * D) :
    wN neg N D = nN s d ∧ wD N D = nD s d ∧ wE N D = nE s d := by
  obtain ⟨e1, e2, e3⟩ := n_value (s := s) (d := d) (s' := if neg = true then -(N : Int) else N) (d' := D) hd (by omega) hv.symm
  rw [e1, e2, e3]
  have hg : gOf (if neg = true then -(N : Int) else N) D = 1 := by
    unfold gOf; cases neg <;> simp [hc]
  have r1 : rN (if neg = true then -(N : Int) else N) D = (if neg = true then -(N : Int) else N) := by unfold rN; rw [hg]; simp
  have r2 : rD (if neg = true then -(N : Int) else N) D = D := by unfold rD; rw [hg]; simp
  have ho : nOk (if neg = true then -(N : Int) else N) D = wOk N D := by
    unfold nOk wOk; rw [r1, r2, Bool.eq_iff_iff]; cases neg <;> simp only [Bool.and_eq_true, decide_eq_true_eq, Bool.false_eq_true, if_true, if_false] <;> omega
  unfold wN wD wE nN nD nE
  rw [ho, r1, r2]
  exact ⟨rfl, rfl, rfl⟩

theorem gcd_cut {n d : Nat} (hd : 0 < d) : Nat.gcd (n / Nat.gcd n d) (d / Nat.gcd n d) = 1 ∧ 0 < d / Nat.gcd n d ∧ n / Nat.gcd n d * d = n * (d / Nat.gcd n d) := by
  have hg : 0 < Nat.gcd n d := Nat.gcd_pos_of_pos_right _ hd
  refine ⟨Nat.coprime_div_gcd_div_gcd hg, Nat.div_pos (Nat.gcd_le_right _ hd) hg, ?_⟩
  obtain ⟨a, ha⟩ := Nat.gcd_dvd_left n d
  obtain ⟨b, hb⟩ := Nat.gcd_dvd_right n d
  generalize Nat.gcd n d = g at *
  subst ha
  subst hb
  rw [Nat.mul_div_cancel_left _ hg, Nat.mul_div_cancel_left _ hg]
  simp only [Nat.mul_left_comm, Nat.mul_assoc, Nat.mul_comm]

/-- The same for a numerator and a denominator that are shortened by their divisor. -/
theorem w_cut {s d : Int} {N D : Nat} {neg : Bool} (hd : 0 < d) (hD : 0 < D) (hv : (if neg = true then -(N : Int) else N) * d = s * D) :
    wN neg (N / Nat.gcd N D) (D / Nat.gcd N D) = nN s d ∧ wD (N / Nat.gcd N D) (D / Nat.gcd N D) = nD s d ∧ wE (N / Nat.gcd N D) (D / Nat.gcd N D) = nE s d := by
  obtain ⟨h1, h2, h3⟩ := gcd_cut (n := N) hD
  refine w_n hd h2 h1 ?_
  generalize N / Nat.gcd N D = a at *
  generalize D / Nat.gcd N D = b at *
  have h3' : (a : Int) * D = N * b := by exact_mod_cast h3
  have hD' : (0 : Int) < D := by omega
  refine Int.eq_of_mul_eq_mul_right (a := (D : Int)) (by omega) ?_
  cases neg
  · simp only [Bool.false_eq_true, if_false] at hv ⊢
    calc (a : Int) * d * D = (a * D) * d := by grind
      _ = N * d * b := by rw [h3']; grind
      _ = s * b * D := by rw [hv]; grind
  · simp only [if_true] at hv ⊢
    calc -(a : Int) * d * D = -(a * D) * d := by grind
      _ = -(N : Int) * d * b := by rw [h3']; grind
      _ = s * b * D := by rw [hv]; grind

theorem mk_value (n d : Int) (hd : d ≠ 0) (neg : Bool) (hneg : n = 0 ∨ (neg = true ↔ ((n < 0 ∧ ¬ d < 0) ∨ (¬ n < 0 ∧ d < 0)))) :
    (if neg = true then -(n.natAbs : Int) else n.natAbs) * (d.natAbs : Int) = mkS n d * (d.natAbs : Int) := by
  unfold mkS
  by_cases h0 : n = 0
  · subst h0; cases neg <;> simp
  · congr 1
    rcases hneg with hneg | hneg
    · exact absurd hneg h0
    · by_cases h1 : d < 0 <;> cases neg <;> simp at hneg ⊢ <;> omega

theorem mk_join (n d : Int) (hd : d ≠ 0) (neg : Bool) (hneg : n = 0 ∨ (neg = true ↔ ((n < 0 ∧ ¬ d < 0) ∨ (¬ n < 0 ∧ d < 0)))) :
    wN neg (n.natAbs / Nat.gcd n.natAbs d.natAbs) (d.natAbs / Nat.gcd n.natAbs d.natAbs) = mkN n d ∧ wD (n.natAbs / Nat.gcd n.natAbs d.natAbs) (d.natAbs / Nat.gcd n.natAbs d.natAbs) = mkD n d ∧ wE (n.natAbs / Nat.gcd n.natAbs d.natAbs) (d.natAbs / Nat.gcd n.natAbs d.natAbs) = mkE n d := by
  unfold mkN mkD mkE
  rw [if_neg hd, if_neg hd, if_neg hd]
  exact w_cut (by omega) (by omega) (mk_value n d hd neg hneg)

def BRes (b : Bool) (w : World) (e : Ending) (w' : World) : Prop := e = .returned (.bool b) ∧ Rel w w'

theorem valid_ways (n d : Int) :
    (decide (1 ≤ d) = false ∧ validB n d = false) ∨
    (1 ≤ d ∧ decide (1 ≤ d) = true ∧ decide (d ≤ 1000000000) = false ∧ validB n d = false) ∨
    (1 ≤ d ∧ decide (1 ≤ d) = true ∧ decide (d ≤ 1000000000) = true ∧ decide (-1000000000000000 ≤ n) = false ∧ validB n d = false) ∨
    (1 ≤ d ∧ decide (1 ≤ d) = true ∧ decide (d ≤ 1000000000) = true ∧ decide (-1000000000000000 ≤ n) = true ∧ decide (n ≤ 1000000000000000) = false ∧ validB n d = false) ∨
    (1 ≤ d ∧ d ≤ 1000000000 ∧ decide (1 ≤ d) = true ∧ decide (d ≤ 1000000000) = true ∧ decide (-1000000000000000 ≤ n) = true ∧ decide (n ≤ 1000000000000000) = true ∧ (((Nat.gcd n.natAbs d.natAbs : Nat) : Int) == 1) = validB n d) := by
  unfold validB
  by_cases h1 : 1 ≤ d
  · by_cases h2 : d ≤ 1000000000
    · by_cases h3 : -1000000000000000 ≤ n
      · by_cases h4 : n ≤ 1000000000000000
        · refine .inr (.inr (.inr (.inr ⟨h1, h2, by simp [h1], by simp [h2], by simp [h3], by simp [h4], ?_⟩)))
          simp only [h1, h2, h3, h4, and_self, decide_true, Bool.true_and]
          by_cases g : Nat.gcd n.natAbs d.natAbs = 1 <;> simp [g]
          omega
        · exact .inr (.inr (.inr (.inl ⟨h1, by simp [h1], by simp [h2], by simp [h3], by simp [h4], by simp [h4]⟩)))
      · exact .inr (.inr (.inl ⟨h1, by simp [h1], by simp [h2], by simp [h3], by simp [h3]⟩))
    · exact .inr (.inl ⟨h1, by simp [h1], by simp [h2], by simp [h2]⟩)
  · exact .inl ⟨by simp [h1], by simp [h1]⟩

end Go.Proofs.YtnhmebhmlbofgaaDoor

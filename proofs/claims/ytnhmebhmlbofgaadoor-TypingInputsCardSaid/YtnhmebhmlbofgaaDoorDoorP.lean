/- Plain facts: what Atoi makes of a number's text, and what natural does. No program in sight. -/
import Derived.Test.YtnhmebhmlbofgaaDoorRatTxt
import Derived.Test.YtnhmebhmlbofgaaDoorCalT
import Derived.Lib.AtoiAll
namespace Go.Proofs.YtnhmebhmlbofgaaDoor.Txt
open Str Frac Tok

theorem val_cons (c : UInt8) (l : List UInt8) : val (c :: l) = ((c.toNat : Int) - 48) * ((10 ^ l.length : Nat) : Int) + val l := by
  have := val_app [c] l
  rw [List.singleton_append] at this
  rw [this]
  have e : val [c] = (c.toNat : Int) - 48 := by simp [val]
  rw [e]
theorem dl_ne (u : Nat) : dl 40 u 1 ≠ [] := by rw [dl_step 39 u 1 (.inr (by decide))]; simp
theorem dl_val1 (u : Nat) (h : u ≤ 1000000000000000000) : val (dl 40 u 1) = u := val_dl 40 u 1 (Nat.lt_of_le_of_lt h (by decide)) (by decide)
theorem head_ne (f : Nat) : ∀ u, 0 < u → u < 10 ^ f → ∃ c r, dl f u 1 = c :: r ∧ ¬ (c.toNat : Int) = 48 := by
  induction f with
  | zero => intro u h0 h1; simp at h1; omega
  | succ f ih =>
    intro u h0 h1
    rw [dl_step f u 1 (.inr (by decide)), show 1 - 1 = 0 from rfl]
    by_cases h10 : u / 10 = 0
    · rw [h10, dl_stop]
      refine ⟨UInt8.ofNat (48 + u % 10), [], rfl, ?_⟩
      have : u % 10 = u := by omega
      rw [this]
      have h : (UInt8.ofNat (48 + u)).toNat = 48 + u := by simp; omega
      rw [h]; omega
    · obtain ⟨c, r, e, hc⟩ := ih (u / 10) (by omega) (by rw [Nat.pow_succ] at h1; omega)
      rw [dl_zero_one _ _ (by omega), e]
      exact ⟨c, r ++ _, rfl, hc⟩
theorem len_le (f : Nat) : ∀ u k, 1 ≤ k → u < 10 ^ k → (dl f u 1).length ≤ k := by
  induction f with
  | zero => intro u k _ _; simp [dl]
  | succ f ih =>
    intro u k h1 h
    rw [dl_step f u 1 (.inr (by decide)), show 1 - 1 = 0 from rfl]
    by_cases h10 : u / 10 = 0
    · rw [h10, dl_stop]; simpa using h1
    · obtain ⟨j, rfl⟩ : ∃ j, k = j + 1 := ⟨k - 1, by omega⟩
      rw [Nat.pow_succ] at h
      have hj : 1 ≤ j := by
        rcases Nat.eq_zero_or_pos j with rfl | hj
        · simp at h; omega
        · exact hj
      have := ih (u / 10) j hj (by omega)
      rw [dl_zero_one _ _ (by omega)]
      simp; omega

end Go.Proofs.YtnhmebhmlbofgaaDoor.Txt

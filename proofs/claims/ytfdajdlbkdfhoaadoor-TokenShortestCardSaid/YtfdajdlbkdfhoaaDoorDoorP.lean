/- Plain facts: what Atoi makes of a number's text, and what natural does. No program in sight. -/
import Derived.Test.YtfdajdlbkdfhoaaDoorRatTxt
import Derived.Test.YtfdajdlbkdfhoaaDoorCalT
import Derived.Lib.AtoiAll
namespace Go.Proofs.YtfdajdlbkdfhoaaDoor.Txt
open Str Frac Tok

theorem val_cons (c : UInt8) (l : List UInt8) : val (c :: l) = ((c.toNat : Int) - 48) * ((10 ^ l.length : Nat) : Int) + val l := by
  have := val_app [c] l
  rw [List.singleton_append] at this
  rw [this]
  have e : val [c] = (c.toNat : Int) - 48 := by simp [val]
  rw [e]
theorem parse_digits (l : List UInt8) : ∀ acc : Nat, allD l = true → ((acc * 10 ^ l.length : Nat) : Int) + val l < 10000000000000000000 → Lib.parseUint10 acc l = .ok (acc * 10 ^ l.length + (val l).toNat) := by
  induction l with
  | nil => intro acc _ _; simp [Lib.parseUint10, val_nil]
  | cons c l ih =>
    intro acc hA hv
    have hA0 := hA
    unfold allD at hA
    simp only [List.all_cons, Bool.and_eq_true, decide_eq_true_eq] at hA
    obtain ⟨⟨c0, c1⟩, hA2⟩ := hA
    have hAl : allD l = true := hA2
    have vb := val_bd l hAl
    rw [val_cons, List.length_cons, Nat.pow_succ] at hv
    have hp : 1 ≤ 10 ^ l.length := Nat.one_le_pow _ _ (by decide)
    obtain ⟨d, hd⟩ : ∃ d : Nat, c.toNat = 48 + d := ⟨c.toNat - 48, by omega⟩
    have e1 : ((c.toNat : Int) - 48) = (d : Int) := by omega
    rw [e1] at hv
    have e2 : ((acc * (10 ^ l.length * 10) : Nat) : Int) + (d : Int) * ((10 ^ l.length : Nat) : Int) = (((acc * 10 + d) * 10 ^ l.length : Nat) : Int) := by
      push_cast; grind
    have hv2 : (((acc * 10 + d) * 10 ^ l.length : Nat) : Int) + val l < 10000000000000000000 := by omega
    have hle : acc * 10 + d ≤ (acc * 10 + d) * 10 ^ l.length := Nat.le_mul_of_pos_right _ hp
    have h3 := ih (acc * 10 + d) hAl hv2
    simp only [Lib.parseUint10]
    rw [if_pos (by omega), if_neg (by omega), if_neg (by omega), show c.toNat - 48 = d by omega, h3]
    congr 1
    rw [val_cons, e1, List.length_cons, Nat.pow_succ]
    have e3 : ((d : Int) * ((10 ^ l.length : Nat) : Int) + val l).toNat = d * 10 ^ l.length + (val l).toNat := by
      have : (d : Int) * ((10 ^ l.length : Nat) : Int) = ((d * 10 ^ l.length : Nat) : Int) := by push_cast; rfl
      rw [this]; omega
    rw [e3]
    grind

theorem dl_ne (u : Nat) : dl 40 u 1 ≠ [] := by rw [dl_step 39 u 1 (.inr (by decide))]; simp
theorem dl_val1 (u : Nat) (h : u ≤ 1000000000000000000) : val (dl 40 u 1) = u := val_dl 40 u 1 (Nat.lt_of_le_of_lt h (by decide)) (by decide)
theorem mag_dl (u : Nat) (h : u ≤ 1000000000000000000) : Lib.parseMag (dl 40 u 1) = .ok u := by
  unfold Lib.parseMag
  rw [if_neg (dl_ne u), parse_digits _ 0 (allD_dl _ _ _) (by rw [dl_val1 u h]; omega), dl_val1 u h]
  congr 1; omega
theorem atoi_numL (n : Int) (h0 : -1000000000000000000 ≤ n) (h1 : n ≤ 1000000000000000000) : Lib.atoiAll (numL n) = .ok n := by
  unfold numL
  by_cases hn : n < 0
  · rw [if_pos hn]
    have h45 : ((45 : UInt8).toNat = 45) := rfl
    simp only [Lib.atoiAll, h45]
    rw [if_pos (by simp), mag_dl _ (by omega)]
    simp only
    rw [if_neg (by simp), if_neg (by omega), if_pos trivial]
    congr 1; omega
  · rw [if_neg hn]
    have hd := allD_dl 40 n.natAbs 1
    have hm := mag_dl n.natAbs (by omega)
    cases hx : dl 40 n.natAbs 1 with
    | nil => exact absurd hx (dl_ne _)
    | cons c r =>
      rw [hx] at hd hm
      unfold allD at hd
      simp only [List.all_cons, Bool.and_eq_true, decide_eq_true_eq] at hd
      simp only [Lib.atoiAll]
      rw [if_neg (by omega), hm]
      simp only
      rw [if_neg (by omega), if_neg (by omega), if_neg (by omega)]
      congr 1; omega

theorem head_ne (f : Nat) : ∀ u, 0 < u → u < 10 ^ f → ∃ c r, dl f u 1 = c :: r ∧ ¬ (c.toNat : Int) = 48 := by
  induction f with
  | zero => intro u h0 h1; simp at h1; omega
  | succ f ih =>
    intro u h0 h1
    rw [dl_step f u 1 (.inr (by decide)), show 1 - 1 = 0 from rfl]
    by_cases h10 : u / 10 = 0
    · rw [h10, dl_stop]
      refine ⟨UInt8.ofNat (48 + u % 10), [], rfl, ?_⟩
      have : u % 10 = u := by omega
      rw [this]
      have h : (UInt8.ofNat (48 + u)).toNat = 48 + u := by simp; omega
      rw [h]; omega
    · obtain ⟨c, r, e, hc⟩ := ih (u / 10) (by omega) (by rw [Nat.pow_succ] at h1; omega)
      rw [dl_zero_one _ _ (by omega), e]
      exact ⟨c, r ++ _, rfl, hc⟩
theorem len_le (f : Nat) : ∀ u k, 1 ≤ k → u < 10 ^ k → (dl f u 1).length ≤ k := by
  induction f with
  | zero => intro u k _ _; simp [dl]
  | succ f ih =>
    intro u k h1 h
    rw [dl_step f u 1 (.inr (by decide)), show 1 - 1 = 0 from rfl]
    by_cases h10 : u / 10 = 0
    · rw [h10, dl_stop]; simpa using h1
    · obtain ⟨j, rfl⟩ : ∃ j, k = j + 1 := ⟨k - 1, by omega⟩
      rw [Nat.pow_succ] at h
      have hj : 1 ≤ j := by
        rcases Nat.eq_zero_or_pos j with rfl | hj
        · simp at h; omega
        · exact hj
      have := ih (u / 10) j hj (by omega)
      rw [dl_zero_one _ _ (by omega)]
      simp; omega

/-- natural's answer. -/
def natB (s : ByteArray) : Bool := !(decide (16 < s.size)) && (!(decide (1 < s.size) && hd0 s.data.toList) && (allD s.data.toList && decide (0 < s.size)))
theorem nat_dl (u : Nat) (h : u ≤ 1000000000000000) : natB ⟨(dl 40 u 1).toArray⟩ = true ∧ val (⟨(dl 40 u 1).toArray⟩ : ByteArray).data.toList = u := by
  have e : (⟨(dl 40 u 1).toArray⟩ : ByteArray).data.toList = dl 40 u 1 := mk_list _
  have hz : (⟨(dl 40 u 1).toArray⟩ : ByteArray).size = (dl 40 u 1).length := by rw [← size_list, e]
  have hl := len_le 40 u 16 (by decide) (by omega)
  have hp : 0 < (dl 40 u 1).length := by
    cases hx : dl 40 u 1 with
    | nil => exact absurd hx (dl_ne u)
    | cons c r => simp
  refine ⟨?_, by rw [e]; exact dl_val1 u (by omega)⟩
  unfold natB
  rw [hz, e, allD_dl, decide_eq_false (show ¬ 16 < (dl 40 u 1).length by omega), decide_eq_true hp]
  by_cases h0 : u = 0
  · subst h0
    have : (dl 40 0 1).length = 1 := by rw [dl_step 39 0 1 (.inr (by decide)), show 0 / 10 = 0 from rfl, show 1 - 1 = 0 from rfl, dl_stop]; rfl
    rw [this]; rfl
  · obtain ⟨c, r, e2, hc⟩ := head_ne 40 u (by omega) (Nat.lt_of_le_of_lt h (by decide))
    have : hd0 (dl 40 u 1) = false := by
      rw [e2]; show ((c.toNat : Int) == 48) = false
      rw [beq_eq_false_iff_ne]; exact hc
    rw [this]; simp

end Go.Proofs.YtfdajdlbkdfhoaaDoor.Txt

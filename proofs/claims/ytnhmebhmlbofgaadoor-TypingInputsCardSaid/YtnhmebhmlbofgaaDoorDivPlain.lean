/- Plain facts on the long division of a number of 128 bits by one of 64 (two digits of 32 bits, each estimated and put right). No program in sight. -/
import Derived.Laws.BitsAllLaws
import Derived.Laws.BitsLemmas
namespace Go.Proofs.YtnhmebhmlbofgaaDoor.Dv

/-- The quotient's digit. -/
theorem dig_lt {U Y u1 : Nat} (h : U < Y) (hu : u1 < 4294967296) : (U * 4294967296 + u1) / Y < 4294967296 := by
  rw [Nat.div_lt_iff_lt_mul (by omega)]
  have : (U + 1) * 4294967296 ≤ Y * 4294967296 := Nat.mul_le_mul_right _ h
  rw [Nat.mul_comm 4294967296 Y]; omega

theorem split_mul' (q Y : Nat) : q * Y = q * (Y / 4294967296) * 4294967296 + q * (Y % 4294967296) := by
  have e : Y = Y / 4294967296 * 4294967296 + Y % 4294967296 := by omega
  calc q * Y = q * (Y / 4294967296 * 4294967296 + Y % 4294967296) := by rw [← e]
    _ = _ := by rw [Nat.mul_add, Nat.mul_assoc]

/-- The estimate is not too small, and too great by two at most. -/
theorem est0 {U Y u1 : Nat} (h : U < Y) (hY : 9223372036854775808 ≤ Y) (hY2 : Y < 18446744073709551616) (hu : u1 < 4294967296) :
    (U * 4294967296 + u1) / Y ≤ U / (Y / 4294967296) ∧ U / (Y / 4294967296) ≤ 4294967298 ∧ U / (Y / 4294967296) * (Y / 4294967296) + U % (Y / 4294967296) = U := by
  have hv : 2147483648 ≤ Y / 4294967296 := by omega
  refine ⟨?_, ?_, ?_⟩
  · rw [Nat.le_div_iff_mul_le (by omega)]
    have h1 := Nat.div_mul_le_self (U * 4294967296 + u1) Y
    rw [split_mul'] at h1
    omega
  · have : U / (Y / 4294967296) < 4294967299 := by
      rw [Nat.div_lt_iff_lt_mul (by omega)]
      omega
    omega
  · rw [Nat.mul_comm]; exact Nat.div_add_mod _ _

/-- Where the test says yes the estimate is too great. -/
theorem est_yes {U Y u1 q r : Nat} (h : U < Y) (hu : u1 < 4294967296) (hr : q * (Y / 4294967296) + r = U)
    (ht : 4294967296 ≤ q ∨ 4294967296 * r + u1 < q * (Y % 4294967296)) : (U * 4294967296 + u1) / Y < q := by
  rcases ht with ht | ht
  · have := dig_lt h hu; omega
  · rw [Nat.div_lt_iff_lt_mul (by omega), split_mul' q Y]
    omega
/-- Where it says no the estimate is right. -/
theorem est_no {U Y u1 q r : Nat} (h : U < Y) (hr : q * (Y / 4294967296) + r = U) (hQ : (U * 4294967296 + u1) / Y ≤ q)
    (ht : q * (Y % 4294967296) ≤ 4294967296 * r + u1) : q = (U * 4294967296 + u1) / Y := by
  have : q ≤ (U * 4294967296 + u1) / Y := by
    rw [Nat.le_div_iff_mul_le (by omega), split_mul']
    omega
  omega
/-- Where the rest has grown past a digit the estimate is right. -/
theorem est_break {U Y u1 q r : Nat} (h : U < Y) (hr : q * (Y / 4294967296) + r = U) (hQ : (U * 4294967296 + u1) / Y ≤ q) (hq : q ≤ 4294967297)
    (ht : 4294967296 ≤ r) : q = (U * 4294967296 + u1) / Y := by
  refine est_no h hr hQ ?_
  have h1 : q * (Y % 4294967296) ≤ 4294967297 * 4294967295 := Nat.mul_le_mul hq (by omega)
  omega

/-- One step down. -/
theorem est_step {v q r U : Nat} (hr : q * v + r = U) (hq : 0 < q) : (q - 1) * v + (r + v) = U := by
  obtain ⟨k, rfl⟩ : ∃ k, q = k + 1 := ⟨q - 1, by omega⟩
  rw [Nat.add_mul] at hr
  simp only [Nat.add_sub_cancel]; omega

theorem est_prod {q v : Nat} (hq : q < 4294967296) (hv : v < 4294967296) : q * v < 18446744073709551616 := by
  have := Nat.mul_le_mul (show q ≤ 4294967295 by omega) (show v ≤ 4294967295 by omega)
  omega

/-- The rest behind a digit, reckoned round. -/
theorem rest_eq {U Y u1 : Nat} (h : U < Y) (hY2 : Y < 18446744073709551616) :
    (((((U : Int) * 4294967296) % 18446744073709551616 + u1) % 18446744073709551616 - (((U * 4294967296 + u1) / Y : Nat) * (Y : Int)) % 18446744073709551616) % 18446744073709551616) = (((U * 4294967296 + u1) % Y : Nat) : Int) := by
  have e := Nat.div_add_mod (U * 4294967296 + u1) Y
  have hm := Nat.mod_lt (U * 4294967296 + u1) (show 0 < Y by omega)
  generalize (U * 4294967296 + u1) / Y = q at *
  generalize (U * 4294967296 + u1) % Y = r at *
  have e' : ((Y * q + r : Nat) : Int) = ((U * 4294967296 + u1 : Nat) : Int) := by rw [e]
  rw [Int.natCast_add, Int.natCast_mul] at e'
  rw [Int.mul_comm (q : Int) (Y : Int)]
  generalize (Y : Int) * (q : Int) = m at *
  omega

theorem two_core {N y s Y q R : Nat} (hy : 0 < y) (hY : y * 2 ^ s = Y) (e : N * 2 ^ s = Y * q + R) (m2 : R < Y) : N / y = q ∧ N % y = R / 2 ^ s := by
  have hp : 0 < 2 ^ s := Nat.two_pow_pos s
  have hYp : 0 < Y := by rw [← hY]; exact Nat.mul_pos hy hp
  have d : N * 2 ^ s / Y = q := by
    rw [e, Nat.mul_add_div hYp, Nat.div_eq_of_lt m2, Nat.add_zero]
  have m : N * 2 ^ s % Y = R := by
    rw [e, Nat.mul_add_mod, Nat.mod_eq_of_lt m2]
  rw [← hY, Nat.mul_div_mul_right _ _ hp] at d
  rw [← hY, Nat.mul_mod_mul_right] at m
  exact ⟨d, by rw [← m, Nat.mul_div_cancel _ hp]⟩

theorem two_sum {W1 Y q1 V q2 R u0 : Nat} (e1 : Y * q1 + V = W1) (e2 : Y * q2 + R = V * 4294967296 + u0) : W1 * 4294967296 + u0 = Y * (q1 * 4294967296 + q2) + R := by
  rw [Nat.mul_add, ← Nat.mul_assoc, ← e1]; omega

/-- The two digits together. -/
theorem two_digits {N y s Y U D u1 u0 : Nat} (hy : 0 < y) (hY : y * 2 ^ s = Y) (hN : N * 2 ^ s = U * 18446744073709551616 + D) (hD : D = u1 * 4294967296 + u0) :
    N / y = (U * 4294967296 + u1) / Y * 4294967296 + ((U * 4294967296 + u1) % Y * 4294967296 + u0) / Y ∧ N % y = ((U * 4294967296 + u1) % Y * 4294967296 + u0) % Y / 2 ^ s := by
  have hYp : 0 < Y := by rw [← hY]; exact Nat.mul_pos hy (Nat.two_pow_pos s)
  refine two_core hy hY ?_ (Nat.mod_lt _ hYp)
  rw [← two_sum (Nat.div_add_mod (U * 4294967296 + u1) Y) (Nat.div_add_mod ((U * 4294967296 + u1) % Y * 4294967296 + u0) Y), hN, hD]
  omega

/-- The number shifted, in two halves. -/
theorem shifted {h l s : Nat} (hs : s ≤ 63) :
    (h * 18446744073709551616 + l) * 2 ^ s = (h * 2 ^ s + l / 2 ^ (64 - s)) * 18446744073709551616 + l * 2 ^ s % 18446744073709551616 := by
  have hp : 2 ^ (64 - s) * 2 ^ s = 18446744073709551616 := by rw [← Nat.pow_add, show 64 - s + s = 64 by omega]
  have e := Nat.div_add_mod l (2 ^ (64 - s))
  have e2 : l * 2 ^ s / 18446744073709551616 = l / 2 ^ (64 - s) := by
    rw [← hp, Nat.mul_div_mul_right _ _ (Nat.two_pow_pos s)]
  have e3 := Nat.div_add_mod (l * 2 ^ s) 18446744073709551616
  rw [e2] at e3
  rw [Nat.add_mul, Nat.mul_right_comm, Nat.add_mul]
  omega

theorem or_add {h s x : Nat} (hx : x < 2 ^ s) (hh : h * 2 ^ s + x < 18446744073709551616) : Go.bits .or .u64 ((h * 2 ^ s : Nat) : Int) (x : Int) = ((h * 2 ^ s + x : Nat) : Int) := by
  rw [Go.u64_or_nat _ _ (by omega) (by omega), Go.nat_join s _ _ (Nat.mul_mod_left _ _) hx]
theorem and_mask {a : Nat} (ha : a < 18446744073709551616) : Go.bits .and .u64 (a : Int) 4294967295 = ((a % 4294967296 : Nat) : Int) := by
  have := Go.u64_and_nat a 4294967295 ha (by decide)
  rw [show (4294967295 : Int) = ((4294967295 : Nat) : Int) from rfl, this]
  congr 1
  exact Nat.and_two_pow_sub_one_eq_mod a 32

end Go.Proofs.YtnhmebhmlbofgaaDoor.Dv

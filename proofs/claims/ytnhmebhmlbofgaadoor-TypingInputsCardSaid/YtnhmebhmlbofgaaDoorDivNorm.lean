/- Plain arithmetic of the shift ahead of the division. No program in sight. -/
import Derived.Test.YtnhmebhmlbofgaaDoorDivPlain
import Derived.Lib.ItoaNum
namespace Go.Proofs.YtnhmebhmlbofgaaDoor.Dv
open Go

theorem norm {y : Nat} (h0 : 0 < y) (h : y < 18446744073709551616) :
    ∃ s : Nat, s ≤ 63 ∧ 64 - (Lib.bitLen y : Int) = s ∧ 9223372036854775808 ≤ y * 2 ^ s ∧ y * 2 ^ s < 18446744073709551616 := by
  obtain ⟨a1, a2, a3⟩ := Lib.bitLenAux_bounds 64 y h (by omega)
  have a4 : Lib.bitLen y ≤ 64 := Lib.bitLen_le y 64 (by omega) h
  change 1 ≤ Lib.bitLen y at a1
  change 2 ^ (Lib.bitLen y - 1) ≤ y at a2
  change y < 2 ^ Lib.bitLen y at a3
  refine ⟨64 - Lib.bitLen y, by omega, by omega, ?_, ?_⟩
  · have e : 2 ^ (Lib.bitLen y - 1) * 2 ^ (64 - Lib.bitLen y) = 9223372036854775808 := by
      rw [← Nat.pow_add, show Lib.bitLen y - 1 + (64 - Lib.bitLen y) = 63 by omega]
    exact e ▸ Nat.mul_le_mul_right _ a2
  · have e : 2 ^ Lib.bitLen y * 2 ^ (64 - Lib.bitLen y) = 18446744073709551616 := by
      rw [← Nat.pow_add, show Lib.bitLen y + (64 - Lib.bitLen y) = 64 by omega]
    exact e ▸ Nat.mul_lt_mul_of_pos_right a3 (Nat.two_pow_pos _)

theorem top_lt {h l y s : Nat} (hh : h < y) (hl : l < 18446744073709551616) (hs : s ≤ 63) : l / 2 ^ (64 - s) < 2 ^ s ∧ h * 2 ^ s + l / 2 ^ (64 - s) < y * 2 ^ s := by
  have a : l / 2 ^ (64 - s) < 2 ^ s := by
    rw [Nat.div_lt_iff_lt_mul (Nat.two_pow_pos _), ← Nat.pow_add, show s + (64 - s) = 64 by omega]
    exact hl
  have b := Nat.mul_le_mul_right (2 ^ s) (show h + 1 ≤ y from hh)
  rw [Nat.add_mul] at b
  exact ⟨a, by omega⟩

end Go.Proofs.YtnhmebhmlbofgaaDoor.Dv

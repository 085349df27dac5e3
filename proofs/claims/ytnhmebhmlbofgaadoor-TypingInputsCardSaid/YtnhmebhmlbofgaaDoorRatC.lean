/- Contracts of Div64 and Rem64 in plain words. No conditions but those printed. -/
import Derived.Test.YtnhmebhmlbofgaaDoorRatB
import Derived.Test.YtnhmebhmlbofgaaDoorDivNorm
namespace Go.Proofs.YtnhmebhmlbofgaaDoor
open Go.RowKit Frac

theorem u64_nat {n : Nat} (h : n < 18446744073709551616) : IntKind.u64.wrap (n : Int) = n := IntWalk.u64_in _ ⟨by omega, by omega⟩

theorem div64_big {h l y s Y U D : Nat} {w : World} (hh : h < y) (hy : y < 18446744073709551616) (h0 : 0 < h) (hs : 64 - (Lib.bitLen y : Int) = s) (hs0 : s ≤ 63) (e1 : (y : Int) * 2 ^ s = Y)
    (hY1 : 9223372036854775808 ≤ Y) (hY2 : Y < 18446744073709551616) (hor : bits .or .u64 (IntKind.u64.wrap ((h : Int) * 2 ^ s)) ((l : Int) / 2 ^ (64 - s)) = U) (hw2 : IntKind.u64.wrap ((l : Int) * 2 ^ s) = D)
    (hUY : U < Y) (hD2 : D < 18446744073709551616) {N0 N1 : Nat} (r1 : N0 = (U * 4294967296 + D / 4294967296) / Y * 4294967296 + ((U * 4294967296 + D / 4294967296) % Y * 4294967296 + D % 4294967296) / Y)
    (r2 : N1 = ((U * 4294967296 + D / 4294967296) % Y * 4294967296 + D % 4294967296) % Y / 2 ^ s) :
    Calls Tryd.prog 71 #[.int .u64 h, .int .u64 l, .int .u64 y] w fun e w' => e = .returned (.tuple #[.int .u64 N0, .int .u64 N1]) ∧ Rel w w' := by
  obtain ⟨u1, hu1⟩ : ∃ u, D / 4294967296 = u := ⟨_, rfl⟩
  obtain ⟨u0, hu0⟩ : ∃ u, D % 4294967296 = u := ⟨_, rfl⟩
  have hu1' : (D : Int) / 4294967296 = u1 := by omega
  have hu0' : bits .and .u64 (D : Int) 4294967295 = u0 := by rw [Dv.and_mask hD2, hu0]
  have hu1b : u1 < 4294967296 := by omega
  have hu0b : u0 < 4294967296 := by omega
  rw [hu1, hu0] at r1 r2
  clear hu1 hu0 hD2
  have eA := Dv.est0 hUY hY1 hY2 hu1b
  have dA := Dv.dig_lt hUY hu1b
  have wA := Dv.rest_eq (u1 := u1) hUY hY2
  have hVY : (U * 4294967296 + u1) % Y < Y := Nat.mod_lt _ (by omega)
  obtain ⟨Q1, hQ1⟩ : ∃ q, (U * 4294967296 + u1) / Y = q := ⟨_, rfl⟩
  obtain ⟨V, hV⟩ : ∃ q, (U * 4294967296 + u1) % Y = q := ⟨_, rfl⟩
  rw [hQ1] at eA dA wA r1
  rw [hV] at wA r1 r2 hVY
  have eB := Dv.est0 hVY hY1 hY2 hu0b
  have dB := Dv.dig_lt hVY hu0b
  have wB := Dv.rest_eq (u1 := u0) hVY hY2
  obtain ⟨Q2, hQ2⟩ : ∃ q, (V * 4294967296 + u0) / Y = q := ⟨_, rfl⟩
  obtain ⟨R, hR⟩ : ∃ q, (V * 4294967296 + u0) % Y = q := ⟨_, rfl⟩
  rw [hQ2] at eB dB wB r1
  rw [hR] at wB r2
  obtain ⟨v1, hv1⟩ : ∃ v, Y / 4294967296 = v := ⟨_, rfl⟩
  have hv0 := Dv.and_mask hY2
  have hv1' : (Y : Int) / 4294967296 = v1 := by omega
  rw [hv1] at eA eB
  have hv1p : 2147483648 ≤ v1 := by omega
  have hv1q : v1 < 4294967296 := by omega
  have mA : U % v1 < v1 := Nat.mod_lt _ (by omega)
  have mB : V % v1 < v1 := Nat.mod_lt _ (by omega)
  have iA : (U : Int) / v1 = ((U / v1 : Nat) : Int) := rfl
  have iB : (V : Int) / v1 = ((V / v1 : Nat) : Int) := rfl
  obtain ⟨qa, hqa⟩ : ∃ q, U / v1 = q := ⟨_, rfl⟩
  obtain ⟨qb, hqb⟩ : ∃ q, V / v1 = q := ⟨_, rfl⟩
  obtain ⟨ra, hra⟩ : ∃ q, U % v1 = q := ⟨_, rfl⟩
  obtain ⟨rb, hrb⟩ : ∃ q, V % v1 = q := ⟨_, rfl⟩
  rw [hqa] at iA eA
  rw [hqb] at iB eB
  rw [hra] at mA eA
  rw [hrb] at mB eB
  obtain ⟨a1, a2, a3⟩ := eA
  obtain ⟨b1, b2, b3⟩ := eB
  have pA : (qa : Int) * v1 = ((qa * v1 : Nat) : Int) := rfl
  have pB : (qb : Int) * v1 = ((qb * v1 : Nat) : Int) := rfl
  refine div64_core h l y s Y v1 (Y % 4294967296) U D u1 u0 qa (qa * v1) ra Q1 V qb (qb * v1) rb Q2 R N0 N1 w h0 hh hy hs hs0 e1 hY2 hv1' hv1p hv1q hv0 (Lib.hid ⟨hv1.symm, rfl, by omega, trivial⟩)
    hor (by omega) hw2 hu1' hu1b hu0' hu0b iA pA (by omega) ?_ (by omega) a2 (Lib.hid a3) (Lib.hid a1) (Lib.hid ⟨hUY, hQ1.symm, hu1b⟩) dA (Lib.hid ?_) (by omega) iB pB (by omega) ?_ (by omega) b2 (Lib.hid b3) (Lib.hid b1)
    (Lib.hid ⟨hVY, hQ2.symm, hu0b⟩) dB (Lib.hid ?_) (Lib.hid ⟨?_, ?_⟩)
  · omega
  · simp only [IntKind.wrap_u64]; exact wA
  · omega
  · simp only [IntKind.wrap_u64]; exact wB
  · rw [r1]; rfl
  · rw [r2]; simp

theorem div64_any (h l y : Nat) (w : World) (hh : h < y) (hl : l < 18446744073709551616) (hy : y < 18446744073709551616) :
    Calls Tryd.prog 71 #[.int .u64 h, .int .u64 l, .int .u64 y] w fun e w' => e = .returned (.tuple #[.int .u64 ((h * 18446744073709551616 + l) / y : Nat), .int .u64 ((h * 18446744073709551616 + l) % y : Nat)]) ∧ Rel w w' := by
  rcases Nat.eq_zero_or_pos h with rfl | h0
  · have := div64_small l y w hl hh hy
    rwa [show 0 * 18446744073709551616 + l = l by omega]
  · obtain ⟨s, hs0, hs, hY1, hY2⟩ := Dv.norm (by omega) hy
    obtain ⟨ht, hUY⟩ := Dv.top_lt (s := s) hh hl hs0
    have e1 : (y : Int) * 2 ^ s = ((y * 2 ^ s : Nat) : Int) := by simp
    have e2 : (h : Int) * 2 ^ s = ((h * 2 ^ s : Nat) : Int) := by simp
    have e3 : (l : Int) / 2 ^ (64 - s) = ((l / 2 ^ (64 - s) : Nat) : Int) := by simp
    have e4 : (l : Int) * 2 ^ s = ((l * 2 ^ s : Nat) : Int) := by simp
    have hor := Dv.or_add (h := h) (s := s) (x := l / 2 ^ (64 - s)) ht (Nat.lt_trans hUY hY2)
    rw [← e3] at hor
    have hw1 : IntKind.u64.wrap ((h : Int) * 2 ^ s) = ((h * 2 ^ s : Nat) : Int) := by
      rw [e2]; exact u64_nat (Nat.lt_of_le_of_lt (Nat.le_add_right _ _) (Nat.lt_trans hUY hY2))
    have hw2 : IntKind.u64.wrap ((l : Int) * 2 ^ s) = ((l * 2 ^ s % 18446744073709551616 : Nat) : Int) := by
      rw [e4]; simp only [IntKind.wrap_u64]; rfl
    have hsh := Dv.shifted (h := h) (l := l) hs0
    obtain ⟨Y, hYe⟩ : ∃ Y, y * 2 ^ s = Y := ⟨_, rfl⟩
    obtain ⟨U, hUe⟩ : ∃ U, h * 2 ^ s + l / 2 ^ (64 - s) = U := ⟨_, rfl⟩
    obtain ⟨D, hDe⟩ : ∃ D, l * 2 ^ s % 18446744073709551616 = D := ⟨_, rfl⟩
    rw [← hw1, hUe] at hor
    rw [hDe] at hw2
    have hD2 : D < 18446744073709551616 := by rw [← hDe]; exact Nat.mod_lt _ (by omega)
    rw [hUe, hDe] at hsh
    rw [hYe] at hY1 hY2 e1 hUY
    rw [hUe] at hUY
    obtain ⟨r1, r2⟩ := Dv.two_digits (D := D) (u1 := D / 4294967296) (u0 := D % 4294967296) (show 0 < y by omega) hYe hsh (by omega)
    clear hsh ht e2 e3 e4 hw1 hDe hUe
    exact div64_big hh hy h0 hs hs0 e1 hY1 hY2 hor hw2 hUY hD2 r1 r2

end Go.Proofs.YtnhmebhmlbofgaaDoor

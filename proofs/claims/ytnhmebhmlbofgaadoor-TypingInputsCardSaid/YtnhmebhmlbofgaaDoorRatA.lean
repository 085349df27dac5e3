/- Contracts of size, gcd and times of the program and of the reference. No conditions but those printed. -/
import Derived.Test.YtnhmebhmlbofgaaDoorProg
import Derived.WalkKit
import Derived.WalkSpells
import Derived.WalkLawsBesides
import Derived.Lib.Hide
import Derived.Test.YtnhmebhmlbofgaaDoorRatPlain
import Derived.Test.YtnhmebhmlbofgaaDoorRegion
import Derived.Test.YtnhmebhmlbofgaaDoorShelf
import Derived.Shelf.Spec.BitsCarry
namespace Go.Proofs.YtnhmebhmlbofgaaDoor
open Go.RowKit Frac

theorem ret_u {k : IntKind} {a b : Int} (h : a = b) : Ending.returned (.int k a) = .returned (.int k b) := by rw [h]

set_option maxHeartbeats 400000 in
theorem rsize_any (x : Int) (w : World) (h0 : -9223372036854775808 ≤ x) (h1 : x ≤ 9223372036854775807) :
    Calls Tryd.prog 51 #[.int .i64 x] w fun e w' => e = .returned (.int .u64 (x.natAbs : Int)) ∧ w = w' := by
  by_cases hx : x < 0
  · go_enter Tryd.func51, Tryd.ntmps51
    go_wp2
    go_ret
    refine ⟨ret_u ?_, rfl⟩
    first | omega | (simp only [IntKind.wrap_u64]; omega)
  · go_enter Tryd.func51, Tryd.ntmps51
    go_wp2
    go_ret
    refine ⟨ret_u ?_, rfl⟩
    first | omega | (simp only [IntKind.wrap_u64]; omega)

attribute [local go_sem] calmUpon

theorem gcd_step (x y a b : Nat) (h : Nat.gcd x y = Nat.gcd a b) : Nat.gcd y (x % y) = Nat.gcd a b := by
  rw [← h, Nat.gcd_comm x y, Nat.gcd_rec y x, Nat.gcd_comm]


theorem nmod_cast (x y : Nat) : Int.tmod (x : Int) (y : Int) = ((x % y : Nat) : Int) := by
  rw [Int.tmod_eq_emod_of_nonneg (by omega)]; rfl

set_option maxHeartbeats 400000 in
theorem rgcd_any (a b : Nat) (w : World) (ha : a < 18446744073709551616) (hb : b < 18446744073709551616) :
    Calls Tryd.prog 61 #[.int .u64 a, .int .u64 b] w fun e w' => e = .returned (.int .u64 (Nat.gcd a b : Nat)) ∧ Rel w w' := by
  go_enter Tryd.func61, Tryd.ntmps61
  go_wp2
  go_loopw [0, 1] (fun s t wr => ∃ x y : Nat, s = .int .u64 x ∧ t = .int .u64 y ∧ x < 18446744073709551616 ∧ y < 18446744073709551616 ∧ Hid (Nat.gcd x y = Nat.gcd a b) ∧ Rel w wr) (fun _ t _ => (intOf t).toNat)
  case atStart => exact ⟨a, b, rfl, rfl, ha, hb, rfl, Rel.refl _⟩
  case round =>
    obtain ⟨x, y, rfl, rfl, hx, hy, hg, hbw⟩ := hrel
    by_cases hz : y = 0
    · subst hz
      go_wp2
      go_ret
      exact ⟨ret_u (by have := hg.out; rw [Nat.gcd_zero_right] at this; rw [this]), hbw⟩
    · have hz' : ((y : Int) != 0) = true := by simpa using hz
      have hz2 : (0 : Int) < y := by omega
      have hmod := nmod_cast x y
      have hlt : x % y < y := Nat.mod_lt _ (by omega)
      go_wp2
      refine wp_region_calm (fun _ _ => True) (fun _ => false) [0, 1, 2, 3, 4, 5] 0 (by kernel_rfl) (by kernel_rfl) (fun _ _ _ _ _ => trivial) trivial (fun w0 h0 => ?_)
      iterate 6
        first
          | (refine wpCalm_no rfl rfl (fun K hK => hK _ ?_); clear hK K)
          | (refine wpCalm_go rfl rfl (fun K hK => ?_)
             apply Exists.intro
             refine ⟨fun M w hM hS => ?_, hK _ ?_⟩
             · unfold calmAt
               go_simp
               exact ⟨rfl, Rel.refl _⟩
             clear hK K)
      refine wpCalm_nil (wpAnyR_end (by kernel_rfl) (fun w1 h1 => ?_))
      simp only [Act.put, List.setIfInBounds_toArray, List.set_cons_zero, List.set_cons_succ]
      go_wp2
      go_roundw
      case rel => exact ⟨y, x % y, rfl, rfl, hy, by omega, gcd_step x y a b hg.out, hbw.trans (h0.trans h1)⟩
      case measure => simp [intOf]; omega

/-- The two halves of a number below 2 to the 128th. -/
def hi64 (v : Nat) : Nat := v / 18446744073709551616
def lo64 (v : Nat) : Nat := v % 18446744073709551616
theorem lo64_lt (v : Nat) : lo64 v < 18446744073709551616 := by unfold lo64; omega
theorem hi64_lt {v : Nat} (h : v < 340282366920938463463374607431768211456) : hi64 v < 18446744073709551616 := by unfold hi64; omega
theorem halves (v : Nat) : hi64 v * 18446744073709551616 + lo64 v = v := by unfold hi64 lo64; omega

end Go.Proofs.YtnhmebhmlbofgaaDoor

/- Contracts of size, gcd and times of the program and of the reference. No conditions but those printed. -/
import Derived.Test.YtdhfecaoadnogaaProg
import Derived.WalkKit
import Derived.WalkSpells
import Derived.WalkLawsBesides
import Derived.Lib.Hide
import Derived.Test.YtdhfecaoadnogaaRatPlain
import Derived.Test.YtdhfecaoadnogaaRegion
import Derived.Test.YtdhfecaoadnogaaShelf
import Derived.Shelf.Spec.BitsCarry
namespace Go.Proofs.Ytdhfecaoadnogaa
open Go.RowKit Frac

theorem ret_u {k : IntKind} {a b : Int} (h : a = b) : Ending.returned (.int k a) = .returned (.int k b) := by rw [h]

set_option maxHeartbeats 400000 in
theorem size_any (x : Int) (w : World) (h0 : -9223372036854775808 ≤ x) (h1 : x ≤ 9223372036854775807) :
    Calls Try.prog 37 #[.int .i64 x] w fun e w' => e = .returned (.int .u64 (x.natAbs : Int)) ∧ w = w' := by
  by_cases hx : x < 0
  · go_enter Try.func37, Try.ntmps37
    go_wp2
    go_ret
    refine ⟨ret_u ?_, rfl⟩
    simp only [IntKind.wrap_u64]; omega
  · go_enter Try.func37, Try.ntmps37
    go_wp2
    go_ret
    refine ⟨ret_u ?_, rfl⟩
    first | omega | (simp only [IntKind.wrap_u64]; omega)

set_option maxHeartbeats 400000 in
theorem rsize_any (x : Int) (w : World) (h0 : -9223372036854775808 ≤ x) (h1 : x ≤ 9223372036854775807) :
    Calls Try.prog 41 #[.int .i64 x] w fun e w' => e = .returned (.int .u64 (x.natAbs : Int)) ∧ w = w' := by
  by_cases hx : x < 0
  · go_enter Try.func41, Try.ntmps41
    go_wp2
    go_ret
    refine ⟨ret_u ?_, rfl⟩
    first | omega | (simp only [IntKind.wrap_u64]; omega)
  · go_enter Try.func41, Try.ntmps41
    go_wp2
    go_ret
    refine ⟨ret_u ?_, rfl⟩
    first | omega | (simp only [IntKind.wrap_u64]; omega)

attribute [local go_sem] calmUpon

theorem gcd_step (x y a b : Nat) (h : Nat.gcd x y = Nat.gcd a b) : Nat.gcd y (x % y) = Nat.gcd a b := by
  rw [← h, Nat.gcd_comm x y, Nat.gcd_rec y x, Nat.gcd_comm]


theorem nmod_cast (x y : Nat) : Int.tmod (x : Int) (y : Int) = ((x % y : Nat) : Int) := by
  rw [Int.tmod_eq_emod_of_nonneg (by omega)]; rfl

set_option maxHeartbeats 400000 in
theorem gcd_any (a b : Nat) (w : World) (ha : a < 18446744073709551616) (hb : b < 18446744073709551616) :
    Calls Try.prog 38 #[.int .u64 a, .int .u64 b] w fun e w' => e = .returned (.int .u64 (Nat.gcd a b : Nat)) ∧ Rel w w' := by
  go_enter Try.func38, Try.ntmps38
  go_wp2
  go_loopw [0, 1] (fun s t wr => ∃ x y : Nat, s = .int .u64 x ∧ t = .int .u64 y ∧ x < 18446744073709551616 ∧ y < 18446744073709551616 ∧ Hid (Nat.gcd x y = Nat.gcd a b) ∧ Rel w wr) (fun _ t _ => (intOf t).toNat)
  case atStart => exact ⟨a, b, rfl, rfl, ha, hb, rfl, Rel.refl _⟩
  case round =>
    obtain ⟨x, y, rfl, rfl, hx, hy, hg, hbw⟩ := hrel
    by_cases hz : y = 0
    · subst hz
      go_wp2
      go_ret
      exact ⟨ret_u (by have := hg.out; rw [Nat.gcd_zero_right] at this; rw [this]), hbw⟩
    · have hz' : ((y : Int) != 0) = true := by simpa using hz
      have hz2 : (0 : Int) < y := by omega
      have hmod := nmod_cast x y
      have hlt : x % y < y := Nat.mod_lt _ (by omega)
      go_wp2
      refine wp_region_calm (fun _ _ => True) (fun _ => false) [0, 1, 2, 3, 4, 5] 0 (by kernel_rfl) (by kernel_rfl) (fun _ _ _ _ _ => trivial) trivial (fun w0 h0 => ?_)
      iterate 6
        first
          | (refine wpCalm_no rfl rfl (fun K hK => hK _ ?_); clear hK K)
          | (refine wpCalm_go rfl rfl (fun K hK => ?_)
             apply Exists.intro
             refine ⟨fun M w hM hS => ?_, hK _ ?_⟩
             · unfold calmAt
               go_simp
               exact ⟨rfl, Rel.refl _⟩
             clear hK K)
      refine wpCalm_nil (wpAnyR_end (by kernel_rfl) (fun w1 h1 => ?_))
      simp only [Act.put, List.setIfInBounds_toArray, List.set_cons_zero, List.set_cons_succ]
      go_wp2
      go_roundw
      case rel => exact ⟨y, x % y, rfl, rfl, hy, by omega, gcd_step x y a b hg.out, hbw.trans (h0.trans h1)⟩
      case measure => simp [intOf]; omega

set_option maxHeartbeats 400000 in
theorem rgcd_any (a b : Nat) (w : World) (ha : a < 18446744073709551616) (hb : b < 18446744073709551616) :
    Calls Try.prog 42 #[.int .u64 a, .int .u64 b] w fun e w' => e = .returned (.int .u64 (Nat.gcd a b : Nat)) ∧ Rel w w' := by
  go_enter Try.func42, Try.ntmps42
  go_wp2
  go_loopw [0, 1] (fun s t wr => ∃ x y : Nat, s = .int .u64 x ∧ t = .int .u64 y ∧ x < 18446744073709551616 ∧ y < 18446744073709551616 ∧ Hid (Nat.gcd x y = Nat.gcd a b) ∧ Rel w wr) (fun _ t _ => (intOf t).toNat)
  case atStart => exact ⟨a, b, rfl, rfl, ha, hb, rfl, Rel.refl _⟩
  case round =>
    obtain ⟨x, y, rfl, rfl, hx, hy, hg, hbw⟩ := hrel
    by_cases hz : y = 0
    · subst hz
      go_wp2
      go_ret
      exact ⟨ret_u (by have := hg.out; rw [Nat.gcd_zero_right] at this; rw [this]), hbw⟩
    · have hz' : ((y : Int) != 0) = true := by simpa using hz
      have hz2 : (0 : Int) < y := by omega
      have hmod := nmod_cast x y
      have hlt : x % y < y := Nat.mod_lt _ (by omega)
      go_wp2
      refine wp_region_calm (fun _ _ => True) (fun _ => false) [0, 1, 2, 3, 4, 5] 0 (by kernel_rfl) (by kernel_rfl) (fun _ _ _ _ _ => trivial) trivial (fun w0 h0 => ?_)
      iterate 6
        first
          | (refine wpCalm_no rfl rfl (fun K hK => hK _ ?_); clear hK K)
          | (refine wpCalm_go rfl rfl (fun K hK => ?_)
             apply Exists.intro
             refine ⟨fun M w hM hS => ?_, hK _ ?_⟩
             · unfold calmAt
               go_simp
               exact ⟨rfl, Rel.refl _⟩
             clear hK K)
      refine wpCalm_nil (wpAnyR_end (by kernel_rfl) (fun w1 h1 => ?_))
      simp only [Act.put, List.setIfInBounds_toArray, List.set_cons_zero, List.set_cons_succ]
      go_wp2
      go_roundw
      case rel => exact ⟨y, x % y, rfl, rfl, hy, by omega, gcd_step x y a b hg.out, hbw.trans (h0.trans h1)⟩
      case measure => simp [intOf]; omega

/-- The two halves of a number below 2 to the 128th. -/
def hi64 (v : Nat) : Nat := v / 18446744073709551616
def lo64 (v : Nat) : Nat := v % 18446744073709551616
theorem lo64_lt (v : Nat) : lo64 v < 18446744073709551616 := by unfold lo64; omega
theorem hi64_lt {v : Nat} (h : v < 340282366920938463463374607431768211456) : hi64 v < 18446744073709551616 := by unfold hi64; omega
theorem halves (v : Nat) : hi64 v * 18446744073709551616 + lo64 v = v := by unfold hi64 lo64; omega

theorem mul64_any (x y : Nat) (w : World) (hx : x < 18446744073709551616) (hy : y < 18446744073709551616) :
    Calls Try.prog 58 #[.int .u64 x, .int .u64 y] w fun e w' => e = .returned (.tuple #[.int .u64 (hi64 (x * y)), .int .u64 (lo64 (x * y))]) ∧ w = w' :=
  (Try.bits_Mul64 x y hx hy w).mono fun _ _ ⟨he, hw⟩ => ⟨he, hw.symm⟩

set_option maxHeartbeats 400000 in
theorem times_any (x y : Nat) (w : World) (hx : x < 18446744073709551616) (hy : y < 18446744073709551616) :
    Calls Try.prog 46 #[.int .u64 x, .int .u64 y] w fun e w' => e = .returned (.agg #[.int .u64 (hi64 (x * y)), .int .u64 (lo64 (x * y))]) ∧ Rel w w' := by
  go_enter Try.func46, Try.ntmps46
  go_wp2_with (go_at_call 58; refine (mul64_any _ _ _ hx hy).mono ?_; rintro e w1 ⟨rfl, rfl⟩)
  refine bodyPost_ret ?_ rfl ⟨rfl, ?_⟩
  · simp [results, Try.results46, go_sem]
  exact (Rel.refl _).alloc _

set_option maxHeartbeats 400000 in
theorem rtimes_any (x y : Nat) (w : World) (hx : x < 18446744073709551616) (hy : y < 18446744073709551616) :
    Calls Try.prog 53 #[.int .u64 x, .int .u64 y] w fun e w' => e = .returned (.agg #[.int .u64 (hi64 (x * y)), .int .u64 (lo64 (x * y))]) ∧ Rel w w' := by
  go_enter Try.func53, Try.ntmps53
  go_wp2_with (go_at_call 58; refine (mul64_any _ _ _ hx hy).mono ?_; rintro e w1 ⟨rfl, rfl⟩)
  refine bodyPost_ret ?_ rfl ⟨rfl, ?_⟩
  · simp [results, Try.results53, go_sem]
  exact (Rel.refl _).alloc _

theorem add64_eq (x y c : Nat) (hc : c ≤ 1) (w : World) :
    (callFunc 59 #[.int .u64 x, .int .u64 y, .int .u64 c]).run Try.prog w = .ok (.value (.tuple #[.int .u64 (lo64 (x + y + c)), .int .u64 (hi64 (x + y + c))])) w := by
  rw [run_callFunc_extern Try.func59 (by kernel_rfl) (by kernel_rfl) (by kernel_rfl) (e := add64Entry) (by kernel_rfl), run_add64 x y c (by omega) (by omega) (by omega) (by omega)]
  rfl
theorem sub64_eq (x y b : Nat) (hb : b ≤ 1) (w : World) :
    (callFunc 60 #[.int .u64 x, .int .u64 y, .int .u64 b]).run Try.prog w = .ok (.value (.tuple #[.int .u64 (((x + 18446744073709551616 - y - b) % 18446744073709551616 : Nat) : Int), .int .u64 ((if x < y + b then 1 else 0 : Nat) : Int)])) w := by
  rw [run_callFunc_extern Try.func60 (by kernel_rfl) (by kernel_rfl) (by kernel_rfl) (e := sub64Entry) (by kernel_rfl), run_sub64 x y b hb]
  rfl

theorem add64_eq0 (x y : Nat) (w : World) :
    (callFunc 59 #[.int .u64 x, .int .u64 y, .int .u64 0]).run Try.prog w = .ok (.value (.tuple #[.int .u64 (lo64 (x + y)), .int .u64 (hi64 (x + y))])) w :=
  add64_eq x y 0 (by omega) w
theorem sub64_eq0 (x y : Nat) (w : World) :
    (callFunc 60 #[.int .u64 x, .int .u64 y, .int .u64 0]).run Try.prog w = .ok (.value (.tuple #[.int .u64 (((x + 18446744073709551616 - y - 0) % 18446744073709551616 : Nat) : Int), .int .u64 ((if x < y + 0 then 1 else 0 : Nat) : Int)])) w :=
  sub64_eq x y 0 (by omega) w

/-- Difference and borrow. -/
def df64 (x y b : Nat) : Nat := (x + 18446744073709551616 - y - b) % 18446744073709551616
def bw64 (x y b : Nat) : Nat := if x < y + b then 1 else 0
theorem bw64_le (x y b : Nat) : bw64 x y b ≤ 1 := by unfold bw64; split <;> omega
theorem df64_lt (x y b : Nat) : df64 x y b < 18446744073709551616 := by unfold df64; omega
theorem sub64_eq' (x y b : Nat) (hb : b ≤ 1) (w : World) :
    (callFunc 60 #[.int .u64 x, .int .u64 y, .int .u64 b]).run Try.prog w = .ok (.value (.tuple #[.int .u64 (df64 x y b), .int .u64 (bw64 x y b)])) w := sub64_eq x y b hb w
theorem sub64_eq0' (x y : Nat) (w : World) :
    (callFunc 60 #[.int .u64 x, .int .u64 y, .int .u64 0]).run Try.prog w = .ok (.value (.tuple #[.int .u64 (df64 x y 0), .int .u64 (bw64 x y 0)])) w := sub64_eq0 x y w

theorem hi_le1 (l l' : Nat) (a2 : l < 18446744073709551616) (a4 : l' < 18446744073709551616) : hi64 (l + l') ≤ 1 := by unfold hi64; omega

set_option maxHeartbeats 400000 in
theorem plus_raw (h l h' l' : Nat) (w : World) (a2 : l < 18446744073709551616) (a4 : l' < 18446744073709551616) :
    Calls Try.prog 49 #[.agg #[.int .u64 h, .int .u64 l], .agg #[.int .u64 h', .int .u64 l']] w fun e w' => e = .returned (.agg #[.int .u64 (lo64 (h + h' + hi64 (l + l'))), .int .u64 (lo64 (l + l'))]) ∧ Rel w w' := by
  have e1 := fun w => add64_eq0 l l' w
  have e2 := fun w => add64_eq h h' (hi64 (l + l')) (hi_le1 l l' a2 a4) w
  go_enter Try.func49, Try.ntmps49
  go_wp2
  refine bodyPost_ret ?_ rfl ⟨rfl, ?_⟩
  · simp [results, Try.results49, go_sem]
  · exact (((Rel.refl _).alloc _).alloc _).alloc _

set_option maxHeartbeats 400000 in
theorem minus_raw (h l h' l' : Nat) (w : World) :
    Calls Try.prog 50 #[.agg #[.int .u64 h, .int .u64 l], .agg #[.int .u64 h', .int .u64 l']] w fun e w' => e = .returned (.agg #[.int .u64 (df64 h h' (bw64 l l' 0)), .int .u64 (df64 l l' 0)]) ∧ Rel w w' := by
  have e1 := fun w => sub64_eq0' l l' w
  have e2 := fun w => sub64_eq' h h' (bw64 l l' 0) (bw64_le _ _ _) w
  go_enter Try.func50, Try.ntmps50
  go_wp2
  refine bodyPost_ret ?_ rfl ⟨rfl, ?_⟩
  · simp [results, Try.results50, go_sem]
  · exact (((Rel.refl _).alloc _).alloc _).alloc _

set_option maxHeartbeats 400000 in
theorem rplus_raw (h l h' l' : Nat) (w : World) :
    Calls Try.prog 54 #[.agg #[.int .u64 h, .int .u64 l], .agg #[.int .u64 h', .int .u64 l']] w fun e w' => e = .returned (.agg #[.int .u64 (IntKind.u64.wrap (IntKind.u64.wrap ((h : Int) + h') + (hi64 (l + l') : Nat))), .int .u64 (lo64 (l + l'))]) ∧ Rel w w' := by
  have e1 := fun w => add64_eq0 l l' w
  go_enter Try.func54, Try.ntmps54
  go_wp2
  refine bodyPost_ret ?_ rfl ⟨rfl, ?_⟩
  · simp [results, Try.results54, go_sem]
  · exact (((Rel.refl _).alloc _).alloc _).alloc _

set_option maxHeartbeats 400000 in
theorem rminus_raw (h l h' l' : Nat) (w : World) :
    Calls Try.prog 56 #[.agg #[.int .u64 h, .int .u64 l], .agg #[.int .u64 h', .int .u64 l']] w fun e w' => e = .returned (.agg #[.int .u64 (IntKind.u64.wrap (IntKind.u64.wrap ((h : Int) - h') - (bw64 l l' 0 : Nat))), .int .u64 (df64 l l' 0)]) ∧ Rel w w' := by
  have e1 := fun w => sub64_eq0' l l' w
  go_enter Try.func56, Try.ntmps56
  go_wp2
  refine bodyPost_ret ?_ rfl ⟨rfl, ?_⟩
  · simp [results, Try.results56, go_sem]
  · exact (((Rel.refl _).alloc _).alloc _).alloc _

set_option maxHeartbeats 400000 in
theorem less_raw (h l h' l' : Nat) (w : World) :
    Calls Try.prog 47 #[.agg #[.int .u64 h, .int .u64 l], .agg #[.int .u64 h', .int .u64 l']] w fun e w' => e = .returned (.bool (decide (h < h' ∨ h = h' ∧ l < l'))) ∧ Rel w w' := by
  by_cases c1 : h < h'
  · go_enter Try.func47, Try.ntmps47
    go_wp2
    go_ret
    exact ⟨by simp [c1], ((Rel.refl _).alloc _).alloc _⟩
  · by_cases c2 : h = h'
    · subst c2
      go_enter Try.func47, Try.ntmps47
      go_wp2
      go_ret
      exact ⟨by simp, ((Rel.refl _).alloc _).alloc _⟩
    · have c3 : ((h : Int) == h') = false := by simp; omega
      go_enter Try.func47, Try.ntmps47
      go_wp2
      go_ret
      exact ⟨by simp [c1, c2], ((Rel.refl _).alloc _).alloc _⟩

set_option maxHeartbeats 400000 in
theorem rless_raw (h l h' l' : Nat) (w : World) :
    Calls Try.prog 55 #[.agg #[.int .u64 h, .int .u64 l], .agg #[.int .u64 h', .int .u64 l']] w fun e w' => e = .returned (.bool (decide (h < h' ∨ h = h' ∧ l < l'))) ∧ Rel w w' := by
  by_cases c1 : h < h'
  · go_enter Try.func55, Try.ntmps55
    go_wp2
    go_ret
    exact ⟨by simp [c1], ((Rel.refl _).alloc _).alloc _⟩
  · by_cases c2 : h = h'
    · subst c2
      go_enter Try.func55, Try.ntmps55
      go_wp2
      go_ret
      exact ⟨by simp, ((Rel.refl _).alloc _).alloc _⟩
    · have c3 : ((h : Int) == h') = false := by simp; omega
      go_enter Try.func55, Try.ntmps55
      go_wp2
      go_ret
      exact ⟨by simp [c1, c2], ((Rel.refl _).alloc _).alloc _⟩

/-- Is the one number less than the other? -/
def ltB (x y : Nat) : Bool := decide (x < y)
theorem halves_lt (x y : Nat) : decide (hi64 x < hi64 y ∨ hi64 x = hi64 y ∧ lo64 x < lo64 y) = ltB x y := by
  unfold ltB hi64 lo64
  rw [Bool.eq_iff_iff]; simp; omega
theorem less_any (x y : Nat) (w : World) :
    Calls Try.prog 47 #[.agg #[.int .u64 (hi64 x), .int .u64 (lo64 x)], .agg #[.int .u64 (hi64 y), .int .u64 (lo64 y)]] w fun e w' => e = .returned (.bool (ltB x y)) ∧ Rel w w' := by
  rw [← halves_lt]; exact less_raw _ _ _ _ _
theorem rless_any (x y : Nat) (w : World) :
    Calls Try.prog 55 #[.agg #[.int .u64 (hi64 x), .int .u64 (lo64 x)], .agg #[.int .u64 (hi64 y), .int .u64 (lo64 y)]] w fun e w' => e = .returned (.bool (ltB x y)) ∧ Rel w w' := by
  rw [← halves_lt]; exact rless_raw _ _ _ _ _

theorem plus_any (x y : Nat) (w : World) (h : x + y < 340282366920938463463374607431768211456) :
    Calls Try.prog 49 #[.agg #[.int .u64 (hi64 x), .int .u64 (lo64 x)], .agg #[.int .u64 (hi64 y), .int .u64 (lo64 y)]] w fun e w' => e = .returned (.agg #[.int .u64 (hi64 (x + y)), .int .u64 (lo64 (x + y))]) ∧ Rel w w' := by
  have := plus_raw (hi64 x) (lo64 x) (hi64 y) (lo64 y) w (lo64_lt _) (lo64_lt _)
  rwa [show lo64 (hi64 x + hi64 y + hi64 (lo64 x + lo64 y)) = hi64 (x + y) by unfold hi64 lo64; omega, show lo64 (lo64 x + lo64 y) = lo64 (x + y) by unfold lo64; omega] at this
theorem rplus_any (x y : Nat) (w : World) (h : x + y < 340282366920938463463374607431768211456) :
    Calls Try.prog 54 #[.agg #[.int .u64 (hi64 x), .int .u64 (lo64 x)], .agg #[.int .u64 (hi64 y), .int .u64 (lo64 y)]] w fun e w' => e = .returned (.agg #[.int .u64 (hi64 (x + y)), .int .u64 (lo64 (x + y))]) ∧ Rel w w' := by
  have := rplus_raw (hi64 x) (lo64 x) (hi64 y) (lo64 y) w
  rwa [show IntKind.u64.wrap (IntKind.u64.wrap ((hi64 x : Int) + hi64 y) + (hi64 (lo64 x + lo64 y) : Nat)) = ((hi64 (x + y) : Nat) : Int) by simp only [IntKind.wrap_u64]; unfold hi64 lo64; omega, show lo64 (lo64 x + lo64 y) = lo64 (x + y) by unfold lo64; omega] at this
theorem minus_any (x y : Nat) (w : World) (h : x < 340282366920938463463374607431768211456) (hy : y ≤ x) :
    Calls Try.prog 50 #[.agg #[.int .u64 (hi64 x), .int .u64 (lo64 x)], .agg #[.int .u64 (hi64 y), .int .u64 (lo64 y)]] w fun e w' => e = .returned (.agg #[.int .u64 (hi64 (x - y)), .int .u64 (lo64 (x - y))]) ∧ Rel w w' := by
  have := minus_raw (hi64 x) (lo64 x) (hi64 y) (lo64 y) w
  rwa [show df64 (hi64 x) (hi64 y) (bw64 (lo64 x) (lo64 y) 0) = hi64 (x - y) by unfold df64 bw64 hi64 lo64; split <;> omega, show df64 (lo64 x) (lo64 y) 0 = lo64 (x - y) by unfold df64 lo64; omega] at this
theorem rminus_any (x y : Nat) (w : World) (h : x < 340282366920938463463374607431768211456) (hy : y ≤ x) :
    Calls Try.prog 56 #[.agg #[.int .u64 (hi64 x), .int .u64 (lo64 x)], .agg #[.int .u64 (hi64 y), .int .u64 (lo64 y)]] w fun e w' => e = .returned (.agg #[.int .u64 (hi64 (x - y)), .int .u64 (lo64 (x - y))]) ∧ Rel w w' := by
  have := rminus_raw (hi64 x) (lo64 x) (hi64 y) (lo64 y) w
  rwa [show IntKind.u64.wrap (IntKind.u64.wrap ((hi64 x : Int) - hi64 y) - (bw64 (lo64 x) (lo64 y) 0 : Nat)) = ((hi64 (x - y) : Nat) : Int) by simp only [IntKind.wrap_u64]; unfold bw64 hi64 lo64; split <;> omega, show df64 (lo64 x) (lo64 y) 0 = lo64 (x - y) by unfold df64 lo64; omega] at this

end Go.Proofs.Ytdhfecaoadnogaa

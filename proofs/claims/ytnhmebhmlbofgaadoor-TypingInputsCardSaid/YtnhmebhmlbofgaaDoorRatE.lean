/- Contract of the reference's over; then lowest, quotient, product. No conditions but those printed. -/
import Derived.Test.YtnhmebhmlbofgaaDoorRatD
namespace Go.Proofs.YtnhmebhmlbofgaaDoor
open Go.RowKit Frac

attribute [local go_sem] calmUpon
set_option linter.unusedSimpArgs false
set_option linter.unusedVariables false

set_option maxHeartbeats 1600000 in
theorem rover_raw (h l d : Nat) (w : World) (hl : l < 18446744073709551616) (hd : 0 < d) (hd2 : d < 18446744073709551616) (hh : h < 18446744073709551616) :
    Calls Tryd.prog 60 #[.agg #[.int .u64 h, .int .u64 l], .int .u64 d] w fun e w' => e = .returned (.tuple #[.agg #[.int .u64 (h / d : Nat), .int .u64 ((h % d * 18446744073709551616 + l) / d : Nat)], .int .u64 ((h % d * 18446744073709551616 + l) % d : Nat)]) ∧ Rel w w' := by
  have hm := nmod_cast h d
  have hdv := tdiv_nat h d
  have hlt := Nat.mod_lt h hd
  have hy1 : ((d : Int) == 0) = false := by simp; omega
  have hne : ¬ d = 0 := by omega
  have hq : h / d < 18446744073709551616 := Nat.lt_of_le_of_lt (Nat.div_le_self _ _) hh
  have hqw := u64_nat hq
  generalize h % d = r at *
  generalize h / d = q at *
  have hD := fun w => div64_any r l d w hlt hl hd2
  generalize (r * 18446744073709551616 + l) / d = N0 at *
  generalize (r * 18446744073709551616 + l) % d = N1 at *
  go_enter Tryd.func60, Tryd.ntmps60
  go_wp2
  refine wp_region_calm (fun _ w' => w'.cell? { block := w.heap.size, off := 0 } = some (.int .u64 h) ∧ w'.cell? { block := w.heap.size, off := 1 } = some (.int .u64 l)) (fun _ => false) [0, 1, 2, 3, 4, 5, 6, 7, 8, 9, 10, 11, 12] 0 (by kernel_rfl) (by kernel_rfl) ?hst ?hS0 (fun w0 h0 => ?_)
  case hst => exact fun _ _ _ h r => ⟨r.cell h.1, r.cell h.2⟩
  case hS0 => exact ⟨by go_simp, by go_simp⟩
  iterate 7
    refine wpCalm_go rfl (by kernel_rfl) (fun K hK => ?_)
    apply Exists.intro
    refine ⟨fun M w hM hS => ?_, hK _ ?_⟩
    · have hc := hS.1
      have hc' := hS.2
      unfold calmAt
      go_simp
      exact ⟨rfl, Rel.refl _⟩
    clear hK K
  refine wpCalm_go rfl rfl (fun K hK => ?_)
  apply Exists.intro
  refine ⟨fun M w hM hS => ?_, hK _ ?_⟩
  · unfold calmAt
    go_simp
    refine (hD _).mono ?_
    rintro e w1 ⟨rfl, hb⟩
    exact ⟨rfl, hb⟩
  clear hK K
  iterate 5
    refine wpCalm_go rfl (by kernel_rfl) (fun K hK => ?_)
    apply Exists.intro
    refine ⟨fun M w hM hS => ?_, hK _ ?_⟩
    · unfold calmAt
      go_simp
      exact ⟨rfl, Rel.refl _⟩
    clear hK K
  refine wpCalm_nil (wpAnyR_end (by kernel_rfl) (fun w1 h1 => ?_))
  simp only [Act.put, List.setIfInBounds_toArray, List.set_cons_zero, List.set_cons_succ]
  obtain ⟨bc, bf⟩ := rcell (h0.trans h1)
  have hr := Lib.hid (h0.trans h1)
  have hw3 := (h0.trans h1).lt (n := w.heap.size + 1) (by simp)
  clear h0 h1
  go_wp2
  refine bodyPost_ret ?_ rfl ⟨rfl, ?_⟩
  · simp [results, Tryd.results60, go_sem, bc, bf, hw3]
  · exact (((((Rel.refl _).alloc _).alloc _).trans hr.out).setCell (by simp) _).setCell (by simp) _

theorem rover_any (x d : Nat) (w : World) (hx : x < 340282366920938463463374607431768211456) (hd : 0 < d) (hd2 : d < 18446744073709551616) :
    Calls Tryd.prog 60 #[.agg #[.int .u64 (hi64 x), .int .u64 (lo64 x)], .int .u64 d] w fun e w' => e = .returned (.tuple #[.agg #[.int .u64 (hi64 (x / d)), .int .u64 (lo64 (x / d))], .int .u64 (x % d : Nat)]) ∧ Rel w w' := by
  obtain ⟨e1, e2, e3⟩ := over_num x hd
  rw [e1, e2, e3]
  exact rover_raw _ _ _ _ (lo64_lt _) hd hd2 (hi64_lt hx)

/-- The ways through the test of a result's range. -/
theorem w_ways (s : Bool) (n d : Nat) :
    (((hi64 n : Int) != 0) = true ∧ wN s n d = 0 ∧ wD n d = 0 ∧ wE n d = 2) ∨
    (((hi64 n : Int) != 0) = false ∧ decide ((1000000000000000 : Int) < lo64 n) = true ∧ wN s n d = 0 ∧ wD n d = 0 ∧ wE n d = 2) ∨
    (((hi64 n : Int) != 0) = false ∧ decide ((1000000000000000 : Int) < lo64 n) = false ∧ ((hi64 d : Int) != 0) = true ∧ wN s n d = 0 ∧ wD n d = 0 ∧ wE n d = 2) ∨
    (((hi64 n : Int) != 0) = false ∧ decide ((1000000000000000 : Int) < lo64 n) = false ∧ ((hi64 d : Int) != 0) = false ∧ decide ((1000000000 : Int) < lo64 d) = true ∧ wN s n d = 0 ∧ wD n d = 0 ∧ wE n d = 2) ∨
    (((hi64 n : Int) != 0) = false ∧ decide ((1000000000000000 : Int) < lo64 n) = false ∧ ((hi64 d : Int) != 0) = false ∧ decide ((1000000000 : Int) < lo64 d) = false ∧ lo64 n ≤ 1000000000000000 ∧ lo64 d ≤ 1000000000 ∧ wN true n d = -(lo64 n : Int) ∧ wN false n d = lo64 n ∧ wD n d = lo64 d ∧ wE n d = 0) := by
  by_cases c1 : hi64 n = 0
  · have k1 : ((hi64 n : Int) != 0) = false := by simp; omega
    by_cases c2 : lo64 n ≤ 1000000000000000
    · have k2 : decide ((1000000000000000 : Int) < lo64 n) = false := by simp; omega
      by_cases c3 : hi64 d = 0
      · have k3 : ((hi64 d : Int) != 0) = false := by simp; omega
        by_cases c4 : lo64 d ≤ 1000000000
        · have k4 : decide ((1000000000 : Int) < lo64 d) = false := by simp; omega
          have ho : wOk n d = true := by unfold wOk; unfold hi64 at *; (try unfold lo64 at *); simp; omega
          have hn : lo64 n = n := by unfold hi64 at c1; unfold lo64; omega
          have hd : lo64 d = d := by unfold hi64 at c3; unfold lo64; omega
          obtain ⟨r0, r1, r2, r3⟩ := w_yes ho
          rw [r0, r1, r2, r3, k1, k2, k3, k4, hn, hd]
          rw [hn] at c2; rw [hd] at c4
          exact .inr (.inr (.inr (.inr ⟨rfl, rfl, rfl, rfl, c2, c4, rfl, rfl, rfl, rfl⟩)))
        · have ho : wOk n d = false := by unfold wOk; unfold hi64 at *; (try unfold lo64 at *); simp; omega
          have k4 : decide ((1000000000 : Int) < lo64 d) = true := by simp; omega
          exact .inr (.inr (.inr (.inl ⟨k1, k2, k3, k4, w_no ho⟩)))
      · have ho : wOk n d = false := by unfold wOk; unfold hi64 at *; (try unfold lo64 at *); simp; omega
        have k3 : ((hi64 d : Int) != 0) = true := by simp; omega
        exact .inr (.inr (.inl ⟨k1, k2, k3, w_no ho⟩))
    · have ho : wOk n d = false := by unfold wOk; unfold hi64 at *; (try unfold lo64 at *); simp; omega
      have k2 : decide ((1000000000000000 : Int) < lo64 n) = true := by simp; omega
      exact .inr (.inl ⟨k1, k2, w_no ho⟩)
  · have ho : wOk n d = false := by unfold wOk; unfold hi64 at *; (try unfold lo64 at *); simp; omega
    have k1 : ((hi64 n : Int) != 0) = true := by simp; omega
    exact .inl ⟨k1, w_no ho⟩

def FrRes (a b c : Int) (w : World) (e : Ending) (w' : World) : Prop := e = .returned (.tuple #[.agg #[.int .i64 a, .int .i64 b], .int .i64 c]) ∧ Rel w w'

end Go.Proofs.YtnhmebhmlbofgaaDoor

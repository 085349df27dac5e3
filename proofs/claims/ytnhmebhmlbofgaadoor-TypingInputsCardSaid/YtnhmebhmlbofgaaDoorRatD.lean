/- Contracts of over, within, lowest, quotient, product on both sides. No conditions but those printed. -/
import Derived.Test.YtnhmebhmlbofgaaDoorRatC
namespace Go.Proofs.YtnhmebhmlbofgaaDoor
open Go.RowKit Frac

attribute [local go_sem] calmUpon

theorem rcell {W w1 : World} (h : Rel W w1) : (∀ b o, b < W.heap.size → w1.cell? ⟨b, o, none⟩ = W.cell? ⟨b, o, none⟩) ∧ (∀ b o, b < W.heap.size → w1.frozen? ⟨b, o, none⟩ = W.frozen? ⟨b, o, none⟩) :=
  ⟨fun b o k => Below.cell (p := ⟨b, o, none⟩) h k, fun b o k => Below.frozen (p := ⟨b, o, none⟩) h k⟩

/-- What a call of calm code leaves of an old block of 1, 2, 3 cells. -/
theorem keep1 {W w1 : World} (h : Rel W w1) {b : Nat} (hb : b < W.heap.size) : w1.cell? ⟨b, 0, none⟩ = W.cell? ⟨b, 0, none⟩ ∧ w1.frozen? ⟨b, 0, none⟩ = W.frozen? ⟨b, 0, none⟩ ∧ b < w1.heap.size ∧ b ≠ w1.heap.size ∧ w1.heap.size ≠ b :=
  ⟨(rcell h).1 b 0 hb, (rcell h).2 b 0 hb, h.lt hb, Nat.ne_of_lt (h.lt hb), Nat.ne_of_gt (h.lt hb)⟩
theorem keep2 {W w1 : World} (h : Rel W w1) {b : Nat} (hb : b < W.heap.size) : w1.cell? ⟨b, 0, none⟩ = W.cell? ⟨b, 0, none⟩ ∧ w1.cell? ⟨b, 1, none⟩ = W.cell? ⟨b, 1, none⟩ ∧ w1.frozen? ⟨b, 0, none⟩ = W.frozen? ⟨b, 0, none⟩ ∧ w1.frozen? ⟨b, 1, none⟩ = W.frozen? ⟨b, 1, none⟩ ∧ b < w1.heap.size ∧ b ≠ w1.heap.size ∧ w1.heap.size ≠ b :=
  ⟨(rcell h).1 b 0 hb, (rcell h).1 b 1 hb, (rcell h).2 b 0 hb, (rcell h).2 b 1 hb, h.lt hb, Nat.ne_of_lt (h.lt hb), Nat.ne_of_gt (h.lt hb)⟩
theorem keep3 {W w1 : World} (h : Rel W w1) {b : Nat} (hb : b < W.heap.size) : w1.cell? ⟨b, 0, none⟩ = W.cell? ⟨b, 0, none⟩ ∧ w1.cell? ⟨b, 1, none⟩ = W.cell? ⟨b, 1, none⟩ ∧ w1.cell? ⟨b, 2, none⟩ = W.cell? ⟨b, 2, none⟩ ∧ w1.frozen? ⟨b, 0, none⟩ = W.frozen? ⟨b, 0, none⟩ ∧ w1.frozen? ⟨b, 1, none⟩ = W.frozen? ⟨b, 1, none⟩ ∧ w1.frozen? ⟨b, 2, none⟩ = W.frozen? ⟨b, 2, none⟩ ∧ b < w1.heap.size ∧ b ≠ w1.heap.size ∧ w1.heap.size ≠ b :=
  ⟨(rcell h).1 b 0 hb, (rcell h).1 b 1 hb, (rcell h).1 b 2 hb, (rcell h).2 b 0 hb, (rcell h).2 b 1 hb, (rcell h).2 b 2 hb, h.lt hb, Nat.ne_of_lt (h.lt hb), Nat.ne_of_gt (h.lt hb)⟩

theorem over_num (x : Nat) {d : Nat} (hd : 0 < d) : hi64 (x / d) = hi64 x / d ∧ lo64 (x / d) = (hi64 x % d * 18446744073709551616 + lo64 x) / d ∧ x % d = (hi64 x % d * 18446744073709551616 + lo64 x) % d := by
  have e := Nat.div_add_mod (hi64 x) d
  have hr := Nat.mod_lt (hi64 x) hd
  have hl := lo64_lt x
  have hh := halves x
  generalize hi64 x / d = q at *
  generalize hi64 x % d = r at *
  have hx : x = d * (q * 18446744073709551616) + (r * 18446744073709551616 + lo64 x) := by
    rw [← Nat.mul_assoc, ← Nat.add_assoc, ← Nat.add_mul, e, hh]
  have hq : x / d = q * 18446744073709551616 + (r * 18446744073709551616 + lo64 x) / d := by
    conv => lhs; rw [hx]
    exact Nat.mul_add_div hd _ _
  have hm : x % d = (r * 18446744073709551616 + lo64 x) % d := by
    conv => lhs; rw [hx]
    exact Nat.mul_add_mod _ _ _
  have hb : (r * 18446744073709551616 + lo64 x) / d < 18446744073709551616 := by
    rw [Nat.div_lt_iff_lt_mul hd]
    have := Nat.mul_le_mul_right 18446744073709551616 (show r + 1 ≤ d from hr)
    rw [Nat.mul_comm 18446744073709551616 d]; omega
  refine ⟨?_, ?_, hm⟩
  · rw [hq]; generalize (r * 18446744073709551616 + lo64 x) / d = t at *; unfold hi64; clear hm hx hh hl e; omega
  · rw [hq]; generalize (r * 18446744073709551616 + lo64 x) / d = t at *; clear hm hx hh hl e hq; unfold lo64; omega

theorem tdiv_nat (a b : Nat) : Int.tdiv (a : Int) (b : Int) = ((a / b : Nat) : Int) := by rw [Int.tdiv_eq_ediv_of_nonneg (by omega)]; rfl

def wOk (n d : Nat) : Bool := decide (n ≤ 1000000000000000) && decide (d ≤ 1000000000)
def wN (s : Bool) (n d : Nat) : Int := if wOk n d = true then (if s = true then -(n : Int) else n) else 0
def wD (n d : Nat) : Int := if wOk n d = true then d else 0
def wE (n d : Nat) : Int := if wOk n d = true then 0 else 2

theorem w_no {s : Bool} {n d : Nat} (h : wOk n d = false) : wN s n d = 0 ∧ wD n d = 0 ∧ wE n d = 2 := by
  unfold wN wD wE; rw [h]; exact ⟨rfl, rfl, rfl⟩
theorem w_yes {n d : Nat} (h : wOk n d = true) : wN true n d = -(n : Int) ∧ wN false n d = n ∧ wD n d = d ∧ wE n d = 0 := by
  unfold wN wD wE; rw [h]; exact ⟨rfl, rfl, rfl, rfl⟩

end Go.Proofs.YtnhmebhmlbofgaaDoor

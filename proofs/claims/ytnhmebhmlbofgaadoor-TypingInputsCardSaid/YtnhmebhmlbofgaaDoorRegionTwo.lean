/- A drawn region whose last operations lay two blocks and store into them: whatever order comes up, what follows is met once. Over any program. Its conditions are those of wpAnyR_two. -/
import Derived.Test.YtnhmebhmlbofgaaDoorRegion
namespace Go.Proofs.YtnhmebhmlbofgaaDoor
open Go.RowKit

section
variable {P : Program} {ops : Array Oper} {Q Q' : Exit → Act → World → Prop} {md : Region.Mode} {S : Array Bool → World → Prop} {T : Nat → Bool}

theorem operWp_imp {o : Oper} {a : Act} {w : World} {K K' : Act → World → Prop} (h : ∀ a w, K a w → K' a w) (hq : ∀ e a w, Q e a w → Q' e a w)
    (hh : o.wp P a w K Q) : o.wp P a w K' Q' := by
  have hl : LetsOut Q → LetsOut Q' := fun ⟨a, w, h⟩ => ⟨a, w, hq _ _ _ h⟩
  unfold Oper.wp at *
  generalize (execOp a.eval o).run P w = r at *
  cases r with
  | ok n w' =>
    cases n <;> simp only [Oper.upon] at hh ⊢ <;>
      first
        | exact h _ _ hh
        | exact Calls.mono hh (fun e w'' he => by cases e <;> first | exact h _ _ he | exact hq _ _ _ he | exact hl he)
        | exact Rows.mono hh (fun _ _ he => h _ _ he)
  | halt x w' => cases x <;> simp only [Oper.upon] at hh ⊢ <;> first | exact hh | exact hq _ _ _ hh | exact hl hh

theorem wpOp_imp {i : Nat} {a : Act} {w : World} {K K' : Act → World → Prop} (h : ∀ a w, K a w → K' a w) (hq : ∀ e a w, Q e a w → Q' e a w)
    (hh : wpOp P ops Q i K a w) : wpOp P ops Q' i K' a w := by
  have hl : LetsOut Q → LetsOut Q' := fun ⟨a, w, h⟩ => ⟨a, w, hq _ _ _ h⟩
  unfold wpOp at *
  split
  · exact h _ _ (by simpa [*] using hh)
  · rename_i o ho
    simp only [ho] at hh
    split
    · rename_i hw; simp only [hw, if_true] at hh; exact hh.imp (operWp_imp h hq) (fun h => ⟨h.1, hl h.2⟩)
    · rename_i hw; simp only [hw] at hh; exact h _ _ hh

theorem wpAnyR_imp (hq : ∀ e a w, Q e a w → Q' e a w) : ∀ (f : Nat) (M L : Array Bool) (a : Act) (w : World), wpAnyR P md ops Q S T f M L a w → wpAnyR P md ops Q' S T f M L a w
  | 0, _, _, _, _, h => ⟨h.1, fun w' hw => hq _ _ _ (h.2 w' hw)⟩
  | f + 1, _, _, _, _, h => ⟨fun h0 w' hw => hq _ _ _ (h.1 h0 w' hw), fun i hi w' hw => wpOp_imp (fun a' w'' h' => ⟨h'.1, wpAnyR_imp hq f _ _ a' w'' h'.2⟩) hq (h.2 i hi w' hw)⟩

/-- Two new blocks of two cells each. -/
structure Two (W : World) (b1 b2 : Nat) (u0 u1 v0 v1 : Value) (w : World) : Prop where
  rel : Rel W w
  lo1 : W.heap.size ≤ b1
  lo2 : W.heap.size ≤ b2
  ne : b1 ≠ b2
  in1 : b1 < w.heap.size
  in2 : b2 < w.heap.size
  c10 : w.cell? ⟨b1, 0, none⟩ = some u0
  c11 : w.cell? ⟨b1, 1, none⟩ = some u1
  c20 : w.cell? ⟨b2, 0, none⟩ = some v0
  c21 : w.cell? ⟨b2, 1, none⟩ = some v1
  f10 : w.frozen? ⟨b1, 0, none⟩ = false
  f11 : w.frozen? ⟨b1, 1, none⟩ = false
  f20 : w.frozen? ⟨b2, 0, none⟩ = false
  f21 : w.frozen? ⟨b2, 1, none⟩ = false

def TwoR (W : World) (a : Act) (d1 d2 : Nat) (u0 u1 v0 v1 : Value) (a' : Act) (w' : World) : Prop :=
  ∃ b1 b2, a' = (a.put (some d1) (.pointer (some ⟨b1, 0, none⟩))).put (some d2) (.pointer (some ⟨b2, 0, none⟩)) ∧ Two W b1 b2 u0 u1 v0 v1 w'

theorem wpAnyR_two {a : Act} {w W : World} {d1 d2 : Nat} {u0 u1 v0 v1 : Value} {f : Nat} {M L : Array Bool}
    (h : wpAnyR P md ops (NoPanic fun e a' w' => e = .normal ∧ TwoR W a d1 d2 u0 u1 v0 v1 a' w') S T f M L a w)
    (hr : ∀ b1 b2 w', Two W b1 b2 u0 u1 v0 v1 w' → Q .normal ((a.put (some d1) (.pointer (some ⟨b1, 0, none⟩))).put (some d2) (.pointer (some ⟨b2, 0, none⟩))) w') :
    wpAnyR P md ops (NoPanic Q) S T f M L a w := by
  refine wpAnyR_imp (fun e a' w' hh => ?_) _ _ _ _ _ h
  cases e
  case normal =>
    obtain ⟨_, b1, b2, rfl, ht⟩ := (hh : _ ∧ TwoR W a d1 d2 u0 u1 v0 v1 a' w')
    exact hr b1 b2 w' ht
  all_goals first | exact (hh : False).elim | (have := (hh : _ ∧ _).1; cases this)
end
end Go.Proofs.YtnhmebhmlbofgaaDoor

/- Lemmas, each as it is printed; no conditions but those printed. -/
import Derived.Test.YtojghojlapgbiaaGreatDoorWB34
namespace Go.Proofs.YtojghojlapgbiaaGreatDoor
set_option maxHeartbeats 16000000
open Go.RowKit Cal Str Tok Frac Txt Tree
attribute [local go_sem] calmUpon
set_option linter.unusedVariables false
set_option linter.unusedSimpArgs false
theorem namT_size {tk : List Tk} (h : TksOk tk) (s : Pt) : (namT tk s).size ≤ 140737488355328 := by
 unfold namT;split
 ·exact pkT_size h s
 ·decide
theorem mm_ents (W : World) (T : TypeId) {g : Nat} (hg : g = W.heap.size) : ∀ (i : Nat) p, mmL[i]? = some p → (W.alloc (.cells #[.string ⟨#[109, 105, 110]⟩, .int .i64 19, .string ⟨#[109, 97, 120]⟩, .int .i64 20] T)).cell? ⟨g, i * 2, none⟩ = some (.string ⟨p.1.toArray⟩) ∧ (W.alloc (.cells #[.string ⟨#[109, 105, 110]⟩, .int .i64 19, .string ⟨#[109, 97, 120]⟩, .int .i64 20] T)).cell? ⟨g, i * 2 + 1, none⟩ = some (.int .i64 p.2) := by
 subst hg;intro i p hp
 rcases (show i = 0 ∨ i = 1 ∨ 2 ≤ i by omega) with rfl | rfl | h
 ·cases hp; exact ⟨by simp, by simp⟩
 ·cases hp; exact ⟨by simp, by simp⟩
 ·rw [show mmL[i]? = none from List.getElem?_eq_none h] at hp; cases hp
end Go.Proofs.YtojghojlapgbiaaGreatDoor

/- Lemmas, each as it is printed; no conditions but those printed. -/
import Derived.Test.YtojghojlapgbiaaGreatDoorWB34
namespace Go.Proofs.YtojghojlapgbiaaGreatDoor
set_option maxHeartbeats 16000000
open Go.RowKit Cal Str Tok Frac Txt Tree
attribute [local go_sem] calmUpon
set_option linter.unusedVariables false
set_option linter.unusedSimpArgs false
theorem rel_ents (W : World) (T : TypeId) {g : Nat} (hg : g = W.heap.size) : ∀ (i : Nat) p, relL[i]? = some p → (W.alloc (.cells #[.string ⟨#[60]⟩, .int .i64 11, .string ⟨#[60, 61]⟩, .int .i64 12, .string ⟨#[61]⟩, .int .i64 13, .string ⟨#[60, 62]⟩, .int .i64 14, .string ⟨#[62]⟩, .int .i64 15, .string ⟨#[62, 61]⟩, .int .i64 16] T)).cell? ⟨g, i * 2, none⟩ = some (.string ⟨p.1.toArray⟩) ∧ (W.alloc (.cells #[.string ⟨#[60]⟩, .int .i64 11, .string ⟨#[60, 61]⟩, .int .i64 12, .string ⟨#[61]⟩, .int .i64 13, .string ⟨#[60, 62]⟩, .int .i64 14, .string ⟨#[62]⟩, .int .i64 15, .string ⟨#[62, 61]⟩, .int .i64 16] T)).cell? ⟨g, i * 2 + 1, none⟩ = some (.int .i64 p.2) := by
 subst hg;intro i p hp
 rcases (show i = 0 ∨ i = 1 ∨ i = 2 ∨ i = 3 ∨ i = 4 ∨ i = 5 ∨ 6 ≤ i by omega) with rfl | rfl | rfl | rfl | rfl | rfl | h
 ·cases hp; exact ⟨by simp, by simp⟩
 ·cases hp; exact ⟨by simp, by simp⟩
 ·cases hp; exact ⟨by simp, by simp⟩
 ·cases hp; exact ⟨by simp, by simp⟩
 ·cases hp; exact ⟨by simp, by simp⟩
 ·cases hp; exact ⟨by simp, by simp⟩
 ·rw [show relL[i]? = none from List.getElem?_eq_none h] at hp; cases hp
end Go.Proofs.YtojghojlapgbiaaGreatDoor

/- Bundle of texts: each says at its head what it proves; no conditions but those printed. -/
import Derived.Test.YtkghmghjgikihaaGreatDoorEB26
import Derived.Great.Walk
import Derived.Test.YtkghmghjgikihaaGreatDoorEB28
import Derived.Test.YtkghmghjgikihaaGreatDoorEB23
import Derived.Test.YtkghmghjgikihaaGreatDoorEB22
import Derived.Test.YtkghmghjgikihaaGreatDoorEB14
import Derived.Test.YtkghmghjgikihaaGreatDoorEB15
namespace Go.Proofs.YtkghmghjgikihaaGreatDoor
open Go.RowKit Cal Str Tok Frac Txt Tree
attribute [local go_sem] calmUpon
set_option linter.unusedVariables false
set_option linter.unusedSimpArgs false
def nmE (i : Nat) : ByteArray := if i = 0 then ⟨#[97]⟩ else if i = 1 then ⟨#[98]⟩ else if i = 2 then ⟨#[99]⟩ else ⟨#[120]⟩
def dmE (i : Nat) : Int := if i = 0 then 2 else if i = 1 then 3 else if i = 2 then 4 else 1
theorem envG_E : EnvG nmE dmE 4 := by
 refine ⟨fun i hi => ?_, fun i hi => ?_, fun i hi => ?_, fun i j hi hj e => ?_⟩
 ·rcases (show i = 0 ∨ i = 1 ∨ i = 2 ∨ i = 3 by omega) with rfl | rfl | rfl | rfl <;> decide
 ·rcases (show i = 0 ∨ i = 1 ∨ i = 2 ∨ i = 3 by omega) with rfl | rfl | rfl | rfl <;> kernel_rfl
 ·rcases (show i = 0 ∨ i = 1 ∨ i = 2 ∨ i = 3 by omega) with rfl | rfl | rfl | rfl <;> kernel_rfl
 ·rcases (show i = 0 ∨ i = 1 ∨ i = 2 ∨ i = 3 by omega) with rfl | rfl | rfl | rfl <;> rcases (show j = 0 ∨ j = 1 ∨ j = 2 ∨ j = 3 by omega) with rfl | rfl | rfl | rfl <;> first | rfl | (exfalso; simp [nmE] at e)
def EnvRes (w : World) (e : Ending) (w' : World) : Prop := ∃ g, e = .returned (.slice (some ⟨g, 0, none⟩) 4 4) ∧ EnvAt w' 4 nmE dmE (some ⟨g, 0, none⟩) ∧ Rel w w'
theorem env_new (w : World) (T : TypeId) : EnvAt (w.alloc (.cells #[.string ⟨#[97]⟩, .int .i64 2, .string ⟨#[98]⟩, .int .i64 3, .string ⟨#[99]⟩, .int .i64 4, .string ⟨#[120]⟩, .int .i64 1] T)) 4 nmE dmE (some ⟨w.heap.size, 0, none⟩) := fun _ => by
 refine ⟨w.heap.size, 0, rfl, by simp, fun i hi => ?_⟩
 rcases (show i = 0 ∨ i = 1 ∨ i = 2 ∨ i = 3 by omega) with rfl | rfl | rfl | rfl <;> exact ⟨by simp [nmE], by simp [dmE], by decide, by decide, by decide⟩
set_option maxHeartbeats 4000000 in
theorem env_any (w : World) : Calls Tryz.prog 20 #[] w (EnvRes w) := by
 unfold EnvRes;go_enter Tryz.func20, Tryz.ntmps20;go_wp2;refine bodyPost_ret (v := .slice (some ⟨w.heap.size, 0, none⟩) 4 4) ?_ rfl ⟨w.heap.size, rfl, env_new w _, (Rel.refl _).alloc _⟩;simp [results, Tryz.results20, go_sem]
theorem intsS {w w' : World} {v : Value} {n : Nat} (h : IntsIn w v n) (r : Rel w w') : IntsIn w' v n := by
 obtain ⟨a0, cap, rfl, hn, hc⟩ := h;refine ⟨a0, cap, rfl, hn, fun h0 => ?_⟩;obtain ⟨b, off, zs, rfl, hb, hz⟩ := hc h0;exact ⟨b, off, zs, rfl, Nat.lt_of_lt_of_le hb r.size, fun j hj => ⟨r.cell (hz j hj).1, (hz j hj).2⟩⟩
theorem fmt_valid {t : Ex} (h : t.valid = true) : Ex.fmt t = t.put 0 := by unfold Ex.fmt; rw [if_pos h]
end Go.Proofs.YtkghmghjgikihaaGreatDoor

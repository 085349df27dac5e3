/- The statement RationalBetween: for every input the law returns true and each argument reads as it read. No conditions. -/
import Derived.Lib.SmallJoins
import Derived.Test.YtdhfecaoadnogaaRows
import Derived.Test.YtdhfecaoadnogaaRatL9
import Derived.WalkKit
import Derived.ProofKit
import Derived.OpenShut
import Derived.ShutString
import Derived.ChangeOld
import Derived.Below
namespace Go.Proofs.Ytdhfecaoadnogaa.rationalBetween
open Go.ChangeShapes Go.WideShapes Go.ChangeAt Go.RowKit
open Go.ChangeMaps (open_string shut_string)
set_option linter.unusedVariables false

theorem own : ownKnob Try.prog.godebug = none := by kernel_rfl

theorem cellsFr : Try.prog.cellsOf 23 = 2 := by kernel_rfl
set_option maxRecDepth 100000 in
theorem lifted (os : Os) (started : os.Started) (H : Type) (enc : TypeId × Value → H) :
    ReturnsInHanded {} Try.checked os 8 .any (Rows.rationalBetweenSpec.pre6 enc Try.prog Try.f8 Rows.rationalBetweenRow.domain false) (Rows.rationalBetweenSpec.post enc Try.prog Try.f8 false true false false) := by
  refine returnsInHanded_of_change (C := Try.checked) own started (by kernel_rfl) Try.func8
    (ChangeSpec.witness6 (enc := enc) (C := Try.checked) false ⟨#[], #[.agg #[.int .i64 0, .int .i64 0], .int .i64 0], []⟩ 8 (by kernel_rfl) (by kernel_rfl) (by kernel_rfl) (by kernel_rfl)) ?_
  intro W base args ds gs before hval0 hW hcnd _
  have hval : ∀ (j : Nat) t v, Try.f8.params[j]? = some t → args[j]? = some v → Value.okWide Try.prog W .any base t v := hval0
  have hW' := hW
  obtain ⟨p, q, hA0, hV, rfl, hfz, hnd⟩ := hW
  have hA : DataW.TrodAll enc Try.prog W 0 (fun _ => true) true Try.f8.params.toList args.toList ds p := hA0
  rw [Try.params8] at hA hval
  obtain ⟨v0, vs0, d0, ds0, p0, q0, hargs, rfl, rfl, h0, r0⟩ := trodAll_cons hA
  obtain ⟨v1, vs1, d1, ds1, p1, q1, rfl, rfl, rfl, h1, r1⟩ := trodAll_cons r0
  obtain ⟨rfl, rfl, rfl⟩ := trodAll_nil r1
  obtain rfl : args = #[v0, v1] := by cases args; simp_all
  obtain ⟨rfl, rfl⟩ := trodVars_none hV
  obtain ⟨e0a, e0b, y0a, y0b, m0, rfl, rfl, rfl, hy0a, hy0b⟩ := Joins.open_agg2 Try.underlying23 (by kernel_rfl) cellsFr (hval 0 23 v0 rfl rfl) h0
  obtain ⟨a0a, f0a, rfl, w0a⟩ := DataW.trod_int Try.underlying3 hy0a
  obtain ⟨a0b, f0b, rfl, w0b⟩ := DataW.trod_int Try.underlying3 hy0b
  simp at f0a f0b
  subst f0a f0b
  obtain ⟨a1, rfl, rfl, rfl, w1⟩ := open_int Try.underlying3 (hval 1 3 v1 rfl rfl) h1
  clear hA0 hval0
  simp only [List.append_nil] at hW'
  refine (walk_RationalBetween a0a a0b a1 (bounds_i64 w0a).1 (bounds_i64 w0a).2 (bounds_i64 w0b).1 (bounds_i64 w0b).2 (bounds_i64 w1).1 (bounds_i64 w1).2 W).mono fun e W' ⟨he, bel⟩ => ?_
  subst he
  exact ⟨_, rfl, _, _, _, [], [], [], hW', trodAll_mk1 (shut_bool Try.underlying4 _), (trodAll_cons_mk (Joins.shut_agg2 (y0 := (.lit (.int .i64 a0a), [])) (y1 := (.lit (.int .i64 a0b), [])) Try.underlying23 (by kernel_rfl) cellsFr ⟨1, by simp [DataW.trod, Try.underlying3, w0a]⟩ ⟨1, by simp [DataW.trod, Try.underlying3, w0b]⟩) (trodAll_cons_mk (shut_int Try.underlying3 w1) trodAll_mk0)), rfl, bel.frame _, fun h => by cases h⟩

theorem over : Rows.rationalBetweenRow.holds Try.pinned (OpenSpec.ofChange Rows.rationalBetweenSpec) :=
  OpenClaim.holds_of_wide 8 Try.f8 rfl rfl rfl rfl rfl rfl rfl ⟨rfl, rfl, rfl, rfl, rfl⟩ rfl rfl rfl rfl rfl (by kernel_rfl) Try.func8 (by kernel_rfl)
    (of_decide_eq_true (by kernel_rfl)) (by unfold Func.isWrapper; first | (rw [if_pos (by decide +kernel)]; kernel_rfl) | (rw [if_neg (by decide +kernel)]; exact ⟨rfl, rfl⟩))
    (fun os started H enc _ => lifted os started H enc)

/-- The statement. -/
theorem proved : Rows.RationalBetweenSaid := over
#print axioms proved
end Go.Proofs.Ytdhfecaoadnogaa.rationalBetween

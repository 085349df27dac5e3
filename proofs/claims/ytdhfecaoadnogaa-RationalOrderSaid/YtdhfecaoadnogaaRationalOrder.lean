/- The statement RationalOrder: for every input the law returns true and each argument reads as it read. No conditions. -/
import Derived.Lib.SmallJoins
import Derived.Test.YtdhfecaoadnogaaRows
import Derived.Test.YtdhfecaoadnogaaRatL10
import Derived.WalkKit
import Derived.ProofKit
import Derived.OpenShut
import Derived.ShutString
import Derived.ChangeOld
import Derived.Below
namespace Go.Proofs.Ytdhfecaoadnogaa.rationalOrder
open Go.ChangeShapes Go.WideShapes Go.ChangeAt Go.RowKit
open Go.ChangeMaps (open_string shut_string)
set_option linter.unusedVariables false

theorem own : ownKnob Try.prog.godebug = none := by kernel_rfl

theorem cellsFr : Try.prog.cellsOf 23 = 2 := by kernel_rfl
set_option maxRecDepth 100000 in
theorem lifted (os : Os) (started : os.Started) (H : Type) (enc : TypeId × Value → H) :
    ReturnsInHanded {} Try.checked os 14 .any (Rows.rationalOrderSpec.pre6 enc Try.prog Try.f14 Rows.rationalOrderRow.domain false) (Rows.rationalOrderSpec.post enc Try.prog Try.f14 false true false false) := by
  refine returnsInHanded_of_change (C := Try.checked) own started (by kernel_rfl) Try.func14
    (ChangeSpec.witness6 (enc := enc) (C := Try.checked) false ⟨#[], #[.agg #[.int .i64 0, .int .i64 0], .agg #[.int .i64 0, .int .i64 0], .agg #[.int .i64 0, .int .i64 0], .int .i64 0, .int .i64 0, .int .i64 0], []⟩ 8 (by kernel_rfl) (by kernel_rfl) (by kernel_rfl) (by kernel_rfl)) ?_
  intro W base args ds gs before hval0 hW hcnd _
  have hval : ∀ (j : Nat) t v, Try.f14.params[j]? = some t → args[j]? = some v → Value.okWide Try.prog W .any base t v := hval0
  have hW' := hW
  obtain ⟨p, q, hA0, hV, rfl, hfz, hnd⟩ := hW
  have hA : DataW.TrodAll enc Try.prog W 0 (fun _ => true) true Try.f14.params.toList args.toList ds p := hA0
  rw [Try.params14] at hA hval
  obtain ⟨v0, vs0, d0, ds0, p0, q0, hargs, rfl, rfl, h0, r0⟩ := trodAll_cons hA
  obtain ⟨v1, vs1, d1, ds1, p1, q1, rfl, rfl, rfl, h1, r1⟩ := trodAll_cons r0
  obtain ⟨v2, vs2, d2, ds2, p2, q2, rfl, rfl, rfl, h2, r2⟩ := trodAll_cons r1
  obtain ⟨v3, vs3, d3, ds3, p3, q3, rfl, rfl, rfl, h3, r3⟩ := trodAll_cons r2
  obtain ⟨v4, vs4, d4, ds4, p4, q4, rfl, rfl, rfl, h4, r4⟩ := trodAll_cons r3
  obtain ⟨v5, vs5, d5, ds5, p5, q5, rfl, rfl, rfl, h5, r5⟩ := trodAll_cons r4
  obtain ⟨rfl, rfl, rfl⟩ := trodAll_nil r5
  obtain rfl : args = #[v0, v1, v2, v3, v4, v5] := by cases args; simp_all
  obtain ⟨rfl, rfl⟩ := trodVars_none hV
  obtain ⟨e0a, e0b, y0a, y0b, m0, rfl, rfl, rfl, hy0a, hy0b⟩ := Joins.open_agg2 Try.underlying23 (by kernel_rfl) cellsFr (hval 0 23 v0 rfl rfl) h0
  obtain ⟨a0a, f0a, rfl, w0a⟩ := DataW.trod_int Try.underlying3 hy0a
  obtain ⟨a0b, f0b, rfl, w0b⟩ := DataW.trod_int Try.underlying3 hy0b
  simp at f0a f0b
  subst f0a f0b
  obtain ⟨e1a, e1b, y1a, y1b, m1, rfl, rfl, rfl, hy1a, hy1b⟩ := Joins.open_agg2 Try.underlying23 (by kernel_rfl) cellsFr (hval 1 23 v1 rfl rfl) h1
  obtain ⟨a1a, f1a, rfl, w1a⟩ := DataW.trod_int Try.underlying3 hy1a
  obtain ⟨a1b, f1b, rfl, w1b⟩ := DataW.trod_int Try.underlying3 hy1b
  simp at f1a f1b
  subst f1a f1b
  obtain ⟨e2a, e2b, y2a, y2b, m2, rfl, rfl, rfl, hy2a, hy2b⟩ := Joins.open_agg2 Try.underlying23 (by kernel_rfl) cellsFr (hval 2 23 v2 rfl rfl) h2
  obtain ⟨a2a, f2a, rfl, w2a⟩ := DataW.trod_int Try.underlying3 hy2a
  obtain ⟨a2b, f2b, rfl, w2b⟩ := DataW.trod_int Try.underlying3 hy2b
  simp at f2a f2b
  subst f2a f2b
  obtain ⟨a3, rfl, rfl, rfl, w3⟩ := open_int Try.underlying3 (hval 3 3 v3 rfl rfl) h3
  obtain ⟨a4, rfl, rfl, rfl, w4⟩ := open_int Try.underlying3 (hval 4 3 v4 rfl rfl) h4
  obtain ⟨a5, rfl, rfl, rfl, w5⟩ := open_int Try.underlying3 (hval 5 3 v5 rfl rfl) h5
  clear hA0 hval0
  simp only [List.append_nil] at hW'
  refine (walk_RationalOrder a0a a0b a1a a1b a2a a2b a3 a4 a5 (bounds_i64 w0a).1 (bounds_i64 w0a).2 (bounds_i64 w0b).1 (bounds_i64 w0b).2 (bounds_i64 w1a).1 (bounds_i64 w1a).2 (bounds_i64 w1b).1 (bounds_i64 w1b).2 (bounds_i64 w2a).1 (bounds_i64 w2a).2 (bounds_i64 w2b).1 (bounds_i64 w2b).2 (bounds_i64 w3).1 (bounds_i64 w3).2 (bounds_i64 w4).1 (bounds_i64 w4).2 (bounds_i64 w5).1 (bounds_i64 w5).2 W).mono fun e W' ⟨he, bel⟩ => ?_
  subst he
  exact ⟨_, rfl, _, _, _, [], [], [], hW', trodAll_mk1 (shut_bool Try.underlying4 _), (trodAll_cons_mk (Joins.shut_agg2 (y0 := (.lit (.int .i64 a0a), [])) (y1 := (.lit (.int .i64 a0b), [])) Try.underlying23 (by kernel_rfl) cellsFr ⟨1, by simp [DataW.trod, Try.underlying3, w0a]⟩ ⟨1, by simp [DataW.trod, Try.underlying3, w0b]⟩) (trodAll_cons_mk (Joins.shut_agg2 (y0 := (.lit (.int .i64 a1a), [])) (y1 := (.lit (.int .i64 a1b), [])) Try.underlying23 (by kernel_rfl) cellsFr ⟨1, by simp [DataW.trod, Try.underlying3, w1a]⟩ ⟨1, by simp [DataW.trod, Try.underlying3, w1b]⟩) (trodAll_cons_mk (Joins.shut_agg2 (y0 := (.lit (.int .i64 a2a), [])) (y1 := (.lit (.int .i64 a2b), [])) Try.underlying23 (by kernel_rfl) cellsFr ⟨1, by simp [DataW.trod, Try.underlying3, w2a]⟩ ⟨1, by simp [DataW.trod, Try.underlying3, w2b]⟩) (trodAll_cons_mk (shut_int Try.underlying3 w3) (trodAll_cons_mk (shut_int Try.underlying3 w4) (trodAll_cons_mk (shut_int Try.underlying3 w5) trodAll_mk0)))))), rfl, bel.frame _, fun h => by cases h⟩

theorem over : Rows.rationalOrderRow.holds Try.pinned (OpenSpec.ofChange Rows.rationalOrderSpec) :=
  OpenClaim.holds_of_wide 14 Try.f14 rfl rfl rfl rfl rfl rfl rfl ⟨rfl, rfl, rfl, rfl, rfl⟩ rfl rfl rfl rfl rfl (by kernel_rfl) Try.func14 (by kernel_rfl)
    (of_decide_eq_true (by kernel_rfl)) (by unfold Func.isWrapper; first | (rw [if_pos (by decide +kernel)]; kernel_rfl) | (rw [if_neg (by decide +kernel)]; exact ⟨rfl, rfl⟩))
    (fun os started H enc _ => lifted os started H enc)

/-- The statement. -/
theorem proved : Rows.RationalOrderSaid := over
#print axioms proved
end Go.Proofs.Ytdhfecaoadnogaa.rationalOrder

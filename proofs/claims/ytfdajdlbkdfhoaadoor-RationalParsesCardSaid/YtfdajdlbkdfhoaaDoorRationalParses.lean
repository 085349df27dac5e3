/- The statement RationalParses: for every input the law returns true and each argument reads as it read. No conditions. -/
import Derived.Lib.SmallJoins
import Derived.Test.YtfdajdlbkdfhoaaDoorRows
import Derived.Test.YtfdajdlbkdfhoaaDoorDoorL2
import Derived.Test.YtfdajdlbkdfhoaaDoorCarry
import Derived.Test.YtfdajdlbkdfhoaaDoorDoorF
import Derived.Test.YtfdajdlbkdfhoaaDoorTie
import Derived.Test.YtfdajdlbkdfhoaaDoorCards
import Derived.SevenTiedAt
import Derived.JoinedOf
import Derived.WalkKit
import Derived.ProofKit
import Derived.OpenShut
import Derived.ShutString
import Derived.ChangeOld
import Derived.Below
import Derived.SizedLaws
namespace Go.Proofs.YtfdajdlbkdfhoaaDoor.rationalParses
open Go.ChangeShapes Go.WideShapes Go.ChangeAt Go.RowKit
open Go.ChangeMaps (open_string shut_string)
set_option linter.unusedVariables false

theorem own : ownKnob Tryd.prog.godebug = none := by kernel_rfl
theorem laidOut : laidOutB Tryd.prog = true := by kernel_rfl
theorem cellsFr : Tryd.prog.cellsOf 23 = 2 := by kernel_rfl
set_option maxRecDepth 100000 in
theorem lifted (os : Os) (started : os.Started) (H : Type) (enc : TypeId × Value → H) :
    ReturnsInHanded {} Tryd.checked os 5 .any (fun w args => (Rows.rationalParsesSpec.pre enc Tryd.prog Tryd.f5 Rows.rationalParsesRow.domain false w args ∧ laidMetH Tryd.prog Rows.rationalParsesRow.laid w) ∧ sizedMet enc Tryd.prog Tryd.f5 (OpenSpec.ofChange Rows.rationalParsesSpec) false w args) (Rows.rationalParsesSpec.post enc Tryd.prog Tryd.f5 false true false false) := by
  refine returnsInHanded_of_change_and (C := Tryd.checked) (X := fun w _ => laidMetH Tryd.prog Rows.rationalParsesRow.laid w) (fun _ _ _ hh h => h.of_heap hh) own started (by kernel_rfl) Tryd.func5
    (ChangeSpec.witness_at (enc := enc) (C := Tryd.checked) (os := os) (X := fun w _ => laidMetH Tryd.prog Rows.rationalParsesRow.laid w) false (laidWorld os) #[.string ⟨#[]⟩, .agg #[.int .i64 0, .int .i64 0], .int .i64 0, .int .i64 0, .int .u8 0] 8 rfl (by kernel_rfl) (by kernel_rfl) (by kernel_rfl) (by kernel_rfl) (by kernel_rfl) (met5 os _)) ?_
  intro W base args ds gs before hval0 hW hcnd hsz0 hL _
  have hsz : (DataW.weightsEach Tryd.prog (Tryd.f5.params.toList ++ Rows.rationalParsesSpec.plain.varTypes Tryd.prog) (ds ++ gs)).all (· ≤ reachBytes) = true := hsz0
  have hval : ∀ (j : Nat) t v, Tryd.f5.params[j]? = some t → args[j]? = some v → Value.okWide Tryd.prog W .any base t v := hval0
  have hW' := hW
  obtain ⟨p, q, hA0, hV, rfl, hfz, hnd⟩ := hW
  have hA : DataW.TrodAll enc Tryd.prog W 0 (fun _ => true) true Tryd.f5.params.toList args.toList ds p := hA0
  have hAk : DataW.TrodAll enc Tryd.prog W 0 (fun _ => true) true Tryd.f5.params.toList args.toList ds p := hA0
  rw [Tryd.params5] at hA hval hsz
  obtain ⟨v0, vs0, d0, ds0, p0, q0, hargs, rfl, rfl, h0, r0⟩ := trodAll_cons hA
  obtain ⟨v1, vs1, d1, ds1, p1, q1, rfl, rfl, rfl, h1, r1⟩ := trodAll_cons r0
  obtain ⟨v2, vs2, d2, ds2, p2, q2, rfl, rfl, rfl, h2, r2⟩ := trodAll_cons r1
  obtain ⟨v3, vs3, d3, ds3, p3, q3, rfl, rfl, rfl, h3, r3⟩ := trodAll_cons r2
  obtain ⟨v4, vs4, d4, ds4, p4, q4, rfl, rfl, rfl, h4, r4⟩ := trodAll_cons r3
  obtain ⟨rfl, rfl, rfl⟩ := trodAll_nil r4
  obtain rfl : args = #[v0, v1, v2, v3, v4] := by cases args; simp_all
  obtain ⟨rfl, rfl⟩ := trodVars_none hV
  have hlt : ∀ x ∈ (p0 ++ (p1 ++ (p2 ++ (p3 ++ (p4 ++ []))))), x.block < W.heap.size := fun x hx => by simpa using hW'.lt x (by simpa using hx)
  obtain ⟨a0, rfl, rfl, rfl, w0⟩ := open_string Tryd.underlying9 (hval 0 9 v0 rfl rfl) h0
  have z0 : a0.size ≤ 140737488355328 := by
    have := sized_string hsz (j := 0) (t := 9) rfl rfl
    have e : a0.data.toList.length = a0.size := by simp
    simp only [reachBytes] at this
    omega
  obtain ⟨e1a, e1b, y1a, y1b, m1, rfl, rfl, rfl, hy1a, hy1b⟩ := Joins.open_agg2 Tryd.underlying23 (by kernel_rfl) cellsFr (hval 1 23 v1 rfl rfl) h1
  obtain ⟨a1a, f1a, rfl, w1a⟩ := DataW.trod_int Tryd.underlying3 hy1a
  obtain ⟨a1b, f1b, rfl, w1b⟩ := DataW.trod_int Tryd.underlying3 hy1b
  simp at f1a f1b
  subst f1a f1b
  obtain ⟨a2, rfl, rfl, rfl, w2⟩ := open_int Tryd.underlying3 (hval 2 3 v2 rfl rfl) h2
  obtain ⟨a3, rfl, rfl, rfl, w3⟩ := open_int Tryd.underlying3 (hval 3 3 v3 rfl rfl) h3
  obtain ⟨a4, rfl, rfl, rfl, w4⟩ := open_int Tryd.underlying5 (hval 4 5 v4 rfl rfl) h4
  clear hA0 hval0 hsz hsz0
  refine (walk_RationalParses W (tab5 hL) (err5 hL) a0 a1a a1b a2 a3 a4 z0 (bounds_i64 w1a).1 (bounds_i64 w1a).2 (bounds_i64 w1b).1 (bounds_i64 w1b).2 (bounds_i64 w2).1 (bounds_i64 w2).2 (bounds_i64 w3).1 (bounds_i64 w3).2 (bounds_u8 w4).1 (bounds_u8 w4).2).mono fun e W' ⟨he, bel⟩ => ?_
  subst he
  exact ⟨_, rfl, _, _, _, [], _, [], hW', trodAll_mk1 (shut_bool Tryd.underlying4 _), carryAll laidOut bel _ _ _ _ (by kernel_rfl) hAk hlt, rfl, bel.frame _, fun h => by cases h⟩

theorem over : Rows.rationalParsesRow.holds Tryd.pinned (OpenSpec.ofChange Rows.rationalParsesSpec) :=
  OpenClaim.holds_of_wide 5 Tryd.f5 rfl rfl rfl rfl rfl rfl rfl ⟨rfl, rfl, rfl, rfl, rfl⟩ rfl rfl rfl rfl rfl (by kernel_rfl) Tryd.func5 (by kernel_rfl)
    (of_decide_eq_true (by kernel_rfl)) (by unfold Func.isWrapper; first | (rw [if_pos (by decide +kernel)]; kernel_rfl) | (rw [if_neg (by decide +kernel)]; exact ⟨rfl, rfl⟩))
    (fun os started H enc _ => lifted os started H enc)

/-- The statement: the tied card. -/
theorem proved : Rows.RationalParsesCardSaid :=
  Claim7.holds_tied_plain_at .later [] [.data, .data, .data, .sentinel, .sentinel] true (true, "bf3c006d3ae7b402e92e7cf30bc3a1fdbf3a4a68ee4017695f95554b384e1550") true
    over (fun _ h => by cases h) (by kernel_rfl) (fun _ h => by cases h) rationalParses_row_tie rfl ⟨rfl, rfl⟩ (by kernel_rfl) rfl
    (fun f fn hf hfn => by
      obtain rfl : f = 5 := Option.some.inj ((show Tryd.prog.funcNamed "pension/pensionlaw3.RationalParses" = some 5 by kernel_rfl).symm.trans hf) |>.symm
      obtain rfl : fn = Tryd.f5 := (Option.some.inj (Tryd.func5.symm.trans hfn)).symm
      refine ⟨by kernel_rfl, fun j t ht => ?_⟩
      rw [Tryd.params5] at ht
      have hm : t ∈ [9, 23, 3, 3, 5] := by
        have := Array.mem_of_getElem? ht
        simpa using this
      have hall : ([9, 23, 3, 3, 5] : List TypeId).all (fun t => !Tryd.prog.wantsStandIn t) = true := by kernel_rfl
      have := List.all_eq_true.1 hall t hm
      exact (show Tryd.prog.wantsStandIn t = false by simpa using this))
    (by kernel_rfl)
#print axioms proved
end Go.Proofs.YtfdajdlbkdfhoaaDoor.rationalParses

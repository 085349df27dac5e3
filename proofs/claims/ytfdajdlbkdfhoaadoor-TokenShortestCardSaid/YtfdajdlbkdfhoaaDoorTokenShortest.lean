/- The statement TokenShortest: for every input the law returns true and each argument reads as it read. No conditions. -/
import Derived.Lib.SmallJoins
import Derived.Test.YtfdajdlbkdfhoaaDoorRows
import Derived.Test.YtfdajdlbkdfhoaaDoorDoorL3
import Derived.Test.YtfdajdlbkdfhoaaDoorCarry
import Derived.Test.YtfdajdlbkdfhoaaDoorDoorF
import Derived.Test.YtfdajdlbkdfhoaaDoorTie
import Derived.Test.YtfdajdlbkdfhoaaDoorCards
import Derived.SevenTiedAt
import Derived.JoinedOf
import Derived.WalkKit
import Derived.ProofKit
import Derived.OpenShut
import Derived.ShutString
import Derived.ChangeOld
import Derived.Below
import Derived.SizedLaws
namespace Go.Proofs.YtfdajdlbkdfhoaaDoor.tokenShortest
open Go.ChangeShapes Go.WideShapes Go.ChangeAt Go.RowKit
open Go.ChangeMaps (open_string shut_string)
set_option linter.unusedVariables false

theorem own : ownKnob Tryd.prog.godebug = none := by kernel_rfl
theorem laidOut : laidOutB Tryd.prog = true := by kernel_rfl
theorem cellsFr : Tryd.prog.cellsOf 23 = 2 := by kernel_rfl
set_option maxRecDepth 100000 in
theorem lifted (os : Os) (started : os.Started) (H : Type) (enc : TypeId × Value → H) :
    ReturnsInHanded {} Tryd.checked os 3 .any (fun w args => (Rows.tokenShortestSpec.pre enc Tryd.prog Tryd.f3 Rows.tokenShortestRow.domain false w args ∧ laidMetH Tryd.prog Rows.tokenShortestRow.laid w) ∧ sizedMet enc Tryd.prog Tryd.f3 (OpenSpec.ofChange Rows.tokenShortestSpec) false w args) (Rows.tokenShortestSpec.post enc Tryd.prog Tryd.f3 false true false false) := by
  refine returnsInHanded_of_change_and (C := Tryd.checked) (X := fun w _ => laidMetH Tryd.prog Rows.tokenShortestRow.laid w) (fun _ _ _ hh h => h.of_heap hh) own started (by kernel_rfl) Tryd.func3
    (ChangeSpec.witness_at (enc := enc) (C := Tryd.checked) (os := os) (X := fun w _ => laidMetH Tryd.prog Rows.tokenShortestRow.laid w) false (laidWorld os) #[.agg #[.int .i64 0, .int .i64 0], .int .i64 0, .int .i64 0, .int .i64 0, .bool false] 8 rfl (by kernel_rfl) (by kernel_rfl) (by kernel_rfl) (by kernel_rfl) (by kernel_rfl) (met3 os _)) ?_
  intro W base args ds gs before hval0 hW hcnd hsz0 hL _
  have hsz : (DataW.weightsEach Tryd.prog (Tryd.f3.params.toList ++ Rows.tokenShortestSpec.plain.varTypes Tryd.prog) (ds ++ gs)).all (· ≤ reachBytes) = true := hsz0
  have hval : ∀ (j : Nat) t v, Tryd.f3.params[j]? = some t → args[j]? = some v → Value.okWide Tryd.prog W .any base t v := hval0
  have hW' := hW
  obtain ⟨p, q, hA0, hV, rfl, hfz, hnd⟩ := hW
  have hA : DataW.TrodAll enc Tryd.prog W 0 (fun _ => true) true Tryd.f3.params.toList args.toList ds p := hA0
  have hAk : DataW.TrodAll enc Tryd.prog W 0 (fun _ => true) true Tryd.f3.params.toList args.toList ds p := hA0
  rw [Tryd.params3] at hA hval hsz
  obtain ⟨v0, vs0, d0, ds0, p0, q0, hargs, rfl, rfl, h0, r0⟩ := trodAll_cons hA
  obtain ⟨v1, vs1, d1, ds1, p1, q1, rfl, rfl, rfl, h1, r1⟩ := trodAll_cons r0
  obtain ⟨v2, vs2, d2, ds2, p2, q2, rfl, rfl, rfl, h2, r2⟩ := trodAll_cons r1
  obtain ⟨v3, vs3, d3, ds3, p3, q3, rfl, rfl, rfl, h3, r3⟩ := trodAll_cons r2
  obtain ⟨v4, vs4, d4, ds4, p4, q4, rfl, rfl, rfl, h4, r4⟩ := trodAll_cons r3
  obtain ⟨rfl, rfl, rfl⟩ := trodAll_nil r4
  obtain rfl : args = #[v0, v1, v2, v3, v4] := by cases args; simp_all
  obtain ⟨rfl, rfl⟩ := trodVars_none hV
  have hlt : ∀ x ∈ (p0 ++ (p1 ++ (p2 ++ (p3 ++ (p4 ++ []))))), x.block < W.heap.size := fun x hx => by simpa using hW'.lt x (by simpa using hx)
  obtain ⟨e0a, e0b, y0a, y0b, m0, rfl, rfl, rfl, hy0a, hy0b⟩ := Joins.open_agg2 Tryd.underlying23 (by kernel_rfl) cellsFr (hval 0 23 v0 rfl rfl) h0
  obtain ⟨a0a, f0a, rfl, w0a⟩ := DataW.trod_int Tryd.underlying3 hy0a
  obtain ⟨a0b, f0b, rfl, w0b⟩ := DataW.trod_int Tryd.underlying3 hy0b
  simp at f0a f0b
  subst f0a f0b
  obtain ⟨a1, rfl, rfl, rfl, w1⟩ := open_int Tryd.underlying3 (hval 1 3 v1 rfl rfl) h1
  obtain ⟨a2, rfl, rfl, rfl, w2⟩ := open_int Tryd.underlying3 (hval 2 3 v2 rfl rfl) h2
  obtain ⟨a3, rfl, rfl, rfl, w3⟩ := open_int Tryd.underlying3 (hval 3 3 v3 rfl rfl) h3
  obtain ⟨a4, rfl, rfl, rfl⟩ := open_bool Tryd.underlying4 (hval 4 4 v4 rfl rfl) h4
  clear hA0 hval0 hsz hsz0
  refine (walk_TokenShortest W (tab3 hL) a0a a0b a1 a2 a3 a4 (bounds_i64 w0a).1 (bounds_i64 w0a).2 (bounds_i64 w0b).1 (bounds_i64 w0b).2 (bounds_i64 w1).1 (bounds_i64 w1).2 (bounds_i64 w2).1 (bounds_i64 w2).2 (bounds_i64 w3).1 (bounds_i64 w3).2).mono fun e W' ⟨he, bel⟩ => ?_
  subst he
  exact ⟨_, rfl, _, _, _, [], _, [], hW', trodAll_mk1 (shut_bool Tryd.underlying4 _), carryAll laidOut bel _ _ _ _ (by kernel_rfl) hAk hlt, rfl, bel.frame _, fun h => by cases h⟩

theorem over : Rows.tokenShortestRow.holds Tryd.pinned (OpenSpec.ofChange Rows.tokenShortestSpec) :=
  OpenClaim.holds_of_wide 3 Tryd.f3 rfl rfl rfl rfl rfl rfl rfl ⟨rfl, rfl, rfl, rfl, rfl⟩ rfl rfl rfl rfl rfl (by kernel_rfl) Tryd.func3 (by kernel_rfl)
    (of_decide_eq_true (by kernel_rfl)) (by unfold Func.isWrapper; first | (rw [if_pos (by decide +kernel)]; kernel_rfl) | (rw [if_neg (by decide +kernel)]; exact ⟨rfl, rfl⟩))
    (fun os started H enc _ => lifted os started H enc)

/-- The statement: the tied card. -/
theorem proved : Rows.TokenShortestCardSaid :=
  Claim7.holds_tied_plain_at .later [] [.data, .data, .data] true (true, "bf3c006d3ae7b402e92e7cf30bc3a1fdbf3a4a68ee4017695f95554b384e1550") true
    over (fun _ h => by cases h) (by kernel_rfl) (fun _ h => by cases h) tokenShortest_row_tie rfl ⟨rfl, rfl⟩ (by kernel_rfl) rfl
    (fun f fn hf hfn => by
      obtain rfl : f = 3 := Option.some.inj ((show Tryd.prog.funcNamed "pension/pensionlaw5.TokenShortest" = some 3 by kernel_rfl).symm.trans hf) |>.symm
      obtain rfl : fn = Tryd.f3 := (Option.some.inj (Tryd.func3.symm.trans hfn)).symm
      refine ⟨by kernel_rfl, fun j t ht => ?_⟩
      rw [Tryd.params3] at ht
      have hm : t ∈ [23, 3, 3, 3, 4] := by
        have := Array.mem_of_getElem? ht
        simpa using this
      have hall : ([23, 3, 3, 3, 4] : List TypeId).all (fun t => !Tryd.prog.wantsStandIn t) = true := by kernel_rfl
      have := List.all_eq_true.1 hall t hm
      exact (show Tryd.prog.wantsStandIn t = false by simpa using this))
    (by kernel_rfl)
#print axioms proved
end Go.Proofs.YtfdajdlbkdfhoaaDoor.tokenShortest

/- The statement StatuteBack: for every input the law returns true and each argument reads as it read. No conditions. -/
import Derived.Test.YthmlhheceihcbaaGreatDoorRows
import Derived.Test.YthmlhheceihcbaaGreatDoorKB51
import Derived.Test.YthmlhheceihcbaaGreatDoorTie
import Derived.Test.YthmlhheceihcbaaGreatDoorCards
import Derived.SevenTiedAt
import Derived.JoinedOf
import Derived.WalkKit
import Derived.ProofKit
import Derived.OpenShut
import Derived.ShutString
import Derived.ChangeOld
import Derived.Below
import Derived.SizedLaws
namespace Go.Proofs.YthmlhheceihcbaaGreatDoor.statuteBack
open Go.ChangeShapes Go.WideShapes Go.ChangeAt Go.RowKit
open Go.ChangeMaps (open_string shut_string)
set_option linter.unusedVariables false

theorem own : ownKnob Tryz.prog.godebug = none := by kernel_rfl
theorem laidOut : laidOutB Tryz.prog = true := by kernel_rfl
set_option maxHeartbeats 4000000 in
set_option maxRecDepth 100000 in
theorem lifted (os : Os) (started : os.Started) (H : Type) (enc : TypeId × Value → H) :
    ReturnsInHanded {} Tryz.checked os 4 .any (fun w args => (Rows.statuteBackSpec.pre enc Tryz.prog Tryz.f4 Rows.statuteBackRow.domain false w args ∧ laidMetH Tryz.prog Rows.statuteBackRow.laid w) ∧ sizedMet enc Tryz.prog Tryz.f4 (OpenSpec.ofChange Rows.statuteBackSpec) false w args) (Rows.statuteBackSpec.post enc Tryz.prog Tryz.f4 false true false false) := by
  refine returnsInHanded_of_change_and (C := Tryz.checked) (X := fun w _ => laidMetH Tryz.prog Rows.statuteBackRow.laid w) (fun _ _ _ hh h => h.of_heap hh) own started (by kernel_rfl) Tryz.func4
    (ChangeSpec.witness_at (enc := enc) (C := Tryz.checked) (os := os) (X := fun w _ => laidMetH Tryz.prog Rows.statuteBackRow.laid w) false (laidWorld os) #[.slice none 0 0, .int .i64 0] 8 rfl (by kernel_rfl) (by kernel_rfl) (by kernel_rfl) (by kernel_rfl) (by kernel_rfl) (met3 os _)) ?_
  intro W base args ds gs before hval0 hW hcnd hsz0 hL _
  have hsz : (DataW.weightsEach Tryz.prog (Tryz.f4.params.toList ++ Rows.statuteBackSpec.plain.varTypes Tryz.prog) (ds ++ gs)).all (· ≤ reachBytes) = true := hsz0
  have hval : ∀ (j : Nat) t v, Tryz.f4.params[j]? = some t → args[j]? = some v → Value.okWide Tryz.prog W .any base t v := hval0
  have hW' := hW
  obtain ⟨p, q, hA0, hV, rfl, hfz, hnd⟩ := hW
  have hA : DataW.TrodAll enc Tryz.prog W 0 (fun _ => true) true Tryz.f4.params.toList args.toList ds p := hA0
  have hAk : DataW.TrodAll enc Tryz.prog W 0 (fun _ => true) true Tryz.f4.params.toList args.toList ds p := hA0
  rw [Tryz.params4] at hA hval hsz
  obtain ⟨v0, vs0, d0, ds0, p0, q0, hargs, rfl, rfl, h0, r0⟩ := trodAll_cons hA
  obtain ⟨v1, vs1, d1, ds1, p1, q1, rfl, rfl, rfl, h1, r1⟩ := trodAll_cons r0
  obtain ⟨rfl, rfl, rfl⟩ := trodAll_nil r1
  obtain rfl : args = #[v0, v1] := by cases args; simp_all
  obtain ⟨rfl, rfl⟩ := trodVars_none hV
  have hlt : ∀ x ∈ (p0 ++ (p1 ++ [])), x.block < W.heap.size := fun x hx => by simpa using hW'.lt x (by simpa using hx)
  obtain ⟨s0, l0, cap0, rfl⟩ := okWide_slice Tryz.underlying22 (hval 0 22 v0 rfl rfl)
  obtain ⟨x0, n0, rr0, z0⟩ : ∃ x0 n0 rr0, x0 = Value.slice s0 l0 cap0 ∧ RawsIn W x0 n0 rr0 := by
    obtain ⟨fuel, hf⟩ := h0
    obtain ⟨v', n0, rr0, hcs, hz⟩ := open_raws hf (light_each hsz (j := 0) rfl rfl)
    simp [Value.cells] at hcs
    exact ⟨_, n0, rr0, rfl, by rw [hcs]; exact hz⟩
  obtain ⟨rfl, z0⟩ := z0
  obtain ⟨a1, rfl, rfl, rfl, w1⟩ := open_int Tryz.underlying3 (hval 1 3 v1 rfl rfl) h1
  clear hA0 hval0 hsz hsz0
  refine (walk_StatuteBack W (tab3 hL) _ n0 rr0 a1 z0 (bounds_i64 w1).1 (bounds_i64 w1).2).mono fun e W' ⟨he, bel⟩ => ?_
  subst he
  exact ⟨_, rfl, _, _, _, [], _, [], hW', trodAll_mk1 (shut_bool Tryz.underlying4 _), carryAll laidOut bel _ _ _ _ (by kernel_rfl) hAk hlt, rfl, bel.frame _, fun h => by cases h⟩

theorem over : Rows.statuteBackRow.holds Tryz.pinned (OpenSpec.ofChange Rows.statuteBackSpec) :=
  OpenClaim.holds_of_wide 4 Tryz.f4 rfl rfl rfl rfl rfl rfl rfl ⟨rfl, rfl, rfl, rfl, rfl⟩ rfl rfl rfl rfl rfl (by kernel_rfl) Tryz.func4 (by kernel_rfl)
    (of_decide_eq_true (by kernel_rfl)) (by unfold Func.isWrapper; first | (rw [if_pos (by decide +kernel)]; kernel_rfl) | (rw [if_neg (by decide +kernel)]; exact ⟨rfl, rfl⟩))
    (fun os started H enc _ => lifted os started H enc)

/-- The statement: the tied card. -/
theorem proved : Rows.StatuteBackCardSaid :=
  Claim7.holds_tied_plain_at .later [] [.data, .data, .data] true (true, "1cd9e6afec857e454b6a95af0b8f31bd1d505ac69cf6bc534571d4b1bff94e4e") false
    over (fun _ h => by cases h) (by kernel_rfl) (fun _ h => by cases h) statuteBack_row_tie rfl ⟨rfl, rfl⟩ (by kernel_rfl) rfl
    (fun f fn hf hfn => by
      obtain rfl : f = 4 := Option.some.inj ((show Tryz.prog.funcNamed "pension/pensionlaw6.StatuteBack" = some 4 by kernel_rfl).symm.trans hf) |>.symm
      obtain rfl : fn = Tryz.f4 := (Option.some.inj (Tryz.func4.symm.trans hfn)).symm
      refine ⟨by kernel_rfl, fun j t ht => ?_⟩
      rw [Tryz.params4] at ht
      have hm : t ∈ [22, 3] := by
        have := Array.mem_of_getElem? ht
        simpa using this
      have hall : ([22, 3] : List TypeId).all (fun t => !Tryz.prog.wantsStandIn t) = true := by kernel_rfl
      have := List.all_eq_true.1 hall t hm
      exact (show Tryz.prog.wantsStandIn t = false by simpa using this))
    (by kernel_rfl)
#print axioms proved
end Go.Proofs.YthmlhheceihcbaaGreatDoor.statuteBack

/- The statement SyntaxEdits: for every input the law returns true and each argument reads as it read. No conditions. -/
import Derived.Test.YtkghmghjgikihaaGreatDoorRows
import Derived.Test.YtkghmghjgikihaaGreatDoorEB38
import Derived.Test.YtkghmghjgikihaaGreatDoorEB4
import Derived.Test.YtkghmghjgikihaaGreatDoorEB16
import Derived.Test.YtkghmghjgikihaaGreatDoorTie
import Derived.Test.YtkghmghjgikihaaGreatDoorCards
import Derived.SevenTiedAt
import Derived.JoinedOf
import Derived.WalkKit
import Derived.ProofKit
import Derived.OpenShut
import Derived.ShutString
import Derived.ChangeOld
import Derived.Below
import Derived.SizedLaws
import Derived.ChangeSlices
import Derived.Test.YtkghmghjgikihaaGreatDoorEB37
namespace Go.Proofs.YtkghmghjgikihaaGreatDoor.syntaxEdits
open Go.ChangeShapes Go.WideShapes Go.ChangeAt Go.RowKit
open Go.ChangeMaps (open_string shut_string)
set_option linter.unusedVariables false

theorem own : ownKnob Tryz.prog.godebug = none := by kernel_rfl
theorem laidOut : laidOutB Tryz.prog = true := by kernel_rfl
theorem cellsInt : Tryz.prog.cellsOf 3 = 1 := by kernel_rfl
theorem bytesInt : Tryz.prog.bytesOf 3 = 8 := by kernel_rfl
set_option maxRecDepth 100000 in
theorem lifted (os : Os) (started : os.Started) (H : Type) (enc : TypeId × Value → H) :
    ReturnsInHanded {} Tryz.checked os 4 .any (fun w args => (Rows.syntaxEditsSpec.pre enc Tryz.prog Tryz.f4 Rows.syntaxEditsRow.domain false w args ∧ laidMetH Tryz.prog Rows.syntaxEditsRow.laid w) ∧ sizedMet enc Tryz.prog Tryz.f4 (OpenSpec.ofChange Rows.syntaxEditsSpec) false w args) (Rows.syntaxEditsSpec.post enc Tryz.prog Tryz.f4 false true false false) := by
  refine returnsInHanded_of_change_and (C := Tryz.checked) (X := fun w _ => laidMetH Tryz.prog Rows.syntaxEditsRow.laid w) (fun _ _ _ hh h => h.of_heap hh) own started (by kernel_rfl) Tryz.func4
    (ChangeSpec.witness_at (enc := enc) (C := Tryz.checked) (os := os) (X := fun w _ => laidMetH Tryz.prog Rows.syntaxEditsRow.laid w) false (laidWorld os) #[.slice none 0 0, .int .i64 0, .slice none 0 0] 8 rfl (by kernel_rfl) (by kernel_rfl) (by kernel_rfl) (by kernel_rfl) (by kernel_rfl) (met3 os _)) ?_
  intro W base args ds gs before hval0 hW hcnd hsz0 hL _
  have hsz : (DataW.weightsEach Tryz.prog (Tryz.f4.params.toList ++ Rows.syntaxEditsSpec.plain.varTypes Tryz.prog) (ds ++ gs)).all (· ≤ reachBytes) = true := hsz0
  have hval : ∀ (j : Nat) t v, Tryz.f4.params[j]? = some t → args[j]? = some v → Value.okWide Tryz.prog W .any base t v := hval0
  have hW' := hW
  obtain ⟨p, q, hA0, hV, rfl, hfz, hnd⟩ := hW
  have hA : DataW.TrodAll enc Tryz.prog W 0 (fun _ => true) true Tryz.f4.params.toList args.toList ds p := hA0
  have hAk : DataW.TrodAll enc Tryz.prog W 0 (fun _ => true) true Tryz.f4.params.toList args.toList ds p := hA0
  rw [Tryz.params4] at hA hval hsz
  obtain ⟨v0, vs0, d0, ds0, p0, q0, hargs, rfl, rfl, h0, r0⟩ := trodAll_cons hA
  obtain ⟨v1, vs1, d1, ds1, p1, q1, rfl, rfl, rfl, h1, r1⟩ := trodAll_cons r0
  obtain ⟨v2, vs2, d2, ds2, p2, q2, rfl, rfl, rfl, h2, r2⟩ := trodAll_cons r1
  obtain ⟨rfl, rfl, rfl⟩ := trodAll_nil r2
  obtain rfl : args = #[v0, v1, v2] := by cases args; simp_all
  obtain ⟨rfl, rfl⟩ := trodVars_none hV
  have hlt : ∀ x ∈ (p0 ++ (p1 ++ (p2 ++ []))), x.block < W.heap.size := fun x hx => by simpa using hW'.lt x (by simpa using hx)
  obtain ⟨s0, n0, cap0, rfl⟩ := okWide_slice Tryz.underlying22 (hval 0 22 v0 rfl rfl)
  have z0 : IntsIn W (.slice s0 n0 cap0) n0 := by
    obtain ⟨fuel, hf⟩ := h0
    rcases open_ints Tryz.underlying22 Tryz.underlying3 cellsInt hf with ⟨hcs, hx⟩ | ⟨a, len', cap', zs, hcs, _, hl, hm, hz, hx, hcell, hwz⟩
    · simp [Value.cells] at hcs
      obtain ⟨rfl, rfl, rfl⟩ := hcs
      exact ⟨_, _, rfl, by omega, fun h => by omega⟩
    · simp [Value.cells] at hcs
      obtain ⟨rfl, rfl, rfl⟩ := hcs
      simp only [Prod.mk.injEq] at hx
      obtain ⟨rfl, rfl⟩ := hx
      simp only [if_true] at hz
      have hreach := sized_slice hsz (j := 0) (t := 22) (e := 3) rfl rfl Tryz.underlying22
      rw [bytesInt] at hreach
      simp only [lits, List.length_map, List.length_take, List.length_drop, reachBytes] at hreach
      refine ⟨_, _, rfl, by omega, fun h0 => ?_⟩
      obtain ⟨b, off, spot⟩ := a
      have hspot : spot = none := by simpa [Addr.add] using World.cell?_spot (hcell 0 (by omega))
      subst hspot
      have hc0 := hcell 0 (by omega)
      rw [add_plain] at hc0
      refine ⟨b, off, zs, rfl, World.block_lt_of_cell? _ _ hc0, fun i hi => ⟨by rw [← add_plain]; exact hcell i (by omega), ?_⟩⟩
      have hw := hwz (zs.getD i 0) (by
        have : zs.getD i 0 = zs[i]'(by omega) := by simp [List.getD, show i < zs.length by omega]
        rw [this]; exact List.getElem_mem _)
      exact ⟨(bounds_i64 hw).1, (bounds_i64 hw).2⟩
  obtain ⟨a1, rfl, rfl, rfl, w1⟩ := open_int Tryz.underlying3 (hval 1 3 v1 rfl rfl) h1
  obtain ⟨s2, l2, cap2, rfl⟩ := okWide_slice Tryz.underlying36 (hval 2 36 v2 rfl rfl)
  obtain ⟨x2, n2, k2, m2, g2, z2⟩ : ∃ x2 n2 k2 m2 g2, x2 = Value.slice s2 l2 cap2 ∧ Edt.EditsIn W x2 n2 k2 m2 g2 := by
    obtain ⟨fuel, hf⟩ := h2
    obtain ⟨v', n2, k2, m2, g2, hcs, hz⟩ := Edt.open_edits hf (Edt.light_each hsz (j := 2) rfl rfl)
    simp [Value.cells] at hcs
    exact ⟨_, n2, k2, m2, g2, rfl, by rw [hcs]; exact hz⟩
  obtain ⟨rfl, z2⟩ := z2
  clear hA0 hval0 hsz hsz0
  refine (walk_SyntaxEdits W (tab3 hL) _ n0 a1 _ n2 k2 m2 g2 z0 (bounds_i64 w1).1 (bounds_i64 w1).2 z2).mono fun e W' ⟨he, bel⟩ => ?_
  subst he
  exact ⟨_, rfl, _, _, _, [], _, [], hW', trodAll_mk1 (shut_bool Tryz.underlying4 _), carryAll laidOut bel _ _ _ _ (by kernel_rfl) hAk hlt, rfl, bel.frame _, fun h => by cases h⟩

theorem over : Rows.syntaxEditsRow.holds Tryz.pinned (OpenSpec.ofChange Rows.syntaxEditsSpec) :=
  OpenClaim.holds_of_wide 4 Tryz.f4 rfl rfl rfl rfl rfl rfl rfl ⟨rfl, rfl, rfl, rfl, rfl⟩ rfl rfl rfl rfl rfl (by kernel_rfl) Tryz.func4 (by kernel_rfl)
    (of_decide_eq_true (by kernel_rfl)) (by unfold Func.isWrapper; first | (rw [if_pos (by decide +kernel)]; kernel_rfl) | (rw [if_neg (by decide +kernel)]; exact ⟨rfl, rfl⟩))
    (fun os started H enc _ => lifted os started H enc)

/-- The statement: the tied card. -/
theorem proved : Rows.SyntaxEditsCardSaid :=
  Claim7.holds_tied_plain_at .later [] [.data, .data, .data] true (true, "64061df2e599fa1832aaf6fc638e502c15c86fc363f80b68edb7de9bf2938265") false
    over (fun _ h => by cases h) (by kernel_rfl) (fun _ h => by cases h) syntaxEdits_row_tie rfl ⟨rfl, rfl⟩ (by kernel_rfl) rfl
    (fun f fn hf hfn => by
      obtain rfl : f = 4 := Option.some.inj ((show Tryz.prog.funcNamed "pension/pensionlaw6.SyntaxEdits" = some 4 by kernel_rfl).symm.trans hf) |>.symm
      obtain rfl : fn = Tryz.f4 := (Option.some.inj (Tryz.func4.symm.trans hfn)).symm
      refine ⟨by kernel_rfl, fun j t ht => ?_⟩
      rw [Tryz.params4] at ht
      have hm : t ∈ [22, 3, 36] := by
        have := Array.mem_of_getElem? ht
        simpa using this
      have hall : ([22, 3, 36] : List TypeId).all (fun t => !Tryz.prog.wantsStandIn t) = true := by kernel_rfl
      have := List.all_eq_true.1 hall t hm
      exact (show Tryz.prog.wantsStandIn t = false by simpa using this))
    (by kernel_rfl)
#print axioms proved
end Go.Proofs.YtkghmghjgikihaaGreatDoor.syntaxEdits

/- Bundle of texts: each says at its head what it proves; no conditions but those printed. -/
import Derived.Test.YtkghmghjgikihaaGreatDoorKB26
import Derived.Great.Walk
import Derived.Test.YtkghmghjgikihaaGreatDoorKB28
import Derived.Test.YtkghmghjgikihaaGreatDoorKB23
import Derived.Test.YtkghmghjgikihaaGreatDoorKB25
import Derived.Test.YtkghmghjgikihaaGreatDoorKB14
import Derived.Test.YtkghmghjgikihaaGreatDoorKB15
/- Contract of the environment of the made expressions. No conditions but those printed. -/
namespace Go.Proofs.YtkghmghjgikihaaGreatDoor
open Go.RowKit Cal Str Tok Frac Txt Tree
attribute [local go_sem] calmUpon
set_option linter.unusedVariables false
set_option linter.unusedSimpArgs false
def nmE (i : Nat) : ByteArray := if i = 0 then ⟨#[97]⟩ else if i = 1 then ⟨#[98]⟩ else if i = 2 then ⟨#[99]⟩ else ⟨#[120]⟩
def dmE (i : Nat) : Int := if i = 0 then 2 else if i = 1 then 3 else if i = 2 then 4 else 1
theorem envG_E : EnvG nmE dmE 4 := by
 refine ⟨fun i hi => ?_, fun i hi => ?_, fun i hi => ?_, fun i j hi hj e => ?_⟩
 ·rcases (show i = 0 ∨ i = 1 ∨ i = 2 ∨ i = 3 by omega) with rfl | rfl | rfl | rfl <;> decide
 ·rcases (show i = 0 ∨ i = 1 ∨ i = 2 ∨ i = 3 by omega) with rfl | rfl | rfl | rfl <;> kernel_rfl
 ·rcases (show i = 0 ∨ i = 1 ∨ i = 2 ∨ i = 3 by omega) with rfl | rfl | rfl | rfl <;> kernel_rfl
 ·rcases (show i = 0 ∨ i = 1 ∨ i = 2 ∨ i = 3 by omega) with rfl | rfl | rfl | rfl <;> rcases (show j = 0 ∨ j = 1 ∨ j = 2 ∨ j = 3 by omega) with rfl | rfl | rfl | rfl <;> first | rfl | (exfalso; simp [nmE] at e)
def EnvRes (w : World) (e : Ending) (w' : World) : Prop := ∃ g, e = .returned (.slice (some ⟨g, 0, none⟩) 4 4) ∧ EnvAt w' 4 nmE dmE (some ⟨g, 0, none⟩) ∧ Rel w w'
theorem env_new (w : World) (T : TypeId) : EnvAt (w.alloc (.cells #[.string ⟨#[97]⟩, .int .i64 2, .string ⟨#[98]⟩, .int .i64 3, .string ⟨#[99]⟩, .int .i64 4, .string ⟨#[120]⟩, .int .i64 1] T)) 4 nmE dmE (some ⟨w.heap.size, 0, none⟩) := fun _ => by
 refine ⟨w.heap.size, 0, rfl, by simp, fun i hi => ?_⟩
 rcases (show i = 0 ∨ i = 1 ∨ i = 2 ∨ i = 3 by omega) with rfl | rfl | rfl | rfl <;> exact ⟨by simp [nmE], by simp [dmE], by decide, by decide, by decide⟩
set_option maxHeartbeats 4000000 in
theorem env_any (w : World) : Calls Tryz.prog 20 #[] w (EnvRes w) := by
 unfold EnvRes
 go_enter Tryz.func20, Tryz.ntmps20
 go_wp2
 refine bodyPost_ret (v := .slice (some ⟨w.heap.size, 0, none⟩) 4 4) ?_ rfl ⟨w.heap.size, rfl, env_new w _, (Rel.refl _).alloc _⟩
 simp [results, Tryz.results20, go_sem]
end Go.Proofs.YtkghmghjgikihaaGreatDoor

/- Walk of the law SyntaxBack. No conditions but those printed. -/
namespace Go.Proofs.YtkghmghjgikihaaGreatDoor
open Go.RowKit Cal Str Tok Frac Txt Tree
attribute [local go_sem] calmUpon
set_option linter.unusedVariables false
set_option linter.unusedSimpArgs false
theorem intsS {w w' : World} {v : Value} {n : Nat} (h : IntsIn w v n) (r : Rel w w') : IntsIn w' v n := by
 obtain ⟨a0, cap, rfl, hn, hc⟩ := h
 refine ⟨a0, cap, rfl, hn, fun h0 => ?_⟩
 obtain ⟨b, off, zs, rfl, hb, hz⟩ := hc h0
 exact ⟨b, off, zs, rfl, Nat.lt_of_lt_of_le hb r.size, fun j hj => ⟨r.cell (hz j hj).1, (hz j hj).2⟩⟩
theorem fmt_valid {t : Ex} (h : t.valid = true) : Ex.fmt t = t.put 0 := by unfold Ex.fmt; rw [if_pos h]
set_option maxRecDepth 20000 in
set_option maxHeartbeats 8000000 in
theorem walk_SyntaxBack (w : World) (ht : TabW w) (a0 : Value) (n0 : Nat) (a1 : Int) (b0 : IntsIn w a0 n0) (b1 : -9223372036854775808 ≤ a1) (c1 : a1 ≤ 9223372036854775807) :
  Calls Tryz.prog 8 #[a0, .int .i64 a1] w (BRes true w) := by
 obtain ⟨s0, p0, rfl, hn0, -⟩ := id b0
 have HT := Lib.hid ht
 have B0 := Lib.hid b0
 clear ht b0
 unfold BRes
 by_cases h2 : 200 < n0
 ·have e1 : decide ((200 : Int) < (n0 : Int)) = true := decide_eq_true (by omega)
  go_enter Tryz.func8, Tryz.ntmps8
  go_wp2
  go_ret
  exact ⟨rfl, by (show Rel _ _; repeat (first | with_reducible exact Rel.refl _ | with_reducible refine Rel.alloc ?_ _ | with_reducible refine Rel.setCell ?_ (by first | (simp; done) | (simp; omega)) _ | with_reducible refine Rel.drew ?_ | with_reducible refine Rel.trans ?_ H0.out))⟩
 ·have e1 : decide ((200 : Int) < (n0 : Int)) = false := decide_eq_false (by omega)
  have P1 := Lib.hid fun w => pick_any a1 4 w b1 c1 (by decide) (by decide)
  obtain ⟨y, hy, hy0, hy4⟩ : ∃ y, a1 % 4 = y ∧ 0 ≤ y ∧ y < 4 := ⟨_, rfl, by omega, by omega⟩
  rw [hy] at P1
  obtain ⟨dim, hdim⟩ : ∃ dim, 1 + y = dim := ⟨_, rfl⟩
  have wy : IntKind.i64.wrap (1 + y) = dim := by rw [← hdim]; exact IntWalk.i64_in _ ⟨by omega, by omega⟩
  have dim1 : 1 ≤ dim := by omega
  have dim4 : dim ≤ 4 := by omega
  clear hy hdim
  go_enter Tryz.func8, Tryz.ntmps8
  go_wp2_with fail
  refine (P1.out _).mono ?_
  rintro e w1 ⟨rfl, rfl⟩
  go_wp2_with fail
  refine (env_any _).mono ?_
  unfold EnvRes
  rintro e w1 ⟨g, rfl, hE, h1⟩
  have R1 := Lib.hid h1
  have E1 := Lib.hid hE
  clear h1 hE wy
  go_wp2_with fail
  refine (Expr_any _ n0 dim _ 4 4 nmE dmE _ (intsS B0.out R1.out) E1.out (by omega) envG_E ⟨dim1, dim4⟩).mono ?_
  unfold TyRes
  rintro e w2 ⟨t, x, rfl, hK, hz, h2', hT⟩
  obtain ⟨xa, xc, rfl⟩ := kids_slice (kidsB_to hK)
  have HK := Lib.hid (kidsB_to hK)
  have R2 := Lib.hid (R1.out.trans h2')
  have HV := Lib.hid hT.1
  clear hK h2' hT
  have BT := Lib.hid (BoxAt.new (w := w2) (g := w2.heap.size) rfl (.int .i64 t.op) (.int .i64 t.va) (.int .i64 t.vb) (.int .i64 t.dm) (.string t.nm) (.slice xa t.cnt xc) 29)
  obtain ⟨X, hX⟩ : ∃ X, w2.alloc (.cells #[.int .i64 t.op, .int .i64 t.va, .int .i64 t.vb, .int .i64 t.dm, .string t.nm, .slice xa t.cnt xc] 29) = X := ⟨_, rfl⟩
  have RX : Rel w2 X := by rw [← hX]; exact (Rel.refl _).alloc _
  rw [hX] at BT
  have bt := BT.out
  have RXw := Lib.hid (R2.out.trans RX)
  have TX := Lib.hid (HT.out.rel RXw.out)
  have KT := Lib.hid (kids_rel HK.out RX)
  have V1 := Lib.hid fun w' (r : Rel X w') => FormatExpr_any t _ w' (kids_rel KT.out r) (by omega) (Lib.hid (TX.out.rel r))
  unfold SbRes at V1
  rw [fmt_valid HV.out, HV.out] at V1
  have zS := put_size (valid_form HV.out).1 hz 0
  obtain ⟨f, hs, hp⟩ := prV_put HV.out
  have Q1 := Lib.hid fun w' (r : Rel X w') => ParseExpr_any (t.put 0) w' (by omega) (Lib.hid (TX.out.rel r))
  rw [hp] at Q1
  unfold PxRes at Q1
  dsimp only at Q1
  have HS := Lib.hid hs
  have A0 := Lib.hid fun w' (r : Rel X w') => awake_any w' (TX.out.rel r)
  unfold BRes at A0
  obtain ⟨S, hS⟩ : ∃ v, t.put 0 = v := ⟨_, rfl⟩
  rw [hS] at V1 Q1
  have c0 := bt.c0
  have c1 := bt.c1
  have c2 := bt.c2
  have c3 := bt.c3
  have c4 := bt.c4
  have c5 := bt.c5
  clear hS hz hs hp zS HV
  go_wp2_with fail
  refine (V1.out _ (Rel.refl _)).mono ?_
  rintro e w3 ⟨rfl, h3⟩
  have R3 := Lib.hid h3
  clear h3 c0 c1 c2 c3 c4 c5
  go_wp2_with fail
  refine (Q1.out _ R3.out).mono ?_
  rintro e w4 ⟨z, rfl, hU, h4⟩
  obtain ⟨za, zc, rfl⟩ := kids_slice hU
  have HU := Lib.hid hU
  have R4 := Lib.hid (R3.out.trans h4)
  clear hU h4
  have BU := Lib.hid (BoxAt.new (w := w4) (g := w4.heap.size) rfl (.int .i64 f.op) (.int .i64 f.va) (.int .i64 f.vb) (.int .i64 f.dm) (.string f.nm) (.slice za f.cnt zc) 29)
  obtain ⟨Y, hY⟩ : ∃ Y, w4.alloc (.cells #[.int .i64 f.op, .int .i64 f.va, .int .i64 f.vb, .int .i64 f.dm, .string f.nm, .slice za f.cnt zc] 29) = Y := ⟨_, rfl⟩
  have RY : Rel w4 Y := by rw [← hY]; exact (Rel.refl _).alloc _
  rw [hY] at BU
  have RXY := Lib.hid (R4.out.trans RY)
  have KU := Lib.hid (kids_rel HU.out RY)
  have KT' := Lib.hid (kids_rel KT.out RXY.out)
  have S1 := Lib.hid fun w' (r : Rel Y w') => Same_any t f _ _ w' (kids_rel KT'.out r) (kids_rel KU.out r)
  have S2 := Lib.hid fun w' (r : Rel Y w') => rSame_any t f _ _ w' (kids_rel KT'.out r) (kids_rel KU.out r)
  rw [HS.out] at S1 S2
  unfold BRes at S1 S2
  have A1 := Lib.hid fun w' (r : Rel Y w') => A0.out w' (RXY.out.trans r)
  have c0 := RXY.out.cell bt.c0
  have c1 := RXY.out.cell bt.c1
  have c2 := RXY.out.cell bt.c2
  have c3 := RXY.out.cell bt.c3
  have c4 := RXY.out.cell bt.c4
  have c5 := RXY.out.cell bt.c5
  have bu := BU.out
  have BT' := Lib.hid bt
  clear A0 V1 Q1 bt
  go_wp2_with fail
  (try rw [hY])
  clear hY RY
  refine (A1.out _ (Rel.refl _)).mono ?_
  rintro e w5 ⟨rfl, h5⟩
  have k0 := h5.cell c0
  have k1 := h5.cell c1
  have k2 := h5.cell c2
  have k3 := h5.cell c3
  have k4 := h5.cell c4
  have k5 := h5.cell c5
  have d0 := h5.cell bu.c0
  have d1 := h5.cell bu.c1
  have d2 := h5.cell bu.c2
  have d3 := h5.cell bu.c3
  have d4 := h5.cell bu.c4
  have d5 := h5.cell bu.c5
  have R5 := Lib.hid h5
  clear h5
  go_wp2_with fail
  refine (S1.out _ R5.out).mono ?_
  rintro e w6 ⟨rfl, h6⟩
  have R6 := Lib.hid (R5.out.trans h6)
  have k0 := h6.cell k0
  have k1 := h6.cell k1
  have k2 := h6.cell k2
  have k3 := h6.cell k3
  have k4 := h6.cell k4
  have k5 := h6.cell k5
  have d0 := h6.cell d0
  have d1 := h6.cell d1
  have d2 := h6.cell d2
  have d3 := h6.cell d3
  have d4 := h6.cell d4
  have d5 := h6.cell d5
  clear h6
  go_wp2_with fail
  refine (S2.out _ R6.out).mono ?_
  rintro e w7 ⟨rfl, h7⟩
  have R7 := Lib.hid (R6.out.trans h7)
  clear h7
  go_wp2
  go_ret
  exact ⟨ret_b2 (by simp), (RXw.out.trans RXY.out).trans R7.out⟩
end Go.Proofs.YtkghmghjgikihaaGreatDoor

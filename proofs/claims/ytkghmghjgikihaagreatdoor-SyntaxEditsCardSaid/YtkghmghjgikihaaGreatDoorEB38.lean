/- Bundle of texts: each says at its head what it proves; no conditions but those printed. -/
import Derived.Test.YtkghmghjgikihaaGreatDoorEB29
import Derived.Test.YtkghmghjgikihaaGreatDoorEB23
import Derived.Test.YtkghmghjgikihaaGreatDoorEB35
import Derived.Test.YtkghmghjgikihaaGreatDoorEB37
import Derived.Test.YtkghmghjgikihaaGreatDoorEB14
import Derived.Test.YtkghmghjgikihaaGreatDoorEB15
namespace Go.Proofs.YtkghmghjgikihaaGreatDoor
open Go.RowKit Cal Str Tok Frac Txt Tree Edt
attribute [local go_sem] calmUpon
set_option linter.unusedVariables false
set_option linter.unusedSimpArgs false
set_option maxRecDepth 20000 in
set_option maxHeartbeats 8000000 in
theorem walk_SyntaxEdits (w : World) (ht : TabW w) (a0 : Value) (n0 : Nat) (a1 : Int) (a2 : Value) (n2 : Nat) (x2 y2 z2 : Nat → Int) (b0 : IntsIn w a0 n0) (b1 : -9223372036854775808 ≤ a1) (c1 : a1 ≤ 9223372036854775807) (b2 : EditsIn w a2 n2 x2 y2 z2) :
  Calls Tryz.prog 4 #[a0, .int .i64 a1, a2] w (BRes true w) := by
 obtain ⟨s0, p0, rfl, hn0, -⟩ := id b0;obtain ⟨ed, ecap, rfl, hn2, hE2⟩ := b2;have HE2 := Hj hE2;have HT := Hj ht;have B0 := Hj b0;clear ht b0 hE2;unfold BRes;by_cases h2 : 200 < n0
 ·have e1 : decide ((200 : Int) < (n0 : Int)) = true := dT (by omega);go_enter Tryz.func4, Tryz.ntmps4;go_wp2;go_ret;exact ⟨rfl, by (show Rel _ _; repeat (first | with_reducible exact Rel.refl _ | with_reducible refine Rel.alloc ?_ _ | with_reducible refine Rel.setCell ?_ (by first | (simp; done) | (simp; omega)) _ | with_reducible refine Rel.drew ?_ | with_reducible refine Rel.trans ?_ H0.out))⟩
 ·have e1 : decide ((200 : Int) < (n0 : Int)) = false := dF (by omega);have P1 := Hj fun w => pick_any a1 4 w b1 c1 (by decide) (by decide)
  obtain ⟨y, hy, hy0, hy4⟩ : ∃ y, a1 % 4 = y ∧ 0 ≤ y ∧ y < 4 := ⟨_, rfl, by omega, by omega⟩;rw [hy] at P1;obtain ⟨dim, hdim⟩ : ∃ dim, 1 + y = dim := ⟨_, rfl⟩;have wy : IntKind.i64.wrap (1 + y) = dim := by rw [← hdim]; exact IntWalk.i64_in _ ⟨by omega, by omega⟩
  have dim1 : 1 ≤ dim := by omega
  have dim4 : dim ≤ 4 := by omega
  clear hy hdim;go_enter Tryz.func4, Tryz.ntmps4;go_wp2_with fail;refine (P1.out _).mono ?_;rintro e w1 ⟨rfl, rfl⟩;go_wp2_with fail;refine (env_any _).mono ?_;unfold EnvRes;rintro e w1 ⟨g, rfl, hE, h1⟩;have R1 := Hj h1;have E1 := Hj hE;clear h1 hE wy;go_wp2_with fail;refine (Expr_any _ n0 dim _ 4 4 nmE dmE _ (intsS B0.out R1.out) E1.out (by omega) envG_E ⟨dim1, dim4⟩).mono ?_;unfold TyRes;rintro e w2 ⟨t, x, rfl, hK, hz, h2', hT⟩;obtain ⟨xa, xc, rfl⟩ := kids_slice (kidsB_to hK);have HK := Hj (kidsB_to hK);have R2 := Hj (R1.out.trans h2');have HV := Hj hT.1;clear hK h2' hT;have V1 := Hj (rFormatExpr_any t _ w2 HK.out (by omega));unfold SbRes at V1;rw [fmt_valid HV.out, HV.out] at V1;have zS := put_size (valid_form HV.out).1 hz 0;obtain ⟨S0, hS0⟩ : ∃ v, t.put 0 = v := ⟨_, rfl⟩;rw [hS0] at V1 zS;clear hS0 hz HV;go_wp2_with fail;refine (V1.out).mono ?_;rintro e w7 ⟨rfl, h7⟩;have R6 : Hid (Rel w w7) := R2.out.trans h7;clear h7 V1;go_wp2_with fail;refine (change_any S0 ed n2 ecap x2 y2 z2 _ zS hn2 (edits_rel HE2.out R6.out)).mono ?_;unfold SomeStr;rintro e w8 ⟨S, rfl, hSz, h8⟩;have R7 := Hj (R6.out.trans h8);have hsz : S.size ≤ 140737488355328 := by omega
  clear h8;obtain ⟨f, x, c, hp⟩ : ∃ f x c, prV S = (f, x, c) := ⟨_, _, _, rfl⟩;have TW := Hj (HT.out.rel R7.out);have Q1 := Hj fun w' (r : Rel w8 w') => ParseExpr_any S w' hsz (Hj (TW.out.rel r))
  have Q2 := Hj fun w' => rParseExpr_any S w' hsz
  rw [hp] at Q1 Q2;unfold PxRes at Q1 Q2;dsimp only at Q1 Q2;have A0 := Hj fun w' (r : Rel w8 w') => awake_any w' (TW.out.rel r)
  unfold BRes at A0;clear hp;go_wp2_with fail;refine (Q1.out _ (Rel.refl _)).mono ?_;rintro e w3 ⟨z, rfl, hU, h3⟩;obtain ⟨xa, xc, rfl⟩ := kids_slice hU;have BT := Hj (BoxAt.new (w := w3) (g := w3.heap.size) rfl (.int .i64 f.op) (.int .i64 f.va) (.int .i64 f.vb) (.int .i64 f.dm) (.string f.nm) (.slice xa f.cnt xc) 29);obtain ⟨X, hX⟩ : ∃ X, w3.alloc (.cells #[.int .i64 f.op, .int .i64 f.va, .int .i64 f.vb, .int .i64 f.dm, .string f.nm, .slice xa f.cnt xc] 29) = X := ⟨_, rfl⟩;have RX : Rel w3 X := by rw [← hX]; exact (Rel.refl _).alloc _
  rw [hX] at BT;have HX := Hj hX;have KX := Hj (kids_rel hU RX);have R3 := Hj (h3.trans RX);clear hU h3 RX;go_wp2_with fail;(try rw [HX.out]);clear hX HX;refine (Q2.out _).mono ?_;rintro e w4 ⟨z, rfl, hU, h4⟩;obtain ⟨ya, yc, rfl⟩ := kids_slice hU;have BU := Hj (BoxAt.new (w := w4) (g := w4.heap.size) rfl (.int .i64 f.op) (.int .i64 f.va) (.int .i64 f.vb) (.int .i64 f.dm) (.string f.nm) (.slice ya f.cnt yc) 29);obtain ⟨Y, hY⟩ : ∃ Y, w4.alloc (.cells #[.int .i64 f.op, .int .i64 f.va, .int .i64 f.vb, .int .i64 f.dm, .string f.nm, .slice ya f.cnt yc] 29) = Y := ⟨_, rfl⟩;have RY : Rel w4 Y := by rw [← hY]; exact (Rel.refl _).alloc _
  rw [hY] at BU;have HY := Hj hY;have KY := Hj (kids_rel hU RY);have RXY := Hj (h4.trans RY);have BT' := Hj (BT.out.rel RXY.out);have KX' := Hj (kids_rel KX.out RXY.out);have R4 := Hj (R3.out.trans RXY.out);clear hU h4 RY;have S2 := Hj fun w' (r : Rel Y w') => rSame_any f f _ _ w' (kids_rel KX'.out r) (kids_rel KY.out r)
  rw [same_refl] at S2;unfold BRes at S2;go_wp2_with fail;(try rw [HY.out]);clear hY HY;refine (A0.out _ R4.out).mono ?_;rintro e w5 ⟨rfl, h5⟩;obtain ⟨el, c0, c1, c2, c3, c4, c5, -⟩ := BT'.out.rel h5;obtain ⟨el', d0, d1, d2, d3, d4, d5, -⟩ := BU.out.rel h5;have R5 := Hj h5;clear h5;go_wp2_with fail;refine (S2.out _ R5.out).mono ?_;rintro e w6 ⟨rfl, h6⟩;have R6 := Hj (R4.out.trans (R5.out.trans h6));clear h6;go_wp2;go_ret;exact ⟨ret_b2 (by simp), (R7.out).trans R6.out⟩
end Go.Proofs.YtkghmghjgikihaaGreatDoor

/- Lemmas, each as it is printed; no conditions but those printed. -/
import Derived.Test.YthmlhheceihcbaaGreatDoorPB26
import Derived.Test.YthmlhheceihcbaaGreatDoorPB27
import Derived.Test.YthmlhheceihcbaaGreatDoorPB30
import Derived.Test.YthmlhheceihcbaaGreatDoorPB41
import Derived.Test.YthmlhheceihcbaaGreatDoorPB38
import Derived.Test.YthmlhheceihcbaaGreatDoorPB48
import Derived.Test.YthmlhheceihcbaaGreatDoorPB47
namespace Go.Proofs.YthmlhheceihcbaaGreatDoor
set_option maxHeartbeats 16000000
open Go.RowKit Cal Str Tok Frac Txt Tree Edt Go.Proofs.Tryz
attribute [local go_sem] calmUpon
set_option linter.unusedVariables false
set_option linter.unusedSimpArgs false
set_option maxRecDepth 20000 in
theorem walk_StatuteParses (w : World) (ht : TabW w) (a0 : Value) (n0 : Nat) (rs : Nat -> RawV) (a1 : Int) (a2 : Value) (n2 : Nat) (x2 y2 z2 : Nat -> Int) (a3 : ByteArray) (a4 : Bool) (b0 : RawsIn w a0 n0 rs) (b1 : -9223372036854775808 <= a1) (c1 : a1 <= 9223372036854775807) (b2 : EditsIn w a2 n2 x2 y2 z2) (d3 : a3.size <= 140737488355328) :
  Calls prog 3 #[a0, .int .i64 a1, a2, .string a3, .bool a4] w (BRes true w) := by
 obtain ⟨s0, p0, rfl, -, -⟩ := id b0;obtain ⟨ed, ecap, rfl, hn2, hE2⟩ := b2;have HE2 := Hj hE2;have HT := Hj ht;have B0 := Hj b0;clear ht b0 hE2;unfold BRes;by_cases h2 : 3 < n0
 ·have e1 : decide ((3 : Int) < (n0 : Int)) = true := dT (by omega);go_enter func3, ntmps3;go_wp2;go_ret;exact ⟨rfl, Rel.refl _⟩
 have e1 : decide ((3 : Int) < (n0 : Int)) = false := dF (by omega);cases a4
 go_enter func3, ntmps3;go_wp2_with fail;refine (s_Statute w B0.out ⟨b1, c1⟩).mono ?_;unfold StX;rintro e w1 ⟨s, rfl, hS, h1⟩;have SA := Hj (StaB.at hS);have R1 := Hj h1;clear hS h1;go_wp2_with fail;refine (rFormat_some s w1 SA.out (Hj fun w' r => rValid_any s w' (StaB.rel SA.out r))).mono ?_;rintro e w2 ⟨T, b, rfl, hT, h2'⟩;have R2 := Hj (R1.out.trans h2');clear h2';go_wp2_with fail;refine (change_any T ed n2 ecap x2 y2 z2 _ hT hn2 (edits_rel HE2.out R2.out)).mono ?_;unfold SomeStr;rintro e w3 ⟨S, rfl, hz', h3⟩;have RX := Hj (R2.out.trans h3);have hz : S.size <= 140737488355328 := by omega
 clear h3 hz' R1 R2;go_wp2_with fail
 rotate_left
 go_enter func3, ntmps3;go_wp2_with fail;obtain ⟨S, rfl⟩ : ∃ S, S = a3 := ⟨_, rfl⟩;have hz := d3;obtain ⟨w3, hw3⟩ : ∃ X, X = w := ⟨_, rfl⟩;have RX : Hid (Rel w w3) := by rw [hw3]; exact Rel.refl _
 rw [<- hw3];clear hw3
 rotate_left
 all_goals
  have TW := Hj (HT.out.rel RX.out);have Q1 := Hj (sParse_core S w3 hz TW.out (Hj sValid_any));have Q2 := Hj fun w' => rParse_core S w' hz (Hj rValid_any)
  obtain ⟨V, hV⟩ : ∃ V, staV S = V := ⟨_, rfl⟩;rw [hV] at Q1 Q2;obtain ⟨st, at', er⟩ := V;unfold PaRes at Q1;unfold RPaRes at Q2;dsimp only at Q1 Q2;clear hV;refine Q1.out.mono ?_;rintro e w4 ⟨s1, rfl, hp1, hs1, h4⟩;have A1 := Hj (StaB.at hs1);have P1 := Hj hp1;obtain ⟨nm, cu, vs, ad, cp⟩ := s1;have B1 := Hj (Blk.new w4 28 #[.string nm, .int .i64 cu, .slice ad vs.length cp]);have R4 := Hj (h4.alloc (.cells #[.string nm, .int .i64 cu, .slice ad vs.length cp] 28));have A1' := Hj (StaB.rel A1.out ((Rel.refl w4).alloc (.cells #[.string nm, .int .i64 cu, .slice ad vs.length cp] 28)));obtain ⟨X, hX⟩ : ∃ X, w4.alloc (.cells #[.string nm, .int .i64 cu, .slice ad vs.length cp] 28) = X := ⟨_, rfl⟩;rw [hX] at B1 R4 A1';obtain ⟨g1, hg1⟩ : ∃ g, w4.heap.size = g := ⟨_, rfl⟩;rw [hg1] at B1;unfold StaM.val;dsimp only;clear hp1 hs1 h4 A1 Q1;go_wp2_with fail;(try rw [hX]);(try rw [hg1]);clear hX hg1;refine (Q2.out X).mono ?_;rintro e w5 ⟨s2, rfl, hp2, hs2, h5⟩;have A2 := Hj (StaB.at hs2);have P2 := Hj hp2;obtain ⟨nm', cu', vs', ad', cp'⟩ := s2;have B2 := Hj (Blk.new w5 28 #[.string nm', .int .i64 cu', .slice ad' vs'.length cp']);have R5 := Hj (h5.alloc (.cells #[.string nm', .int .i64 cu', .slice ad' vs'.length cp'] 28));have A2' := Hj (StaB.rel A2.out ((Rel.refl w5).alloc (.cells #[.string nm', .int .i64 cu', .slice ad' vs'.length cp'] 28)));obtain ⟨Y, hY⟩ : ∃ Y, w5.alloc (.cells #[.string nm', .int .i64 cu', .slice ad' vs'.length cp'] 28) = Y := ⟨_, rfl⟩;rw [hY] at B2 R5 A2';obtain ⟨g2, hg2⟩ : ∃ g, w5.heap.size = g := ⟨_, rfl⟩;rw [hg2] at B2;unfold StaM.val;dsimp only;clear hp2 hs2 h5 A2 Q2;go_wp2_with fail;(try rw [hY]);(try rw [hg2]);clear hY hg2;refine (awake_any Y (TW.out.rel (R4.out.trans R5.out))).mono ?_;unfold BRes;rintro e w6 ⟨rfl, h6⟩;have C1 := B1.out.rel (R5.out.trans h6);have C2 := B2.out.rel h6;have c0 := C1.c (j := 0) rfl;have c1 := C1.c (j := 1) rfl;have c2 := C1.c (j := 2) rfl;have c3 := C2.c (j := 0) rfl;have c4 := C2.c (j := 1) rfl;have c5 := C2.c (j := 2) rfl;have cl := C1.lt;have cm := C2.lt;have SM := Hj (rSame_eq ⟨nm, cu, vs, ad, cp⟩ ⟨nm', cu', vs', ad', cp'⟩ w6 (StaB.rel A1'.out (R5.out.trans h6)) (StaB.rel A2'.out h6) (P1.out.trans P2.out.symm));unfold BRes StaM.val at SM;dsimp only at SM;have R6 := Hj (RX.out.trans ((R4.out.trans R5.out).trans h6));clear C1 C2 h6 P1 P2;go_wp2_with fail;refine SM.out.mono ?_;rintro e w7 ⟨rfl, h7⟩;go_wp2;go_ret;exact ⟨by simp, R6.out.trans h7⟩
end Go.Proofs.YthmlhheceihcbaaGreatDoor

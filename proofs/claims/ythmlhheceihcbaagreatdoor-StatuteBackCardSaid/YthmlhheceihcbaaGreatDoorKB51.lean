/- Lemmas, each as it is printed; no conditions but those printed. -/
import Derived.Test.YthmlhheceihcbaaGreatDoorKB27
import Derived.Test.YthmlhheceihcbaaGreatDoorKB31
import Derived.Test.YthmlhheceihcbaaGreatDoorKB42
import Derived.Test.YthmlhheceihcbaaGreatDoorKB39
import Derived.Test.YthmlhheceihcbaaGreatDoorKB50
namespace Go.Proofs.YthmlhheceihcbaaGreatDoor
set_option maxHeartbeats 16000000
open Go.RowKit Cal Str Tok Frac Txt Tree Go.Proofs.Tryz
attribute [local go_sem] calmUpon
set_option linter.unusedVariables false
set_option linter.unusedSimpArgs false
noncomputable def staF (s : StaM) : ByteArray := if s.pl.valid = true then staT s else ⟨#[]⟩
set_option maxRecDepth 20000 in
theorem rFormat_all (s : StaM) (w : World) (hV : StaAt w s) :
  Calls prog 5 #[s.val] w (fun e w1 => e = .returned (.tuple #[.string (staF s), .bool s.pl.valid]) /\ (staF s).size <= 1000000 /\ Rel w w1) := by
 have HV := Hj fun w' (r : Rel w w') => rValid_any s w' (StaB.rel hV r)
 unfold BRes at HV;unfold staF
 cases hv : s.pl.valid
 ·rw [hv] at HV;obtain ⟨nm, cur, vs, ad, cap⟩ := s;have R0 := Hj ((Rel.refl w).alloc (.cells #[.string nm, .int .i64 cur, .slice ad vs.length cap] 28));unfold StaM.val at HV |-;dsimp only at HV |-;clear hv hV;go_enter func5, ntmps5;go_wp2_with fail;refine (HV.out _ R0.out).mono ?_;rintro e w1 ⟨rfl, h1⟩;go_wp2;refine bodyPost_ret (v := .tuple #[.string ⟨#[]⟩, .bool false]) ?_ rfl ⟨rfl, R0.out.trans h1⟩;simp [results, results5, go_sem]
 ·rw [hv] at HV;exact rFormat_core s w hV hv HV
theorem staF_back {w : World} {s : StaM} (hS : StaAt w s) (hv : s.pl.valid = true) (hz : (staF s).size <= 8000) : ∃ t, StaAt w t /\ s.val = t.val /\ staV (staF s) = (t.pl, 0, 0) := by
 unfold staF at hz |-;rw [if_pos hv] at hz |-;obtain ⟨t, ht, -, h⟩ := staV_back hv hz;obtain ⟨h1, h2⟩ := StaB.same ht hS;exact ⟨t, h1, h2, h⟩
set_option maxRecDepth 20000 in
theorem walk_StatuteBack (w : World) (ht : TabW w) (a0 : Value) (n0 : Nat) (rs : Nat -> RawV) (a1 : Int) (b0 : RawsIn w a0 n0 rs) (b1 : -9223372036854775808 <= a1) (c1 : a1 <= 9223372036854775807) :
  Calls prog 4 #[a0, .int .i64 a1] w (BRes true w) := by
 obtain ⟨s0, p0, rfl, -, -⟩ := id b0;have HT := Hj ht;have B0 := Hj b0;clear ht b0;unfold BRes;by_cases h2 : 4 < n0
 ·have e1 : decide ((4 : Int) < (n0 : Int)) = true := dT (by omega);go_enter func4, ntmps4;go_wp2;go_ret;exact ⟨rfl, Rel.refl _⟩
 have e1 : decide ((4 : Int) < (n0 : Int)) = false := dF (by omega);go_enter func4, ntmps4;go_wp2_with fail;refine (s_Statute w B0.out ⟨b1, c1⟩).mono ?_;unfold StX;rintro e w1 ⟨s, rfl, hS, h1⟩;have SA := Hj (StaB.at hS);have R1 := Hj h1;clear hS h1;have FF := Hj fun w' (r : Rel w1 w') => sFormat_any s w' (StaB.rel SA.out r) (HT.out.rel (R1.out.trans r)) (Hj sValid_any)
 have GG := Hj fun w' (r : Rel w1 w') => rFormat_all s w' (StaB.rel SA.out r)
 have FB := Hj fun w' (r : Rel w1 w') => staF_back (StaB.rel SA.out r)
 rw [show (if s.pl.valid = true then staT s else ⟨#[]⟩) = staF s from rfl] at FF;obtain ⟨V, hV⟩ : ∃ v, s.pl.valid = v := ⟨_, rfl⟩;obtain ⟨F, hF⟩ : ∃ v, staF s = v := ⟨_, rfl⟩;rw [hV, hF] at FF GG FB;clear hV hF;obtain ⟨sv, hsv⟩ : ∃ v, s.val = v := ⟨_, rfl⟩;have XA := Hj hsv;have XB := Hj hsv;obtain ⟨nm, cu, vs, ad, cp⟩ := s;unfold StaM.val at hsv;dsimp only at hsv;rw [<- hsv] at XB;rw [XA.out, <- hsv] at FF GG FB;rw [XA.out, <- hsv];clear hsv XA;have B1 := Hj (Blk.new w1 28 #[.string nm, .int .i64 cu, .slice ad vs.length cp]);have RB := Hj ((Rel.refl w1).alloc (.cells #[.string nm, .int .i64 cu, .slice ad vs.length cp] 28));obtain ⟨X, hX⟩ : ∃ X, w1.alloc (.cells #[.string nm, .int .i64 cu, .slice ad vs.length cp] 28) = X := ⟨_, rfl⟩;rw [hX] at B1 RB;obtain ⟨g1, hg1⟩ : ∃ g, w1.heap.size = g := ⟨_, rfl⟩;rw [hg1] at B1;have k0 := B1.out.c (j := 0) rfl;have k1 := B1.out.c (j := 1) rfl;have k2 := B1.out.c (j := 2) rfl;have kl := B1.out.lt;go_wp2_with fail;(try rw [hX]);(try rw [hg1]);clear hX hg1;refine (FF.out _ RB.out).mono ?_;rintro e w2 ⟨rfl, h2⟩;have C1 := B1.out.rel h2;have c0 := C1.c (j := 0) rfl;have c1' := C1.c (j := 1) rfl;have c2 := C1.c (j := 2) rfl;have cl := C1.lt;clear k0 k1 k2 kl;have RW := Hj h2;replace h2 := RB.out.trans h2;have R2 := Hj h2;clear h2 FF;go_wp2_with fail;refine (GG.out _ R2.out).mono ?_;rintro e w3 ⟨rfl, hz, h3⟩;have R3 := Hj (R2.out.trans h3);have R3' := Hj h3;have HZ := Hj hz;clear h3 R2 hz GG;go_wp2_with fail;refine (awake_any w3 (HT.out.rel (R1.out.trans R3.out))).mono ?_;unfold BRes;rintro e w4 ⟨rfl, h4⟩;have R4 := Hj (R3.out.trans h4);have C2 := Hj (B1.out.rel ((RW.out.trans R3'.out).trans h4));clear h4 R3;go_wp2_with fail;have Q1 := Hj (sParse_core F w4 (by have := HZ.out; omega) (HT.out.rel (R1.out.trans R4.out)) (Hj sValid_any));obtain ⟨U, hU⟩ : ∃ U, staV F = U := ⟨_, rfl⟩;rw [hU] at Q1 FB;obtain ⟨st, at', er⟩ := U;unfold PaRes at Q1;dsimp only at Q1;clear hU;refine Q1.out.mono ?_;rintro e w5 ⟨s1, rfl, hp1, hs1, h5⟩;have A1 := Hj (StaB.at hs1);have P1 := Hj hp1;obtain ⟨nm', cu', vs', ad', cp'⟩ := s1;have B2 := Hj (Blk.new w5 28 #[.string nm', .int .i64 cu', .slice ad' vs'.length cp']);have R5 := Hj (h5.alloc (.cells #[.string nm', .int .i64 cu', .slice ad' vs'.length cp'] 28));have A1' := Hj (StaB.rel A1.out ((Rel.refl w5).alloc (.cells #[.string nm', .int .i64 cu', .slice ad' vs'.length cp'] 28)));obtain ⟨Y, hY⟩ : ∃ Y, w5.alloc (.cells #[.string nm', .int .i64 cu', .slice ad' vs'.length cp'] 28) = Y := ⟨_, rfl⟩;rw [hY] at B2 R5 A1';obtain ⟨g2, hg2⟩ : ∃ g, w5.heap.size = g := ⟨_, rfl⟩;rw [hg2] at B2;unfold StaM.val;dsimp only;clear hp1 hs1 h5 A1 Q1;have D1 := C2.out.rel R5.out;have k0 := D1.c (j := 0) rfl;have k1 := D1.c (j := 1) rfl;have k2 := D1.c (j := 2) rfl;have kl := D1.lt;have k3 := B2.out.c (j := 0) rfl;have k4 := B2.out.c (j := 1) rfl;have k5 := B2.out.c (j := 2) rfl;have km := B2.out.lt;by_cases hk : V = true /\ F.size <= 8000
 ·obtain ⟨t, ht, hv, hq⟩ := FB.out Y (R4.out.trans R5.out) hk.1 hk.2;simp only [Prod.mk.injEq] at hq;obtain ⟨rfl, rfl, rfl⟩ := hq;obtain ⟨rfl, hz8⟩ := hk;have SM := Hj (rSame_eq t ⟨nm', cu', vs', ad', cp'⟩ Y ht A1'.out P1.out.symm);rw [<- hv] at SM;unfold BRes StaM.val at SM;dsimp only at SM;have hj : ¬ (8000 : Int) < (F.size : Int) := by omega
  clear FB ht hv P1 D1;go_wp2_with fail;(try rw [hY]);(try rw [hg2]);refine SM.out.mono ?_;rintro e w6 ⟨rfl, h6⟩;have R6 := Hj ((R1.out.trans (R4.out.trans R5.out)).trans h6);clear h6;go_wp2;go_ret;exact ⟨by simp, R6.out⟩
 ·have R6 := Hj (R1.out.trans (R4.out.trans R5.out));clear FB P1 D1;cases V
  ·go_wp2;go_ret;exact ⟨by simp, R6.out⟩
  ·have hj : (8000 : Int) < (F.size : Int) := by
    have : ¬ F.size <= 8000 := fun h => hk ⟨rfl, h⟩
    omega
   clear hk;go_wp2;go_ret;exact ⟨by simp, R6.out⟩
end Go.Proofs.YthmlhheceihcbaaGreatDoor

/- Lemmas, each as it is printed; no conditions but those printed. -/
import Derived.Test.YthmlhheceihcbaaGreatDoorKB43
import Derived.Test.YthmlhheceihcbaaGreatDoorKB20
namespace Go.Proofs.YthmlhheceihcbaaGreatDoor
set_option maxHeartbeats 16000000
open Go.RowKit Cal Str Tok Frac Txt Tree Go.Proofs.Tryz
attribute [local go_sem] calmUpon
set_option linter.unusedVariables false
set_option linter.unusedSimpArgs false
theorem rnum_any (n : Int) (w : World) (h : I64 n) : Calls prog 14 #[.int .i64 n] w (fun e w1 => e = .returned (.string (fmtS n 1)) /\ Rel w w1) := by
 have F := Hj fun w => rFormat_any n 1 w h.1 h.2 (by omega) (by omega)
 unfold StrRes at F;go_enter func14, ntmps14;go_wp2_with fail;refine (F.out _).mono ?_;rintro e w1 ⟨rfl, h1⟩;go_wp2;go_ret;exact ⟨rfl, h1⟩
theorem rwd1 (n : Int) (w : World) : Calls prog 16 #[.int .i64 n, .int .i64 1] w (fun e w1 => e = .returned (.string (wdT kndL n)) /\ Rel w w1) := rword1_any n w
theorem rwd2 (n : Int) (w : World) : Calls prog 16 #[.int .i64 n, .int .i64 2] w (fun e w1 => e = .returned (.string (wdT benL n)) /\ Rel w w1) := rword2_any n w
theorem rwd3 (n : Int) (w : World) : Calls prog 16 #[.int .i64 n, .int .i64 3] w (fun e w1 => e = .returned (.string (wdT modL n)) /\ Rel w w1) := rword3_any n w
structure VOk (m : VerM) : Prop where
 l0 : m.cr.length <= 6
 l1 : m.se.length <= 20
 l2 : m.le.length <= 10
 l3 : m.gr.length <= 5
 l4 : m.re.length <= 5
 e2 : ∀ p ∈ m.le, p.1.size <= 12 /\ p.2.1.form = true /\ p.2.1.size <= 60
 e3 : ∀ p ∈ m.gr, (p.2.1.1.form = true /\ p.2.1.1.size <= 60) /\ p.2.2.1.form = true /\ p.2.2.1.size <= 60
 e4 : ∀ p ∈ m.re, p.2.1.form = true /\ p.2.1.size <= 60
theorem nam_le {s : ByteArray} (h : namB s = true) : s.size <= 12 := by simp [namB, wordB] at h; omega
theorem vld {t : Ex} (h : t.valid = true) : t.form = true /\ t.size <= 60 := by
 unfold Ex.valid at h;simp only [Bool.and_eq_true, decide_eq_true_eq] at h;exact ⟨h.2.2, h.2.1⟩
theorem vok_of {m : VerM} (h : m.pl.valid = true) : VOk m := by
 unfold VerM.pl Ver.valid at h;simp only [Bool.and_eq_true, decide_eq_true_eq, List.length_map, List.all_map, List.all_eq_true] at h;obtain ⟨-, ⟨⟨a0, a1⟩, a2, a3, a4⟩, -, -, a5, a6, a7⟩ := h;refine ⟨a0, a1, a2, a3, a4, fun p hp => ?_, fun p hp => ?_, fun p hp => ?_⟩
 ·have := a5 p hp;simp only [Function.comp, leV, Bool.and_eq_true] at this;exact ⟨nam_le this.1, vld this.2⟩
 ·have := a6 p hp;simp only [Function.comp, grV, Bool.and_eq_true] at this;exact ⟨vld this.2.1, vld this.2.2⟩
 ·have := a7 p hp;simp only [Function.comp, reV, Bool.and_eq_true] at this;exact vld this.2
theorem kn12 : ∀ p ∈ kndL, p.1.length <= 12 := by decide
theorem be12 : ∀ p ∈ benL, p.1.length <= 12 := by decide
theorem mo12 : ∀ p ∈ modL, p.1.length <= 12 := by decide
theorem tx_at {w : World} {t : Ex} {x : Value} (h : TxB (fun _ => True) w (t, x)) (f : t.form = true /\ t.size <= 60) : ∃ xa xc T, x = .slice xa t.cnt xc /\ t.put 0 = T /\ T.size <= 4200 /\ Hid (∀ w', Rel w w' -> Calls prog 18 #[.agg #[.int .i64 t.op, .int .i64 t.va, .int .i64 t.vb, .int .i64 t.dm, .string t.nm, .slice xa t.cnt xc], .int .i64 0] w' (fun e w1 => e = .returned (.string T) /\ Rel w' w1)) := by
 obtain ⟨xa, xc, e⟩ := kids_slice (kidsB_to h.1);simp only at e;subst e;exact ⟨xa, xc, _, rfl, rfl, put_size f.1 f.2 0, Hj fun w' r => put_all t f.1 f.2 _ w' 0 (kids_rel (kidsB_to h.1) r)⟩
set_option maxRecDepth 20000 in
theorem rFormat_core (s : StaM) (w : World) (hV : StaAt w s) (hv : s.pl.valid = true) (HV : Hid (∀ w', Rel w w' -> Calls prog 13 #[s.val] w' (fun e w1 => e = .returned (.bool true) /\ Rel w' w1))) :
  Calls prog 5 #[s.val] w (fun e w1 => e = .returned (.tuple #[.string (staT s), .bool true]) /\ (staT s).size <= 1000000 /\ Rel w w1) := by
 obtain ⟨nm, cur, vs, ad, cap⟩ := s;unfold StaM.pl Sta.valid at hv;simp only [Bool.and_eq_true, decide_eq_true_eq, List.length_map, List.all_map, List.all_eq_true] at hv;obtain ⟨h1, -, -, h4, h5⟩ := hv;have zn := nam_le h1;have VO : Hid (∀ m ∈ vs, VOk m) := fun m hm => vok_of (h5 m hm)
 have SB := Hj hV;have SR : Hid (RowB (fun _ => True) w ad (vs.flatMap verC)) := hV.r;have hIc : I64 cur := hV.i;clear h1 h5 hV;have R0 := Hj ((Rel.refl w).alloc (.cells #[.string nm, .int .i64 cur, .slice ad vs.length cap] 28));have BW := Hj (Blk.new w 28 #[.string nm, .int .i64 cur, .slice ad vs.length cap]);obtain ⟨N, hN⟩ : ∃ N, fmtS cur 1 = N := ⟨_, rfl⟩;have zN := fmtS_size cur 1;have NU := Hj fun w => rnum_any cur w hIc
 rw [hN] at zN NU;have HN := Hj hN;unfold StaM.val at HV |-;dsimp only at HV |-;obtain ⟨WB, hWB⟩ : ∃ X, w.alloc (.cells #[.string nm, .int .i64 cur, .slice ad vs.length cap] 28) = X := ⟨_, rfl⟩;rw [hWB] at R0 BW;have b0 := BW.out.c (j := 0) rfl;have b1 := BW.out.c (j := 1) rfl;have b2 := BW.out.c (j := 2) rfl;have bl := BW.out.lt;clear hN;go_enter func5, ntmps5;go_wp2_with fail;refine (HV.out _ R0.out).mono ?_;rintro e w1 ⟨rfl, h1⟩;clear hWB HV b0 b1 b2 bl;have RB := Hj h1;have b0 := (BW.out.rel h1).c (j := 0) rfl;have b1 := (BW.out.rel h1).c (j := 1) rfl;have b2 := (BW.out.rel h1).c (j := 2) rfl;have bl := (BW.out.rel h1).lt;clear h1;have C5 := NU;have v0 : ¬ 9223372036854775807 < 8 + nm.size := by omega
 have v1 : ¬ 9223372036854775807 < 8 + nm.size + 10 := by omega
 have v2 : ¬ 9223372036854775807 < 8 + nm.size + 10 + N.size := by omega
 have v3 : ¬ 9223372036854775807 < 8 + nm.size + 10 + N.size + 3 := by omega
 go_wp2_with fail;refine wrd (fun w2 h2 => ?_);have RB2 := Hj (RB.out.trans h2);clear h2 b0 b1 b2 bl C5 RB NU v0 v1 v2 v3 hIc;obtain ⟨S0, hS0⟩ : ∃ T, (((⟨#[115, 116, 97, 116, 117, 116, 101, 32]⟩ ++ nm) ++ ⟨#[32, 99, 117, 114, 114, 101, 110, 99, 121, 32]⟩) ++ N) ++ ⟨#[32, 123, 10]⟩ = T := ⟨_, rfl⟩;rw [hS0];have zS : S0.size <= 300 := by rw [<- hS0]; simp only [ByteArray.size_append, szA, List.length]; omega
 have HS := Hj hS0;clear hS0;go_wp2_with fail
 go_loopw [4, 5] (fun s i wx => ∃ (k : Nat) (T : ByteArray), k <= vs.length /\ s = .string T /\ i = .int .i64 k /\ T.size <= 300 + 131000 * k /\ Hid (T = (vs.take k).foldl verT S0) /\ Hid (Rel WB wx)) (fun _ i _ => vs.length - (intOf i).toNat)
 case atStart => exact ⟨0, _, by omega, rfl, rfl, by omega, rfl, RB2⟩
 case round =>
  obtain ⟨kO, S, hkO, rfl, rfl, zO, hS, hRo⟩ := hrel;have bb := (BW.out.rel hRo.out).c (j := 2) rfl;have bl := (BW.out.rel hRo.out).lt;by_cases ltO : kO < vs.length
  ·have ki : (kO : Int) < (vs.length : Int) := by omega
   obtain ⟨m, g, off, hp, hm, ha, hg, hc⟩ := row_k SR.out verC_len (by decide) (R0.out.trans hRo.out) ltO;have VB := Hj (VerB.rel (SB.out.b m hm) (R0.out.trans hRo.out));have VM := Hj (VO.out m hm);have HPO := Hj hp;rw [ha] at bb;have c0 := hc 0 _ rfl;have c1 := hc 1 _ rfl;have c2 := hc 2 _ rfl;have c3 := hc 3 _ rfl;have c4 := hc 4 _ rfl;have c5 := hc 5 _ rfl;have c6 := hc 6 _ rfl;have c7 := hc 7 _ rfl;simp only [Nat.add_zero] at c0;clear hp hm ha hc;go_wp2_with fail;have RV := Hj (hRo.out.alloc (.cells #[.int .i64 m.frm, .int .i64 m.mode, .int .i64 m.unit, .slice m.ca m.cr.length m.cc, .slice m.sa m.se.length m.sc, .slice m.la m.le.length m.lc, .slice m.ga m.gr.length m.gc, .slice m.ra m.re.length m.rc] 48));have BV := Hj (Blk.new wr 48 #[.int .i64 m.frm, .int .i64 m.mode, .int .i64 m.unit, .slice m.ca m.cr.length m.cc, .slice m.sa m.se.length m.sc, .slice m.la m.le.length m.lc, .slice m.ga m.gr.length m.gc, .slice m.ra m.re.length m.rc]);have VV := Hj (VerB.rel VB.out ((Rel.refl wr).alloc (.cells #[.int .i64 m.frm, .int .i64 m.mode, .int .i64 m.unit, .slice m.ca m.cr.length m.cc, .slice m.sa m.se.length m.sc, .slice m.la m.le.length m.lc, .slice m.ga m.gr.length m.gc, .slice m.ra m.re.length m.rc] 48)));obtain ⟨WV, hWV⟩ : ∃ X, wr.alloc (.cells #[.int .i64 m.frm, .int .i64 m.mode, .int .i64 m.unit, .slice m.ca m.cr.length m.cc, .slice m.sa m.se.length m.sc, .slice m.la m.le.length m.lc, .slice m.ga m.gr.length m.gc, .slice m.ra m.re.length m.rc] 48) = X := ⟨_, rfl⟩;rw [hWV] at RV BV VV |-;obtain ⟨gv, hgv⟩ : ∃ n, wr.heap.size = n := ⟨_, rfl⟩;rw [hgv] at BV |-;clear bb bl c0 c1 c2 c3 c4 c5 c6 c7 hWV VB hg hgv hRo ki;have ltO' := ltO;have b0 := BV.out.c (j := 0) rfl;have b1 := BV.out.c (j := 1) rfl;have b2 := BV.out.c (j := 2) rfl;have bl := BV.out.lt;obtain ⟨D, hD⟩ : ∃ T, fmtD m.frm = T := ⟨_, rfl⟩;have zD := fmtD_size' m.frm;have C3 := Hj fun w => FormatDay_any m.frm w
   rw [hD] at zD C3;obtain ⟨Wm, hW⟩ : ∃ T, wdT modL m.mode = T := ⟨_, rfl⟩;have zW := wd_size mo12 m.mode;have C5 := Hj fun w => rwd3 m.mode w
   rw [hW] at zW C5;obtain ⟨U, hU⟩ : ∃ T, fmtS m.unit 1 = T := ⟨_, rfl⟩;have zU := fmtS_size m.unit 1;have C0 := Hj fun w' (r : Rel WV w') => rnum_any m.unit w' VV.out.i2
   rw [hU] at zU C0;have EH : Hid (hdT S m = S ++ ((((((⟨#[32, 32, 102, 114, 111, 109, 32, 64]⟩ ++ D) ++ ⟨#[32, 123, 10, 32, 32, 32, 32, 114, 111, 117, 110, 100, 32]⟩) ++ Wm) ++ ⟨#[32]⟩) ++ U) ++ ⟨#[59, 10]⟩)) := by show _ = _; rw [<- hD, <- hW, <- hU]; rfl
   clear hD hW hU;have v0 : ¬ 9223372036854775807 < 8 + D.size := by omega
   have v1 : ¬ 9223372036854775807 < 8 + D.size + 13 := by omega
   have v2 : ¬ 9223372036854775807 < 8 + D.size + 13 + Wm.size := by omega
   have v3 : ¬ 9223372036854775807 < 8 + D.size + 13 + Wm.size + 1 := by omega
   have v4 : ¬ 9223372036854775807 < 8 + D.size + 13 + Wm.size + 1 + U.size := by omega
   have v5 : ¬ 9223372036854775807 < 8 + D.size + 13 + Wm.size + 1 + U.size + 2 := by omega
   have v6 : ¬ 9223372036854775807 < S.size + (8 + D.size + 13 + Wm.size + 1 + U.size + 2) := by omega
   go_wp2_with fail;refine wrd (fun w2 h2 => ?_);obtain ⟨T0, hT0⟩ : ∃ T, hdT S m = T := ⟨_, rfl⟩;rw [<- EH.out, hT0];have zT : T0.size <= S.size + 300 := by rw [<- hT0, EH.out]; simp only [ByteArray.size_append, szA, List.length]; omega
   have HH := Hj hT0;have RA : Hid (Rel WV w2) := h2;clear h2 b0 b1 b2 bl C0 C3 C5 hT0 EH v0 v1 v2 v3 v4 v5 v6;go_wp2_with fail
   go_loopw [4, 7] (fun s i wx => ∃ (k : Nat) (T : ByteArray), k <= m.cr.length /\ s = .string T /\ i = .int .i64 k /\ T.size <= S.size + 300 + 200 * k /\ Hid (T = (m.cr.take k).foldl crT T0) /\ Hid (Rel WV wx)) (fun _ i _ => m.cr.length - (intOf i).toNat)
   case atStart => exact ⟨0, _, by omega, rfl, rfl, by omega, rfl, RA⟩
   case round =>
    obtain ⟨k, T, hk, rfl, rfl, hz, hT, hR⟩ := hrel;have bb := (BV.out.rel hR.out).c (j := 3) rfl;have bl := (BV.out.rel hR.out).lt;have lk := VM.out.l0;by_cases hlt : k < m.cr.length
    ·have ki : (k : Int) < (m.cr.length : Int) := by omega
     obtain ⟨p, g, off, hp, hm, ha, hg, hc⟩ := row_k VV.out.r0 crC_len (by decide) hR.out hlt;rw [ha] at bb;have HP := Hj hp;obtain ⟨k0, l0⟩ := p;have c0 := hc 0 _ rfl;have c1 := hc 1 _ rfl;simp only [Nat.add_zero] at c0;have hI := VV.out.b0 _ hm;obtain ⟨Wd, hWd⟩ : ∃ s, wdT kndL k0 = s := ⟨_, rfl⟩;have zWd := wd_size kn12 k0;have CW := Hj fun w => rwd1 k0 w
     rw [hWd] at zWd CW;have HWd := Hj hWd;clear hWd;obtain ⟨U, hU⟩ : ∃ s, fmtS l0 1 = s := ⟨_, rfl⟩;have zU := fmtS_size l0 1;have CU := Hj fun w => rnum_any l0 w hI.2
     rw [hU] at zU CU;have HU := Hj hU;clear hU;clear hp hc hm ha;have v0 : ¬ 9223372036854775807 < 11 + Wd.size := by omega
     have v1 : ¬ 9223372036854775807 < T.size + (11 + Wd.size) := by omega
     have v2 : ¬ 9223372036854775807 < 7 + U.size := by omega
     have v3 : ¬ 9223372036854775807 < T.size + (11 + Wd.size) + (7 + U.size) := by omega
     have v4 : ¬ 9223372036854775807 < T.size + (11 + Wd.size) + (7 + U.size) + 2 := by omega
     have v5 : ¬ 9223372036854775807 < T.size + (11 + Wd.size) + 2 := by omega
     go_wp2_with fail;refine (CW.out _).mono ?_;rintro e w1 ⟨rfl, h1⟩;have rc := rci h1;by_cases hl : 0 < l0
     ·have el : decide (0 < l0) = true := decide_eq_true hl;go_wp2_with fail;refine (CU.out _).mono ?_;rintro e w2 ⟨rfl, h2⟩;have rc2 := rci h2;go_wp2
      go_roundw
      case rel => exact ⟨k + 1, _, by omega, rfl, by go_num, (by simp only [ByteArray.size_append, szA, List.length]; omega), (by show _ = _; rw [take_fold HP.out, <- hT.out]; simp only [crT, if_pos (show 0 < l0 by omega), HWd.out, HU.out]), hR.out.trans (h1.trans h2)⟩
      case measure => simp [intOf]; omega
     ·have el : decide (0 < l0) = false := decide_eq_false hl;go_wp2
      go_roundw
      case rel => exact ⟨k + 1, _, by omega, rfl, by go_num, (by simp only [ByteArray.size_append, szA, List.length]; omega), (by show _ = _; rw [take_fold HP.out, <- hT.out]; simp only [crT, if_neg (show ¬ 0 < l0 by omega), HWd.out]), hR.out.trans h1⟩
      case measure => simp [intOf]; omega
    ·have ki : ¬ (k : Int) < (m.cr.length : Int) := by omega
     have HT : Hid (T = m.cr.foldl crT T0) := by show _ = _; rw [hT.out, List.take_of_length_le (by omega)]
     have zT : T.size <= S.size + 1500 := by have := VM.out.l0; omega
     have RA := hR;clear hR hT hz hlt hk lk;go_wp2_with fail
     go_loopw [4, 8] (fun s i wx => ∃ (k : Nat) (T : ByteArray), k <= m.se.length /\ s = .string T /\ i = .int .i64 k /\ T.size <= S.size + 1500 + 200 * k /\ Hid (T = (m.se.take k).foldl seT (m.cr.foldl crT T0)) /\ Hid (Rel WV wx)) (fun _ i _ => m.se.length - (intOf i).toNat)
     case atStart => exact ⟨0, _, by omega, rfl, rfl, by omega, HT, RA⟩
     case round =>
      obtain ⟨k, T, hk, rfl, rfl, hz, hT, hR⟩ := hrel;have bb := (BV.out.rel hR.out).c (j := 4) rfl;have bl := (BV.out.rel hR.out).lt;have lk := VM.out.l1;by_cases hlt : k < m.se.length
      ·have ki : (k : Int) < (m.se.length : Int) := by omega
       obtain ⟨p, g, off, hp, hm, ha, hg, hc⟩ := row_k VV.out.r1 seC_len (by decide) hR.out hlt;rw [ha] at bb;have HP := Hj hp;obtain ⟨k0, l0, m0⟩ := p;have c0 := hc 0 _ rfl;have c1 := hc 1 _ rfl;have c2 := hc 2 _ rfl;simp only [Nat.add_zero] at c0;obtain ⟨i0, i1, i2⟩ := VV.out.b1 _ hm;simp only at i0 i1 i2;have CF := Hj fun w => rFormatDecimal_any l0 m0 2 w i1.1 i1.2 i2.1 i2.2 (by decide) (by decide)
       unfold FdRes at CF;obtain ⟨F, hF⟩ : ∃ s, fdT l0 m0 2 = s := ⟨_, rfl⟩;have zF := fd_size l0 m0 2;rw [hF] at zF CF;have HF := Hj hF;clear hF;obtain ⟨U, hU⟩ : ∃ s, fmtS k0 1 = s := ⟨_, rfl⟩;have zU := fmtS_size k0 1;have CU := Hj fun w => rnum_any k0 w i0
       rw [hU] at zU CU;have HU := Hj hU;clear hU;clear hp hc hm ha;have v0 : ¬ 9223372036854775807 < 10 + U.size := by omega
       have v1 : ¬ 9223372036854775807 < 10 + U.size + 1 := by omega
       have v2 : ¬ 9223372036854775807 < 10 + U.size + 1 + F.size := by omega
       have v3 : ¬ 9223372036854775807 < 10 + U.size + 1 + F.size + 2 := by omega
       have v4 : ¬ 9223372036854775807 < T.size + (10 + U.size + 1 + F.size + 2) := by omega
       go_wp2_with fail;refine (CF.out _).mono ?_;rintro e w1 ⟨rfl, h1⟩;have rc := rci h1;go_wp2_with fail;refine (CU.out _).mono ?_;rintro e w2 ⟨rfl, h2⟩;have rc2 := rci h2
       go_wp2
       go_roundw
       case rel => exact ⟨k + 1, _, by omega, rfl, by go_num, (by simp only [ByteArray.size_append, szA, List.length]; omega), (by show _ = _; rw [take_fold HP.out, <- hT.out]; simp only [seT, HU.out, HF.out]), hR.out.trans (h1.trans h2)⟩
       case measure => simp [intOf]; omega
      ·have ki : ¬ (k : Int) < (m.se.length : Int) := by omega
       have HT : Hid (T = m.se.foldl seT (m.cr.foldl crT T0)) := by show _ = _; rw [hT.out, List.take_of_length_le (by omega)]
       have zT : T.size <= S.size + 5500 := by have := VM.out.l1; omega
       have RA := hR;clear hR hT hz hlt hk lk;go_wp2_with fail
       go_loopw [4, 11] (fun s i wx => ∃ (k : Nat) (T : ByteArray), k <= m.le.length /\ s = .string T /\ i = .int .i64 k /\ T.size <= S.size + 5500 + 5000 * k /\ Hid (T = (m.le.take k).foldl leT (m.se.foldl seT (m.cr.foldl crT T0))) /\ Hid (Rel WV wx)) (fun _ i _ => m.le.length - (intOf i).toNat)
       case atStart => exact ⟨0, _, by omega, rfl, rfl, by omega, HT, RA⟩
       case round =>
        obtain ⟨k, T, hk, rfl, rfl, hz, hT, hR⟩ := hrel;have bb := (BV.out.rel hR.out).c (j := 5) rfl;have bl := (BV.out.rel hR.out).lt;have lk := VM.out.l2;by_cases hlt : k < m.le.length
        ·have ki : (k : Int) < (m.le.length : Int) := by omega
         obtain ⟨p, g, off, hp, hm, ha, hg, hc⟩ := row_k VV.out.r2 leC_len (by decide) hR.out hlt;rw [ha] at bb;have HP := Hj hp;obtain ⟨s0, t, x⟩ := p;have hB := VV.out.b2 _ hm;have hF := VM.out.e2 _ hm;have zs := hF.1;simp only at zs;obtain ⟨xa0, xc0, P0, rfl, hP0, zP0, C0⟩ := tx_at (TxB.rel hB.2 hR.out) hF.2;have HP0 := Hj hP0;have c0 := hc 0 _ rfl;have c1 := hc 1 _ rfl;have c2 := hc 2 _ rfl;have c3 := hc 3 _ rfl;have c4 := hc 4 _ rfl;have c5 := hc 5 _ rfl;have c6 := hc 6 _ rfl;simp only [Nat.add_zero] at c0;clear hp hc hm ha hB hF hP0;have v0 : ¬ 9223372036854775807 < 8 + s0.size := by omega
         have v1 : ¬ 9223372036854775807 < 8 + s0.size + 3 := by omega
         have v2 : ¬ 9223372036854775807 < 8 + s0.size + 3 + P0.size := by omega
         have v3 : ¬ 9223372036854775807 < 8 + s0.size + 3 + P0.size + 2 := by omega
         have v4 : ¬ 9223372036854775807 < T.size + (8 + s0.size + 3 + P0.size + 2) := by omega
         go_wp2_with fail;refine wrd (fun w2 h2 => ?_)
         go_wp2
         go_roundw
         case rel => exact ⟨k + 1, _, by omega, rfl, by go_num, (by simp only [ByteArray.size_append, szA, List.length]; omega), (by show _ = _; rw [take_fold HP.out, <- hT.out]; simp only [leT, HP0.out]), hR.out.trans h2⟩
         case measure => simp [intOf]; omega
        ·have ki : ¬ (k : Int) < (m.le.length : Int) := by omega
         have HT : Hid (T = m.le.foldl leT (m.se.foldl seT (m.cr.foldl crT T0))) := by show _ = _; rw [hT.out, List.take_of_length_le (by omega)]
         have zT : T.size <= S.size + 55500 := by have := VM.out.l2; omega
         have RA := hR;clear hR hT hz hlt hk lk;go_wp2_with fail
         go_loopw [4, 12] (fun s i wx => ∃ (k : Nat) (T : ByteArray), k <= m.gr.length /\ s = .string T /\ i = .int .i64 k /\ T.size <= S.size + 55500 + 10000 * k /\ Hid (T = (m.gr.take k).foldl grT (m.le.foldl leT (m.se.foldl seT (m.cr.foldl crT T0)))) /\ Hid (Rel WV wx)) (fun _ i _ => m.gr.length - (intOf i).toNat)
         case atStart => exact ⟨0, _, by omega, rfl, rfl, by omega, HT, RA⟩
         case round =>
          obtain ⟨k, T, hk, rfl, rfl, hz, hT, hR⟩ := hrel;have bb := (BV.out.rel hR.out).c (j := 6) rfl;have bl := (BV.out.rel hR.out).lt;have lk := VM.out.l3;by_cases hlt : k < m.gr.length
          ·have ki : (k : Int) < (m.gr.length : Int) := by omega
           obtain ⟨p, g, off, hp, hm, ha, hg, hc⟩ := row_k VV.out.r3 grC_len (by decide) hR.out hlt;rw [ha] at bb;have HP := Hj hp;obtain ⟨k0, ⟨t, x⟩, u, y⟩ := p;have hB := VV.out.b3 _ hm;have hF := VM.out.e3 _ hm;obtain ⟨xa0, xc0, P0, rfl, hP0, zP0, C0⟩ := tx_at (TxB.rel hB.2.1 hR.out) hF.1;have HP0 := Hj hP0;obtain ⟨xa1, xc1, P1, rfl, hP1, zP1, C1⟩ := tx_at (TxB.rel hB.2.2 hR.out) hF.2;have HP1 := Hj hP1;have c0 := hc 0 _ rfl;have c1 := hc 1 _ rfl;have c2 := hc 2 _ rfl;have c3 := hc 3 _ rfl;have c4 := hc 4 _ rfl;have c5 := hc 5 _ rfl;have c6 := hc 6 _ rfl;have c7 := hc 7 _ rfl;have c8 := hc 8 _ rfl;have c9 := hc 9 _ rfl;have c10 := hc 10 _ rfl;have c11 := hc 11 _ rfl;have c12 := hc 12 _ rfl;simp only [Nat.add_zero] at c0;obtain ⟨Wd, hWd⟩ : ∃ s, wdT benL k0 = s := ⟨_, rfl⟩;have zWd := wd_size be12 k0;have C5 := Hj fun w => rwd2 k0 w
           rw [hWd] at zWd C5;have HWd := Hj hWd;clear hWd;clear hp hc hm ha hB hF hP0 hP1;have v0 : ¬ 9223372036854775807 < 10 + Wd.size := by omega
           have v1 : ¬ 9223372036854775807 < 10 + Wd.size + 4 := by omega
           have v2 : ¬ 9223372036854775807 < 10 + Wd.size + 4 + P0.size := by omega
           have v3 : ¬ 9223372036854775807 < 10 + Wd.size + 4 + P0.size + 5 := by omega
           have v4 : ¬ 9223372036854775807 < 10 + Wd.size + 4 + P0.size + 5 + P1.size := by omega
           have v5 : ¬ 9223372036854775807 < 10 + Wd.size + 4 + P0.size + 5 + P1.size + 2 := by omega
           have v6 : ¬ 9223372036854775807 < T.size + (10 + Wd.size + 4 + P0.size + 5 + P1.size + 2) := by omega
           go_wp2_with fail;refine wrd (fun w2 h2 => ?_)
           go_wp2
           go_roundw
           case rel => exact ⟨k + 1, _, by omega, rfl, by go_num, (by simp only [ByteArray.size_append, szA, List.length]; omega), (by show _ = _; rw [take_fold HP.out, <- hT.out]; simp only [grT, HP0.out, HP1.out, HWd.out]), hR.out.trans h2⟩
           case measure => simp [intOf]; omega
          ·have ki : ¬ (k : Int) < (m.gr.length : Int) := by omega
           have HT : Hid (T = m.gr.foldl grT (m.le.foldl leT (m.se.foldl seT (m.cr.foldl crT T0)))) := by show _ = _; rw [hT.out, List.take_of_length_le (by omega)]
           have zT : T.size <= S.size + 105500 := by have := VM.out.l3; omega
           have RA := hR;clear hR hT hz hlt hk lk;go_wp2_with fail
           go_loopw [4, 13] (fun s i wx => ∃ (k : Nat) (T : ByteArray), k <= m.re.length /\ s = .string T /\ i = .int .i64 k /\ T.size <= S.size + 105500 + 5000 * k /\ Hid (T = (m.re.take k).foldl reT (m.gr.foldl grT (m.le.foldl leT (m.se.foldl seT (m.cr.foldl crT T0))))) /\ Hid (Rel WV wx)) (fun _ i _ => m.re.length - (intOf i).toNat)
           case atStart => exact ⟨0, _, by omega, rfl, rfl, by omega, HT, RA⟩
           case round =>
            obtain ⟨k, T, hk, rfl, rfl, hz, hT, hR⟩ := hrel;have bb := (BV.out.rel hR.out).c (j := 7) rfl;have bl := (BV.out.rel hR.out).lt;have lk := VM.out.l4;by_cases hlt : k < m.re.length
            ·have ki : (k : Int) < (m.re.length : Int) := by omega
             obtain ⟨p, g, off, hp, hm, ha, hg, hc⟩ := row_k VV.out.r4 reC_len (by decide) hR.out hlt;rw [ha] at bb;have HP := Hj hp;obtain ⟨k0, t, x⟩ := p;have hB := VV.out.b4 _ hm;have hF := VM.out.e4 _ hm;obtain ⟨xa0, xc0, P0, rfl, hP0, zP0, C0⟩ := tx_at (TxB.rel hB.2 hR.out) hF;have HP0 := Hj hP0;have c0 := hc 0 _ rfl;have c1 := hc 1 _ rfl;have c2 := hc 2 _ rfl;have c3 := hc 3 _ rfl;have c4 := hc 4 _ rfl;have c5 := hc 5 _ rfl;have c6 := hc 6 _ rfl;simp only [Nat.add_zero] at c0;obtain ⟨Wd, hWd⟩ : ∃ s, wdT benL k0 = s := ⟨_, rfl⟩;have zWd := wd_size be12 k0;have C5 := Hj fun w => rwd2 k0 w
             rw [hWd] at zWd C5;have HWd := Hj hWd;clear hWd;clear hp hc hm ha hB hF hP0;have v0 : ¬ 9223372036854775807 < 11 + Wd.size := by omega
             have v1 : ¬ 9223372036854775807 < 11 + Wd.size + 4 := by omega
             have v2 : ¬ 9223372036854775807 < 11 + Wd.size + 4 + P0.size := by omega
             have v3 : ¬ 9223372036854775807 < 11 + Wd.size + 4 + P0.size + 2 := by omega
             have v4 : ¬ 9223372036854775807 < T.size + (11 + Wd.size + 4 + P0.size + 2) := by omega
             go_wp2_with fail;refine wrd (fun w2 h2 => ?_)
             go_wp2
             go_roundw
             case rel => exact ⟨k + 1, _, by omega, rfl, by go_num, (by simp only [ByteArray.size_append, szA, List.length]; omega), (by show _ = _; rw [take_fold HP.out, <- hT.out]; simp only [reT, HP0.out, HWd.out]), hR.out.trans h2⟩
             case measure => simp [intOf]; omega
            ·have ki : ¬ (k : Int) < (m.re.length : Int) := by omega
             have HT : Hid (T = m.re.foldl reT (m.gr.foldl grT (m.le.foldl leT (m.se.foldl seT (m.cr.foldl crT T0))))) := by show _ = _; rw [hT.out, List.take_of_length_le (by omega)]
             have zT : T.size <= S.size + 130500 := by have := VM.out.l4; omega
             have RA := hR;clear hR hT hz hlt hk lk;have v0 : ¬ 9223372036854775807 < T.size + 4 := by omega
             go_wp2
             go_roundw
             case rel => exact ⟨kO + 1, _, by omega, rfl, by go_num, (by simp only [ByteArray.size_append, szA, List.length]; omega), (by show _ = _; rw [take_fold HPO.out, <- hS.out]; simp only [verT, HH.out, HT.out]), RV.out.trans RA.out⟩
             case measure => simp [intOf]; omega
  ·have ki : ¬ (kO : Int) < (vs.length : Int) := by omega
   have HT : Hid (S = vs.foldl verT S0) := by show _ = _; rw [hS.out, List.take_of_length_le (by omega)]
   have v0 : ¬ 9223372036854775807 < S.size + 2 := by omega
   go_wp2;refine bodyPost_ret (v := .tuple #[.string (S ++ ⟨#[125, 10]⟩), .bool true]) ?_ rfl ?_
   ·simp [results, results5, go_sem]
   ·have e : staT ⟨nm, cur, vs, ad, cap⟩ = S ++ ⟨#[125, 10]⟩ := by
     unfold staT;dsimp only;rw [HN.out, HS.out, <- HT.out]
    rw [e];exact ⟨rfl, (by simp only [ByteArray.size_append, szA, List.length]; omega), R0.out.trans hRo.out⟩
end Go.Proofs.YthmlhheceihcbaaGreatDoor

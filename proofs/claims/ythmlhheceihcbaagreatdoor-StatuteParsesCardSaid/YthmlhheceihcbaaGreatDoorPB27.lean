/- Lemmas, each as it is printed; no conditions but those printed. -/
import Derived.Test.YthmlhheceihcbaaGreatDoorPB22
namespace Go.Proofs.YthmlhheceihcbaaGreatDoor
set_option maxHeartbeats 16000000
open Go.RowKit Cal Str Tok Frac Txt Tree Go.Proofs.Tryz
attribute [local go_sem] calmUpon
set_option linter.unusedVariables false
set_option linter.unusedSimpArgs false
def RPaRes (r : Sta × Int × Int) (w : World) (e : Ending) (w' : World) : Prop := ∃ s : StaM, e = .returned (.tuple #[s.val, .int .i64 r.2.1, .int .i64 r.2.2]) /\ s.pl = r.1 /\ StaB (fun q => w.heap.size <= q) w' s /\ Rel w w'
def zrA : StaM := ⟨⟨#[]⟩, 0, [], none, 0⟩
theorem zrA_at (P : Nat -> Prop) (w : World) : StaB P w zrA := ⟨by decide, ⟨by decide, by decide⟩, by decide, RowB.nil, fun m hm => by cases hm⟩
theorem c_alw {w : World} {f : FuncId} {ar : Array Value} {Q : Ending -> World -> Prop} {c : Array Value} {T : TypeId} (h : ∀ X, Blk X w.heap.size T c.toList -> Rel w X -> X.heap.size = w.heap.size + 1 -> Calls prog f ar X Q) : Calls prog f ar (w.alloc (.cells c T)) Q := h _ (Blk.new w T c) ((Rel.refl w).alloc _) (World.size_alloc ..)
set_option maxRecDepth 20000 in
theorem rParse_core (str : ByteArray) (w : World) (hs : str.size <= 140737488355328) (HV : Hid (∀ s w, StaAt w s -> Calls prog 13 #[s.val] w (BRes s.pl.valid w))) : Calls prog 9 #[.string str] w (RPaRes (staV str) w) := by
 unfold RPaRes;obtain ⟨V, hV⟩ : ∃ V, staV str = V := ⟨_, rfl⟩;rw [hV];have HVV := Hj hV;clear hV;go_enter func9, ntmps9;go_wp2_with fail;refine c_alw fun X BX RXX hX => ?_
 refine (rbegin_any str X hs).mono ?_;unfold BegRes;rintro e w1 (⟨hc, rfl, h1⟩ | ⟨hc, b, G, rfl, hb, hG, hP, h1⟩)
 ·have ec : ((allR str).2.2 != 0) = true := by simpa using hc
  have eV : V = (zeroSta, (allR str).2.1, (allR str).2.2) := by rw [<- HVV.out]; unfold staV; rw [if_neg hc]
  have B1 := BX.rel h1;have R1 := RXX.trans h1;have k := B1.cs;have kf := B1.f;have kl := B1.lt;clear h1 BX RXX hc HVV;refine gw ?_;have BE := ((B1.set 0 (.string ⟨#[]⟩)).set 1 (.int .i64 0)).set 2 (.slice none 0 0);have g := BE.cs;have h0 := Nat.le_refl w.heap.size;refine bodyPost_ret (v := .tuple #[zrA.val, .int .i64 (allR str).2.1, .int .i64 (allR str).2.2]) ?_ rfl ⟨zrA, by rw [eV], by rw [eV]; rfl, zrA_at _ _, ((R1.setCell (p := ⟨w.heap.size, 0, none⟩) h0 _).setCell (p := ⟨w.heap.size, 1, none⟩) h0 _).setCell (p := ⟨w.heap.size, 2, none⟩) h0 _⟩;simp [results, results9, go_sem, StaM.val, zrA, g]
 ·have h8 := all_code str hc;have hT := tks_ok str h8;have hH := allR_hd str;have hsV : V = (if finB (allR str).1 (staQ (allR str).1).2 = true then (if (staQ (allR str).1).1.valid = true then ((staQ (allR str).1).1, 0, 0) else (zeroSta, 0, 7)) else (zeroSta, posI (allR str).1 str.size (staQ (allR str).1).2.i, 4)) := by rw [<- HVV.out]; unfold staV; rw [if_pos hc]
  obtain ⟨tk, htk⟩ : ∃ l, (allR str).1 = l := ⟨_, rfl⟩;rw [htk] at hT hH hsV hP hG;have HSV := Hj hsV
  have hG1 : tk = [] \/ G < w1.heap.size := by
   rcases hP.toks with e | ⟨h, -⟩
   ·exact .inl e
   ·exact .inr h
  have B1 := BX.rel h1;have R1 := RXX.trans h1;have X0 : RX b G tk str.size w1 ⟨0, true⟩ w1 := ⟨hP, Ro.refl _ _, hP.lt, hG1⟩;have hbw : w.heap.size < b := by omega
  have hlen := hT.len;clear hc h8 hsV HVV htk hG BX RXX h1 hP;go_wp2_with fail;refine (x_want hT hH X0 ⟨#[115, 116, 97, 116, 117, 116, 101]⟩ (x := kStatute)).mono ?_;rintro e W2 ⟨⟨v2, rfl⟩, X2⟩;go_wp2_with fail;refine (x_name hT X2).mono ?_;rintro e W3 ⟨rfl, X3⟩;go_wp2_with fail;refine c_al X3 fun Y BN XY RY => ?_
  have hg3 : w1.heap.size <= W3.heap.size := X3.R.size;have S0 : RS b G tk str.size w1 _ Y W3.heap.size _ 0 [] none 0 := ⟨XY.tr RY X0.hb X0.hG, hg3, BN, World.ownsRow_nil _ _ _ _, fun _ m hm => by cases hm⟩;clear BN;refine (x_want hT hH S0.X.re ⟨#[99, 117, 114, 114, 101, 110, 99, 121]⟩ (x := kCurrency)).mono ?_;rintro e W4 ⟨⟨v4, rfl⟩, X4⟩;have S1 := S0.via X4 expP_ok;clear S0 X4 XY;go_wp2_with fail;refine (x_whole hT S1.X.re 1 999).mono ?_;rintro e W5 ⟨rfl, X5⟩;have S2 := S1.via X5 (num_beh tk 1 999 _).2.1;clear S1 X5;have o1 := S2.x.c (j := 1) rfl;have f1 := S2.x.f 1;have ol := S2.x.lt;go_wp2_with fail;have S3 := S2.pc (numT tk 1 999 (expP tk kCurrency (namP tk (expP tk kStatute ⟨0, true⟩))));clear S2 o1 f1 ol;refine (x_want hT hH S3.X.re ⟨#[123]⟩ (x := kL)).mono ?_;rintro e W6 ⟨⟨v6, rfl⟩, X6⟩;have S4 := S3.via X6 expP_ok;clear S3 X6;have nz := nam_size hT (expP tk kStatute ⟨0, true⟩);have cz : I64 (numT tk 1 999 (expP tk kCurrency (namP tk (expP tk kStatute ⟨0, true⟩)))) := num_bd;have HQ : Hid (∀ s0, s0 = expP tk kL (numP tk 1 999 (expP tk kCurrency (namP tk (expP tk kStatute ⟨0, true⟩)))) -> finF tk true (tk.length + 1) [] s0 = ((staQ tk).1.vs, (staQ tk).2)) := fun s0 e => by subst e; rfl
  have HN : Hid ((staQ tk).1.nm = namT tk (expP tk kStatute ⟨0, true⟩) /\ (staQ tk).1.cur = numT tk 1 999 (expP tk kCurrency (namP tk (expP tk kStatute ⟨0, true⟩)))) := ⟨rfl, rfl⟩;obtain ⟨s0, hs0⟩ : ∃ s0, expP tk kL (numP tk 1 999 (expP tk kCurrency (namP tk (expP tk kStatute ⟨0, true⟩)))) = s0 := ⟨_, rfl⟩;obtain ⟨nm, hnm⟩ : ∃ z, namT tk (expP tk kStatute ⟨0, true⟩) = z := ⟨_, rfl⟩;obtain ⟨cu, hcu⟩ : ∃ z, numT tk 1 999 (expP tk kCurrency (namP tk (expP tk kStatute ⟨0, true⟩))) = z := ⟨_, rfl⟩;rw [hs0, hnm, hcu] at S4;rw [hnm] at nz HN;rw [hcu] at cz HN;rw [hnm, hcu];have HQ := Hj (HQ.out s0 hs0.symm);clear hs0 hnm hcu;generalize W3.heap.size = gs at *;obtain ⟨Q, hQ⟩ : ∃ Q, ((staQ tk).1.vs, (staQ tk).2) = Q := ⟨_, rfl⟩;rw [hQ] at HQ;have HQQ := Hj hQ;clear hQ X2 X3 RY;go_wp2_with fail
  go_loopg [9] (tk.length + 2) (fun g s9 wx => ∃ (fst : Bool) (f : Nat) (L : List VerM) (va : Option Addr) (vc : Nat) (s' : Pt), s9 = .bool fst /\ g = f + (if fst = true then 1 else 0) /\ (fst = true -> L = []) /\ L.length <= tk.length + 1 /\ (s'.ok = true -> L.length + rem tk s' <= tk.length /\ rem tk s' + 1 <= f) /\ Hid (s'.ok = true -> Upto (finF tk fst f (L.map VerM.pl) s') Q) /\ Hid (s'.ok = false -> Q.2 = s') /\ RS b G tk str.size w1 s' wx gs nm cu L va vc)
  case atStart =>
   have := rem_le tk s0;exact ⟨true, tk.length + 1, [], none, 0, s0, rfl, rfl, fun _ => rfl, by simp, fun _ => ⟨by simpa using this, by omega⟩, Hj fun _ => by rw [show ([] : List VerM).map VerM.pl = [] from rfl, HQ.out]; exact ⟨rfl, fun _ => rfl⟩, Hj fun h => by rw [<- HQ.out, finF_bad h], S4⟩
  case round =>
   obtain ⟨fst, f, L, va, vc, s', h9, hgf, hL0, hL1, hL, hU, hB, S⟩ := hrel;subst h9;have c3 := S.X.P.c3;have bl := S.X.P.lt
   cases hs : s'.ok
   ·rw [hs] at c3
    have eQ : (staQ tk).2 = s' := by
     have := hB.out hs;rw [<- HQQ.out] at this; exact this
    have eV : V = (zeroSta, posI tk str.size s'.i, 4) := by rw [HSV.out, eQ, if_neg (by unfold finB; rw [hs]; simp)]
    have Bw := B1.ro S.X.R (by omega);have Rw := Ro.rel R1 S.X.R (by omega);clear hU hB hL hgf hL0 hL1 eQ HSV HQQ;go_wp2_with fail;refine wrd (fun W8 h8 => ?_);go_wp2_with fail;refine (rplace_any b G tk str.size s' _ (S.X.P.rel h8)).mono ?_;unfold IntRes;rintro e W9 ⟨rfl, h9⟩;have B9 := Bw.rel (h8.trans h9);have R9 := Rw.trans (h8.trans h9);have k := B9.cs;have kf := B9.f;have kl := B9.lt;clear h8 h9;refine gw ?_;have BE := ((B9.set 0 (.string ⟨#[]⟩)).set 1 (.int .i64 0)).set 2 (.slice none 0 0);have g := BE.cs;have h0 := Nat.le_refl w.heap.size;refine bodyPost_ret (v := .tuple #[StaM.val zrA, .int .i64 (posI tk str.size s'.i), .int .i64 4]) ?_ rfl ⟨zrA, by rw [eV], by rw [eV]; rfl, zrA_at _ _, ((R9.setCell (p := ⟨w.heap.size, 0, none⟩) h0 _).setCell (p := ⟨w.heap.size, 1, none⟩) h0 _).setCell (p := ⟨w.heap.size, 2, none⟩) h0 _⟩;simp [results, results9, go_sem, StaM.val, zrA, g]
   ·have hr0 : fst = true \/ (fst = false /\ accB tk kR s' = false) \/ (fst = false /\ accB tk kR s' = true) := by
     cases fst
     ·cases accB tk kR s'
      ·exact .inr (.inl ⟨rfl, rfl⟩)
      ·exact .inr (.inr ⟨rfl, rfl⟩)
     ·exact .inl rfl
    rw [hs] at c3;have hL2 := hL hs;have hU1 := hU.out hs
    rcases hr0 with rfl | ⟨rfl, hr⟩ | ⟨rfl, hr⟩
    rotate_left 2
    focus
     have eQ : ((staQ tk).1.vs, (staQ tk).2) = (L.map VerM.pl, s'.adv) := by rw [HQQ.out, <- hU1.2 (by rw [<- hU1.1, finF_R hr]; exact hs), finF_R hr]
     have eQ1 := congrArg Prod.fst eQ;have eQ2 := congrArg Prod.snd eQ;simp only at eQ1 eQ2;have eS : StaM.pl ⟨nm, cu, L, va, vc⟩ = (staQ tk).1 := by unfold StaM.pl; rw [<- eQ1, <- HN.out.1, <- HN.out.2]
     clear hU hB hL0 hU1 hgf eQ eQ1 HQQ HN hL;go_wp2_with fail;refine (x_ty hT hH S.X.re ⟨#[125]⟩ hr).mono ?_;rintro e W7 ⟨rfl, X7⟩;have S7 := S.via X7 (fun _ => hs);obtain ⟨s2, h2⟩ : ∃ s2, s'.adv = s2 := ⟨_, rfl⟩;have hs2 : s2.ok = true := by rw [<- h2]; exact hs
     rw [h2] at S7 eQ2;clear h2;have c3 := S7.X.P.c3;have c1 := S7.X.P.c1;obtain ⟨ad, cap, c0, -⟩ := S7.X.P.tok;have hle := S7.X.P.le;rw [hs2] at c3;have Bw := B1.ro S7.X.R (by omega);have Rw := Ro.rel R1 S7.X.R (by omega);have bl7 := S7.X.P.lt;clear X7 S;by_cases hi : s2.i < tk.length
     ·have ii : decide (((s2.i : Nat) : Int) < (tk.length : Int)) = true := dT (by omega);have ij : decide (s2.i < tk.length) = true := decide_eq_true hi;have ik : ((s2.i : Nat) : Int) < (tk.length : Int) := by omega
      have eV : V = (zeroSta, posI tk str.size s2.i, 4) := by rw [HSV.out, eQ2, if_neg (by unfold finB; simp; intro _; omega)]
      clear HSV eQ2 eS;go_wp2_with fail;refine wrd (fun W8 h8 => ?_);go_wp2_with fail;refine (rplace_any b G tk str.size s2 _ (S7.X.P.rel h8)).mono ?_;unfold IntRes;rintro e W9 ⟨rfl, h9⟩;have B9 := Bw.rel (h8.trans h9);have R9 := Rw.trans (h8.trans h9);have k := B9.cs;have kf := B9.f;have kl := B9.lt;clear h8 h9;refine gw ?_;have BE := ((B9.set 0 (.string ⟨#[]⟩)).set 1 (.int .i64 0)).set 2 (.slice none 0 0);have g := BE.cs;have h0 := Nat.le_refl w.heap.size;refine bodyPost_ret (v := .tuple #[StaM.val zrA, .int .i64 (posI tk str.size s2.i), .int .i64 4]) ?_ rfl ⟨zrA, by rw [eV], by rw [eV]; rfl, zrA_at _ _, ((R9.setCell (p := ⟨w.heap.size, 0, none⟩) h0 _).setCell (p := ⟨w.heap.size, 1, none⟩) h0 _).setCell (p := ⟨w.heap.size, 2, none⟩) h0 _⟩;simp [results, results9, go_sem, StaM.val, zrA, g]
     ·have ii : decide (((s2.i : Nat) : Int) < (tk.length : Int)) = false := dF (by omega);have ij : decide (s2.i < tk.length) = false := decide_eq_false hi;have ik : ¬ ((s2.i : Nat) : Int) < (tk.length : Int) := by omega
      have hfin : finB tk (staQ tk).2 = true := by rw [eQ2]; unfold finB; rw [hs2]; simp; omega
      have ST := S7.sta hs2 nz cz (by omega);have eV : V = if (StaM.pl ⟨nm, cu, L, va, vc⟩).valid = true then (StaM.pl ⟨nm, cu, L, va, vc⟩, 0, 0) else (zeroSta, 0, 7) := by rw [HSV.out, if_pos hfin, eS]
      have EV := Hj eV;obtain ⟨vb, hvb⟩ : ∃ vb, (StaM.pl ⟨nm, cu, L, va, vc⟩).valid = vb := ⟨_, rfl⟩;rw [hvb] at eV;have EV := Hj eV;have HVB := Hj hvb;clear HSV eQ2 eS hfin eV hvb;go_wp2_with fail;refine wrd (fun W8 h8 => ?_);have S8 := S7.rel h8;have ST8 := ST.rel h8;have y := S8.x.cs;have yl := S8.x.lt;clear c0 c1 c3;go_wp2_with fail;refine (HV.out ⟨nm, cu, L, va, vc⟩ W8 (StaB.at ST8)).mono ?_;unfold BRes;rintro e W9 ⟨rfl, h9⟩;rw [HVB.out];have B9 := Bw.rel (h8.trans h9);have R9 := Rw.trans (h8.trans h9);have ST9 := ST8.rel h9;have y := (S8.rel h9).x.cs;have yl := (S8.rel h9).x.lt;have k := B9.cs;have kf := B9.f;have kl := B9.lt;have hne : gs ≠ w.heap.size := by have := S7.lt; have := B1.lt; omega
      have hne' := Ne.symm hne;cases vb
      ·have eV := EV.out;rw [if_neg (by simp)] at eV;refine gw ?_;have BE := ((B9.set 0 (.string ⟨#[]⟩)).set 1 (.int .i64 0)).set 2 (.slice none 0 0);have g := BE.cs;have h0 := Nat.le_refl w.heap.size;refine bodyPost_ret (v := .tuple #[StaM.val zrA, .int .i64 0, .int .i64 7]) ?_ rfl ⟨zrA, by rw [eV], by rw [eV]; rfl, zrA_at _ _, ((R9.setCell (p := ⟨w.heap.size, 0, none⟩) h0 _).setCell (p := ⟨w.heap.size, 1, none⟩) h0 _).setCell (p := ⟨w.heap.size, 2, none⟩) h0 _⟩;simp [results, results9, go_sem, StaM.val, zrA, g]
      ·have eV := EV.out;rw [if_pos rfl] at eV;refine gw ?_;have BE := ((B9.set 0 (.string nm)).set 1 (.int .i64 cu)).set 2 (.slice va L.length vc);have g := BE.cs;have h0 := Nat.le_refl w.heap.size;refine bodyPost_ret (v := .tuple #[StaM.val ⟨nm, cu, L, va, vc⟩, .int .i64 0, .int .i64 0]) ?_ rfl ⟨⟨nm, cu, L, va, vc⟩, by rw [eV], by rw [eV], ?_, ((R9.setCell (p := ⟨w.heap.size, 0, none⟩) h0 _).setCell (p := ⟨w.heap.size, 1, none⟩) h0 _).setCell (p := ⟨w.heap.size, 2, none⟩) h0 _⟩
       ·simp [results, results9, go_sem, StaM.val, zrA, g]
       ·have QR := (((Ro.refl w.heap.size W9).set 0 (.string nm)).set 1 (.int .i64 cu)).set 2 (.slice va L.length vc);exact StaB.keep ST9 QR.size (fun g hg hp => ⟨QR.block g hg (by have := B1.lt; omega), by have := B1.lt; omega⟩)
    focus
     have hLe := hL0 rfl;rw [hLe] at S hU1 hL2;clear hLe hL hL1;generalize hL0e : ([] : List VerM) = L0 at *;have hL1 : L0.length <= tk.length + 1 := by rw [<- hL0e]; simp
     have HL0 := Hj hL0e;clear hL0e;have HU2 : Hid (Upto (finF tk false f (L0.map VerM.pl ++ [(verQ tk (expP tk kFrom s')).1]) (verQ tk (expP tk kFrom s')).2) Q) := hU1;have hgk : gk = f + 1 := hgf;have hf1 : rem tk s' <= f := by omega
     clear hU hB hL0 hU1 hgf;go_wp2_with fail
    rotate_left
    focus
     obtain ⟨f', rfl⟩ : ∃ f', f = f' + 1 := ⟨f - 1, by omega⟩;have HU2 := Hj (upto_step hr _ _ hU1);have hgk : gk = f' + 1 := hgf;have hf1 : rem tk s' <= f' := by omega
     clear hU hB hL0 hU1 hgf;go_wp2_with fail;refine (x_tn hT hH S.X.re ⟨#[125]⟩ hr).mono ?_;rintro e W7 ⟨rfl, X7⟩;have S := S.via X7 id;generalize L = L0 at *;generalize f' = f at *;clear X7;go_wp2_with fail
    all_goals
     have o2 := S.x.c (j := 2) rfl;have hxl := S.x.lt;refine wp_region_calm (fun M w' => M.getD 7 false = false -> w'.cell? ⟨gs, 2, none⟩ = some (.slice va L0.length vc)) (fun i => i == 7) [0, 1, 2] 5 (by kernel_rfl) (by kernel_rfl) ?hst ?hS0 (fun w0 h0 => ?_)
     case hst => exact fun _ _ _ h r hM => r.cell (h hM)
     case hS0 => exact fun _ => o2
     iterate 3
      refine wcg ?_;apply ei
      ·intro M w hM hS;have hS := hS (hM 7 (by kernel_rfl));have d0 := hS;unfold calmAt;go_simp;exact ⟨rfl, Rel.refl _⟩
     refine wpCalm_nil ?_;refine wao 3 (fun w4 h4 K' hK' => ?_);have S4 := S.rel (h0.trans h4);clear h0 h4 o2;go_simp;refine (rversion_any b G tk str.size hT hH w4 _ S4.X.P S4.X.re.hG).mono ?_;unfold RVer;rintro e w5 ⟨m, rfl, X5, V5⟩;have S5 := S4.via X5 (fun h => expP_ok ((ver_beh tk _).2.1 h));have W5 := Hj fun h => VerB.mono (Q := fun q => (gs + 1 <= q /\ True) /\ OffB va q) (V5 h).2 (fun q hq => ⟨⟨by have := S4.x.lt; omega, trivial⟩, offB_own S4.own hq⟩)
     have EM := Hj fun h => (V5 h).1
     clear V5 X5;unfold VerM.val;refine hK'.out _ _ (fun _ => S5.x.c (j := 2) rfl) ?_;clear hK' K';refine wao 4 (fun w6 h6 K' hK' => ?_);go_simp;refine hK'.out _ _ (fun _ => (S5.rel (h6.alloc _)).x.c (j := 2) rfl) ?_;clear hK' K';refine wao 5 (fun w7 h7 K' hK' => ?_);have S7 := S5.rel ((h6.alloc _).trans h7);refine wa_app ti_ver S7.own h7 rfl (by omega) (by have := S5.x.lt; have := h6.size; omega) ?_;intro g2 c2 w8 own grow hat;have R7 := (h6.alloc _).trans h7;have O8 := S7.x.grown grow (fun e => by have := (S7.own.lt _ e.symm).1; omega);refine hK'.out _ _ (fun _ => O8.c (j := 2) rfl) ?_;clear hK' K';refine wao 6 (fun w81 h81 K' hK' => ?_);go_simp;refine hK'.out _ _ (fun _ => (O8.rel h81).c (j := 2) rfl) ?_;clear hK' K';refine wao 7 (fun w9 h9 K' hK' => ?_);have H9 := h81.trans h9;have k0 := (O8.rel H9).c (j := 2) rfl;have k1 := (O8.rel H9).f 2;have k2 := (O8.rel H9).lt;have GR := Hj grow;have OW := Hj own;have HA := Hj hat;clear grow own hat;go_simp;refine hK'.out _ _ (fun h => absurd (h.symm.trans (by kernel_rfl : _ = true)) (by simp)) ?_;clear hK' K';refine wpAnyR_end (by kernel_rfl) (fun W22 h22 => ?_);have SN := (S7.app (fun h => VerB.rel (W5.out h) R7) OW.out GR.out HA.out (Nat.le_refl _) H9).rel h22;clear h22 k0 k1 k2;(try simp only [Act.put, zla, zlb, zlc]);subst hgk;go_wp2
     go_roundg f
     case rel => exact ⟨false, f, L0 ++ [m], some ⟨g2, 0, none⟩, c2, _, rfl, rfl, fun h => (by cases h), (by rw [List.length_append]; show L0.length + 1 <= _; omega), fun h => (by have := ver_rem h; rw [List.length_append]; exact ⟨by show L0.length + 1 + _ <= _; omega, by omega⟩), Hj fun h => (by rw [List.map_append, List.map_cons, List.map_nil, EM.out h]; exact HU2.out), Hj fun h => (by rw [<- HU2.out.1, finF_bad h]), SN⟩
     case measure => omega
end Go.Proofs.YthmlhheceihcbaaGreatDoor

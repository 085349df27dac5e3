/- Lemmas, each as it is printed; no conditions but those printed. -/
import Derived.Test.YthmlhheceihcbaaGreatDoorPB20
namespace Go.Proofs.YthmlhheceihcbaaGreatDoor
set_option maxHeartbeats 16000000
open Go.RowKit Cal Str Tok Frac Txt Tree Go.Proofs.Tryz
attribute [local go_sem] calmUpon
set_option linter.unusedVariables false
set_option linter.unusedSimpArgs false
theorem ti_le : tz prog 61 = some (some (.agg #[.string ByteArray.empty, .int .i64 0, .int .i64 0, .int .i64 0, .int .i64 0, .string ByteArray.empty, .slice none 0 0]), 7, 88) := by kernel_rfl
theorem ti_re : tz prog 66 = some (some (.agg #[.int .i64 0, .int .i64 0, .int .i64 0, .int .i64 0, .int .i64 0, .string ByteArray.empty, .slice none 0 0]), 7, 80) := by kernel_rfl
theorem ti_gr : tz prog 64 = some (some (.agg #[.int .i64 0, .int .i64 0, .int .i64 0, .int .i64 0, .int .i64 0, .string ByteArray.empty, .slice none 0 0, .int .i64 0, .int .i64 0, .int .i64 0, .int .i64 0, .string ByteArray.empty, .slice none 0 0]), 13, 152) := by kernel_rfl
theorem ti_cr : tz prog 51 = some (some (.agg #[.int .i64 0, .int .i64 0]), 2, 16) := by kernel_rfl
theorem ti_ix : tz prog 56 = some (some (.agg #[.int .i64 0, .int .i64 0, .int .i64 0]), 3, 24) := by kernel_rfl
theorem i64z : I64 0 := ⟨by decide, by decide⟩
theorem decD_pos {s : ByteArray} (h : decB s = true) : 1 <= decD s := by
 have := dec_only h rfl rfl rfl;unfold fdB fdC validB at this;simp only [Bool.and_eq_true, decide_eq_true_eq] at this;omega
theorem pk_dec {tk : List Tk} (hT : TksOk tk) {s : Pt} (h : pkK tk s = 2) : decB (pkT tk s) = true := by
 obtain ⟨ho, hi⟩ := pkK_some (tk := tk) (s := s) (by omega);have ht : tk[s.i]? = some tk[s.i] := List.getElem?_eq_getElem hi;obtain ⟨h1, h2⟩ := pk_tok ho ht;rw [h2]; exact (hT.each _ (List.mem_of_getElem? ht)).2.2.2.2 (by rw [<- h1]; exact h)
section
variable {b G : Nat} {tk : List Tk} {E : Int} (hT : TksOk tk) (hH : TkHd tk) {wa W : World} {BO N : Nat} {m : VerM} {s : Pt} (hX : RX b G tk E wa s W) (hC : ClS b wa W BO N m) (hN : N <= 8000)
set_option maxRecDepth 20000 in
include hT hH hX hC hN in
theorem rclL (a0 : accB tk kCredit s = false) (a1 : accB tk kIndex s = false) (a2 : accB tk kLet s = true) :
  Calls prog 84 #[.pointer (some ⟨b, 0, none⟩), .pointer (some ⟨BO, 0, none⟩)] W (RCl b G tk E wa BO N (claQ tk m.pl s)) := by
 rw [(claQ_le (v := m.pl) a0 a1 a2).1];have nz := nam_size hT s.adv;unfold RCl;have X0 := hX.re;go_enter func84, ntmps84;go_wp2_with fail;refine (x_tn hT hH X0 ⟨#[99, 114, 101, 100, 105, 116]⟩ a0).mono ?_;rintro e W1 ⟨rfl, X1⟩;go_wp2_with fail;refine (x_tn hT hH X1 ⟨#[105, 110, 100, 101, 120]⟩ a1).mono ?_;rintro e W2 ⟨rfl, X2⟩;go_wp2_with fail;refine (x_ty hT hH X2 ⟨#[108, 101, 116]⟩ a2).mono ?_;rintro e W3 ⟨rfl, X3⟩;go_wp2_with fail;refine (x_name hT X3).mono ?_;rintro e W4 ⟨rfl, X4⟩;go_wp2_with fail;refine c_al X4 fun Y BN X4y RY => ?_
 have hY := BN.lt;have hg : W4.heap.size ≠ b := by have := X4.hb; have := X4.R.size; omega
 have hgO : BO ≠ W4.heap.size := by have := hC.o.lt; have := X4.R.size; omega
 have hgO' := Ne.symm hgO;have h4 := X4.R.size;refine (x_want hT hH X4y ⟨#[61]⟩ (x := kEq)).mono ?_;rintro e W5 ⟨⟨v5, rfl⟩, X5⟩;go_wp2_with fail;refine (x_expr hT hH X5).mono ?_;rintro e W6 ⟨t, ta, tc, rfl, TX0, X6⟩;have Tt := Hj TX0;clear TX0;have B7 := BN.ro X6.R hg;have k := B7.cs;have kf := B7.f;have kl := B7.lt;have R7 := RY.trans X6.R;have o5 := (hC.go R7).o.c (j := 5) rfl;have o5f := (hC.go R7).o.f 5;have o5l := (hC.go R7).o.lt;clear BN;have X6 := X6.tr RY X0.hb X0.hG;have hn := hC.n;have hbz := hC.o.lt
 go_wp2_with (at_builtin; refine wl_app ti_le (hC.go ((X6.p6 h4 1).al _).R).l rfl (by omega) ?d0 ?_)
 case d0 => have := X6.R.size; simp; omega
 intro g2 c2 w8 own grow hat;have Xa := ((((X6.tr hC.ro hX.hb hX.hG).p6 (by have := hC.lt; omega) 1).al _).grown grow (fun q hq => by have := (hC.l.lt q hq).1; have := hC.lt; omega)).put hC.lt 5 (.slice (some ⟨g2, 0, none⟩) (m.le.length + 1) c2);have C8 := Hj (fun hok : (pq tk (expP tk kEq (namP tk s.adv))).2.ok = true => (hC.go ((X6.p6 h4 1).al _).R).appL (x := (namT tk s.adv, (t, .slice ta t.cnt tc))) ⟨nz, (((((Tt.out hok).2 (fun q => W5.heap.size <= q) (fun _ h => h)).ro (Ro.p6 1) (fun q hq => by have := X5.R.size; omega)).rel ((Rel.refl _).alloc _)).mono (fun q hq => hC.off (by have := RY.size; have := X5.R.size; omega)))⟩ own grow hat (by simp) (Rel.refl w8));have O8 := (hC.go ((X6.p6 h4 1).al _).R).o8 grow (fun q hq => (hC.l.lt q hq).1);have k0 := O8.c (j := 5) rfl;have k1 := O8.f 5;have k2 := O8.lt;have GR := Hj grow;have OW := Hj own;have HA := Hj hat;clear grow own hat o5 o5f o5l k kf kl;go_wp2_with fail;refine (x_want hT hH Xa.re ⟨#[59]⟩ (x := kSemi)).mono ?_;rintro e W7 ⟨⟨v7, rfl⟩, X7⟩;go_wp2_with fail;refine Go.Great.bodyPost_end0 rfl rfl ⟨⟨_, rfl⟩, X7.tr Xa.R Xa.hb Xa.hG, { m with le := m.le ++ [(namT tk s.adv, (t, .slice ta t.cnt tc))], la := some ⟨g2, 0, none⟩, lc := c2 }, ?_, fun hok => ⟨?_, (C8.out (expP_ok hok)).go X7.R⟩⟩
 ·have := (O8.set 5 (.slice (some ⟨g2, 0, none⟩) (m.le.length + 1) c2)).ro X7.R (by have := hC.hb; have := hC.lt; omega);simpa [verC] using this
 ·have := (Tt.out (expP_ok hok)).1;simp [VerM.pl, leQ, Ver.le1, this]
set_option maxRecDepth 20000 in
include hT hH hX hC hN in
theorem rclR (a0 : accB tk kCredit s = false) (a1 : accB tk kIndex s = false) (a2 : accB tk kLet s = false) (a3 : accB tk kGrant s = false) (a4 : accB tk kReduce s = true) :
  Calls prog 84 #[.pointer (some ⟨b, 0, none⟩), .pointer (some ⟨BO, 0, none⟩)] W (RCl b G tk E wa BO N (claQ tk m.pl s)) := by
 rw [(claQ_re (v := m.pl) a0 a1 a2 a3 a4).1];have nz : I64 (wrdT tk benL s.adv) := wrd_bd benL_bd;unfold RCl;have X0 := hX.re;go_enter func84, ntmps84;go_wp2_with fail;refine (x_tn hT hH X0 ⟨#[99, 114, 101, 100, 105, 116]⟩ a0).mono ?_;rintro e W1 ⟨rfl, X1⟩;go_wp2_with fail;refine (x_tn hT hH X1 ⟨#[105, 110, 100, 101, 120]⟩ a1).mono ?_;rintro e W2 ⟨rfl, X2⟩;go_wp2_with fail;refine (x_tn hT hH X2 ⟨#[108, 101, 116]⟩ a2).mono ?_;rintro e W3 ⟨rfl, X3⟩;go_wp2_with fail;refine (x_tn hT hH X3 ⟨#[103, 114, 97, 110, 116]⟩ a3).mono ?_;rintro e W4 ⟨rfl, X4⟩;go_wp2_with fail;refine (x_ty hT hH X4 ⟨#[114, 101, 100, 117, 99, 101]⟩ a4).mono ?_;rintro e W5 ⟨rfl, X5⟩;go_wp2_with fail;refine (x_of hT X5 2 benL (by simp)).mono ?_;rintro e W6 ⟨rfl, X6⟩;go_wp2_with fail;refine c_al X6 fun Y BN X6y RY => ?_
 have hY := BN.lt;have hg : W6.heap.size ≠ b := by have := X6.hb; have := X6.R.size; omega
 have hgO : BO ≠ W6.heap.size := by have := hC.o.lt; have := X6.R.size; omega
 have hgO' := Ne.symm hgO;have h4 := X6.R.size;refine (x_want hT hH X6y ⟨#[98, 121]⟩ (x := kBy)).mono ?_;rintro e W7 ⟨⟨v7, rfl⟩, X7⟩;go_wp2_with fail;refine (x_expr hT hH X7).mono ?_;rintro e W8 ⟨t, ta, tc, rfl, TX0, X8⟩;have Tt := Hj TX0;clear TX0;have B7 := BN.ro X8.R hg;have k := B7.cs;have kf := B7.f;have kl := B7.lt;have R7 := RY.trans X8.R;have o5 := (hC.go R7).o.c (j := 7) rfl;have o5f := (hC.go R7).o.f 7;have o5l := (hC.go R7).o.lt;clear BN;have X8 := X8.tr RY X0.hb X0.hG;have hn := hC.n;have hbz := hC.o.lt
 go_wp2_with (at_builtin; refine wl_app ti_re (hC.go ((X8.p6 h4 1).al _).R).r rfl (by omega) ?d0 ?_)
 case d0 => have := X8.R.size; simp; omega
 intro g2 c2 w8 own grow hat;have Xa := ((((X8.tr hC.ro hX.hb hX.hG).p6 (by have := hC.lt; omega) 1).al _).grown grow (fun q hq => by have := (hC.r.lt q hq).1; have := hC.lt; omega)).put hC.lt 7 (.slice (some ⟨g2, 0, none⟩) (m.re.length + 1) c2);have C8 := Hj (fun hok : (pq tk (expP tk kBy (wrdP tk benL s.adv))).2.ok = true => (hC.go ((X8.p6 h4 1).al _).R).appR (x := (wrdT tk benL s.adv, (t, .slice ta t.cnt tc))) ⟨nz, (((((Tt.out hok).2 (fun q => W7.heap.size <= q) (fun _ h => h)).ro (Ro.p6 1) (fun q hq => by have := X7.R.size; omega)).rel ((Rel.refl _).alloc _)).mono (fun q hq => hC.off (by have := RY.size; have := X7.R.size; omega)))⟩ own grow hat (by simp) (Rel.refl w8));have O8 := (hC.go ((X8.p6 h4 1).al _).R).o8 grow (fun q hq => (hC.r.lt q hq).1);have k0 := O8.c (j := 7) rfl;have k1 := O8.f 7;have k2 := O8.lt;have GR := Hj grow;have OW := Hj own;have HA := Hj hat;clear grow own hat o5 o5f o5l k kf kl;go_wp2_with fail;refine (x_want hT hH Xa.re ⟨#[59]⟩ (x := kSemi)).mono ?_;rintro e W9 ⟨⟨v9, rfl⟩, X9⟩;go_wp2_with fail;refine Go.Great.bodyPost_end0 rfl rfl ⟨⟨_, rfl⟩, X9.tr Xa.R Xa.hb Xa.hG, { m with re := m.re ++ [(wrdT tk benL s.adv, (t, .slice ta t.cnt tc))], ra := some ⟨g2, 0, none⟩, rc := c2 }, ?_, fun hok => ⟨?_, (C8.out (expP_ok hok)).go X9.R⟩⟩
 ·have := (O8.set 7 (.slice (some ⟨g2, 0, none⟩) (m.re.length + 1) c2)).ro X9.R (by have := hC.hb; have := hC.lt; omega);simpa [verC] using this
 ·have := (Tt.out (expP_ok hok)).1;simp [VerM.pl, reQ, Ver.re1, this]
set_option maxRecDepth 20000 in
include hT hH hX hC hN in
theorem rclG (a0 : accB tk kCredit s = false) (a1 : accB tk kIndex s = false) (a2 : accB tk kLet s = false) (a3 : accB tk kGrant s = true) :
  Calls prog 84 #[.pointer (some ⟨b, 0, none⟩), .pointer (some ⟨BO, 0, none⟩)] W (RCl b G tk E wa BO N (claQ tk m.pl s)) := by
 rw [(claQ_gr (v := m.pl) a0 a1 a2 a3).1];have nz : I64 (wrdT tk benL s.adv) := wrd_bd benL_bd;unfold RCl;have X0 := hX.re;go_enter func84, ntmps84;go_wp2_with fail;refine (x_tn hT hH X0 ⟨#[99, 114, 101, 100, 105, 116]⟩ a0).mono ?_;rintro e W1 ⟨rfl, X1⟩;go_wp2_with fail;refine (x_tn hT hH X1 ⟨#[105, 110, 100, 101, 120]⟩ a1).mono ?_;rintro e W2 ⟨rfl, X2⟩;go_wp2_with fail;refine (x_tn hT hH X2 ⟨#[108, 101, 116]⟩ a2).mono ?_;rintro e W3 ⟨rfl, X3⟩;go_wp2_with fail;refine (x_ty hT hH X3 ⟨#[103, 114, 97, 110, 116]⟩ a3).mono ?_;rintro e W4 ⟨rfl, X4⟩;go_wp2_with fail;refine (x_of hT X4 2 benL (by simp)).mono ?_;rintro e W5 ⟨rfl, X5⟩;go_wp2_with fail;refine c_al X5 fun Y BN X5y RY => ?_
 have hY := BN.lt;have hg : W5.heap.size ≠ b := by have := X5.hb; have := X5.R.size; omega
 have hgO : BO ≠ W5.heap.size := by have := hC.o.lt; have := X5.R.size; omega
 have hgO' := Ne.symm hgO;have h4 := X5.R.size;refine (x_want hT hH X5y ⟨#[105, 102]⟩ (x := kIf)).mono ?_;rintro e W6 ⟨⟨v6, rfl⟩, X6⟩;go_wp2_with fail;refine (x_expr hT hH X6).mono ?_;rintro e W7 ⟨t, ta, tc, rfl, TX0, X7⟩;have Tt := Hj TX0;clear TX0;have B7 := BN.ro X7.R hg;have k := B7.cs;have kf := B7.f;have kl := B7.lt;clear BN;have X7 := X7.tr RY X5.hb X5.hG;go_wp2_with fail;refine c_p6 X7 B7 h4 hg fun Z BN X7z RZ RG => ?_
 have hZ := BN.lt;clear k kf kl B7;refine (x_want hT hH X7z ⟨#[112, 97, 121]⟩ (x := kPay)).mono ?_;rintro e W8 ⟨⟨v8, rfl⟩, X8⟩;go_wp2_with fail;refine (x_expr hT hH X8).mono ?_;rintro e W9 ⟨u, ua, uc, rfl, TX0, X9⟩;have Tu := Hj TX0;clear TX0;have RQ := X9.R;have B7 := BN.ro X9.R hg;have k := B7.cs;have kf := B7.f;have kl := B7.lt;have R7 := RZ.trans X9.R;have o5 := (hC.go R7).o.c (j := 6) rfl;have o5f := (hC.go R7).o.f 6;have o5l := (hC.go R7).o.lt;clear BN;have X9 := X9.tr RZ X0.hb X0.hG;have hn := hC.n;have hbz := hC.o.lt
 go_wp2_with (at_builtin; refine wl_app ti_gr (hC.go ((X9.p6 h4 7).al _).R).g rfl (by omega) ?d0 ?_)
 case d0 => have := X9.R.size; simp; omega
 intro g2 c2 w8 own grow hat;have Xa := ((((X9.tr hC.ro hX.hb hX.hG).p6 (by have := hC.lt; omega) 7).al _).grown grow (fun q hq => by have := (hC.g.lt q hq).1; have := hC.lt; omega)).put hC.lt 6 (.slice (some ⟨g2, 0, none⟩) (m.gr.length + 1) c2);have C8 := Hj (fun hok : (pq tk (expP tk kPay (pq tk (expP tk kIf (wrdP tk benL s.adv))).2)).2.ok = true => (hC.go ((X9.p6 h4 7).al _).R).appG (x := (wrdT tk benL s.adv, (t, .slice ta t.cnt tc), (u, .slice ua u.cnt uc))) ⟨nz, ((((((Tt.out (expP_ok (pq_ok hok))).2 (fun q => W6.heap.size <= q) (fun _ h => h)).ro RG (fun q hq => by have := X6.R.size; omega)).ro RQ (fun q hq => by have := X0.hb; have := RY.size; have := X6.R.size; omega)).ro (Ro.p6 7) (fun q hq => by have := X6.R.size; omega)).rel ((Rel.refl _).alloc _)).mono (fun q hq => hC.off (by have := RY.size; have := X6.R.size; omega)), (((((Tu.out hok).2 (fun q => W8.heap.size <= q) (fun _ h => h)).ro (Ro.p6 7) (fun q hq => by have := X8.R.size; omega)).rel ((Rel.refl _).alloc _)).mono (fun q hq => hC.off (by have := RZ.size; have := X8.R.size; omega)))⟩ own grow hat (by simp) (Rel.refl w8));have O8 := (hC.go ((X9.p6 h4 7).al _).R).o8 grow (fun q hq => (hC.g.lt q hq).1);have k0 := O8.c (j := 6) rfl;have k1 := O8.f 6;have k2 := O8.lt;have GR := Hj grow;have OW := Hj own;have HA := Hj hat;clear grow own hat o5 o5f o5l k kf kl;go_wp2_with fail;refine (x_want hT hH Xa.re ⟨#[59]⟩ (x := kSemi)).mono ?_;rintro e W10 ⟨⟨v10, rfl⟩, X10⟩;go_wp2_with fail;refine Go.Great.bodyPost_end0 rfl rfl ⟨⟨_, rfl⟩, X10.tr Xa.R Xa.hb Xa.hG, { m with gr := m.gr ++ [(wrdT tk benL s.adv, (t, .slice ta t.cnt tc), (u, .slice ua u.cnt uc))], ga := some ⟨g2, 0, none⟩, gc := c2 }, ?_, fun hok => ⟨?_, (C8.out (expP_ok hok)).go X10.R⟩⟩
 ·have := (O8.set 6 (.slice (some ⟨g2, 0, none⟩) (m.gr.length + 1) c2)).ro X10.R (by have := hC.hb; have := hC.lt; omega);simpa [verC] using this
 ·have h1 := (Tu.out (expP_ok hok)).1;have h2 := (Tt.out (expP_ok (pq_ok (expP_ok hok)))).1;simp [VerM.pl, grQ, Ver.gr1, h1, h2]
set_option maxRecDepth 20000 in
include hT hH hX hC hN in
theorem rclCy  (a0 : accB tk kCredit s = true) (al : accB tk kLimit (wrdP tk kndL s.adv) = true) :
  Calls prog 84 #[.pointer (some ⟨b, 0, none⟩), .pointer (some ⟨BO, 0, none⟩)] W (RCl b G tk E wa BO N (claQ tk m.pl s)) := by
 rw [(claQ_cr (v := m.pl) a0).1];have nz : I64 (wrdT tk kndL s.adv) := wrd_bd kndL_bd;have nu : I64 (numT tk 1 73049 (wrdP tk kndL s.adv).adv) := num_bd;unfold RCl;rw [show (crQ tk m.pl s.adv).2 = numP tk 1 73049 (wrdP tk kndL s.adv).adv from by unfold crQ limQ; rw [if_pos al]];have X0 := hX.re;go_enter func84, ntmps84;go_wp2_with fail;refine (x_ty hT hH X0 ⟨#[99, 114, 101, 100, 105, 116]⟩ a0).mono ?_;rintro e W1 ⟨rfl, X1⟩;go_wp2_with fail;refine (x_of hT X1 1 kndL (by simp)).mono ?_;rintro e W2 ⟨rfl, X2⟩;go_wp2_with fail;refine c_al X2 fun Y BN X2y RY => ?_
 have hY := BN.lt;have hg : W2.heap.size ≠ b := by have := X2.hb; have := X2.R.size; omega
 have hgO : BO ≠ W2.heap.size := by have := hC.o.lt; have := X2.R.size; omega
 have hgO' := Ne.symm hgO;have h4 := X2.R.size;refine (x_ty hT hH X2y ⟨#[108, 105, 109, 105, 116]⟩ al).mono ?_;rintro e W3 ⟨rfl, X3⟩;go_wp2_with fail;refine (x_whole hT X3 1 73049).mono ?_;rintro e W4 ⟨rfl, X4⟩;have B7 := BN.ro X4.R hg;have k := B7.cs;have kf := B7.f;have kl := B7.lt;have R7 := RY.trans X4.R;have o5 := (hC.go R7).o.c (j := 3) rfl;have o5f := (hC.go R7).o.f 3;have o5l := (hC.go R7).o.lt;clear BN;have X4 := X4.tr RY X0.hb X0.hG;have hn := hC.n;have hbz := hC.o.lt
 go_wp2_with (at_builtin; refine wl_app ti_cr (hC.go ((X4.put h4 1 _).al _).R).c rfl (by omega) ?d0 ?_)
 case d0 => have := X4.R.size; simp; omega
 intro g2 c2 w8 own grow hat;have Xa := ((((X4.tr hC.ro hX.hb hX.hG).put (by have := hC.lt; omega) 1 _).al _).grown grow (fun q hq => by have := (hC.c.lt q hq).1; have := hC.lt; omega)).put hC.lt 3 (.slice (some ⟨g2, 0, none⟩) (m.cr.length + 1) c2);have C8 := Hj ((hC.go ((X4.put h4 1 _).al _).R).appC (x := (wrdT tk kndL s.adv, numT tk 1 73049 (wrdP tk kndL s.adv).adv)) ⟨nz, nu⟩ own grow hat (by simp) (Rel.refl w8));have O8 := (hC.go ((X4.put h4 1 _).al _).R).o8 grow (fun q hq => (hC.c.lt q hq).1);have k0 := O8.c (j := 3) rfl;have k1 := O8.f 3;have k2 := O8.lt;have GR := Hj grow;have OW := Hj own;have HA := Hj hat;clear grow own hat o5 o5f o5l k kf kl;go_wp2_with fail;refine (x_want hT hH Xa.re ⟨#[59]⟩ (x := kSemi)).mono ?_;rintro e W5 ⟨⟨v5, rfl⟩, X5⟩;go_wp2_with fail;refine Go.Great.bodyPost_end0 rfl rfl ⟨⟨_, rfl⟩, X5.tr Xa.R Xa.hb Xa.hG, { m with cr := m.cr ++ [(wrdT tk kndL s.adv, numT tk 1 73049 (wrdP tk kndL s.adv).adv)], ca := some ⟨g2, 0, none⟩, cc := c2 }, ?_, fun hok => ⟨?_, C8.out.go X5.R⟩⟩
 ·have := (O8.set 3 (.slice (some ⟨g2, 0, none⟩) (m.cr.length + 1) c2)).ro X5.R (by have := hC.hb; have := hC.lt; omega);simpa [verC] using this
 ·simp [VerM.pl, crQ, Ver.cr1, limQ, al]
set_option maxRecDepth 20000 in
include hT hH hX hC hN in
theorem rclCn  (a0 : accB tk kCredit s = true) (al : accB tk kLimit (wrdP tk kndL s.adv) = false) :
  Calls prog 84 #[.pointer (some ⟨b, 0, none⟩), .pointer (some ⟨BO, 0, none⟩)] W (RCl b G tk E wa BO N (claQ tk m.pl s)) := by
 rw [(claQ_cr (v := m.pl) a0).1];have nz : I64 (wrdT tk kndL s.adv) := wrd_bd kndL_bd;unfold RCl;rw [show (crQ tk m.pl s.adv).2 = wrdP tk kndL s.adv from by unfold crQ limQ; rw [if_neg (by simp [al])]];have X0 := hX.re;go_enter func84, ntmps84;go_wp2_with fail;refine (x_ty hT hH X0 ⟨#[99, 114, 101, 100, 105, 116]⟩ a0).mono ?_;rintro e W1 ⟨rfl, X1⟩;go_wp2_with fail;refine (x_of hT X1 1 kndL (by simp)).mono ?_;rintro e W2 ⟨rfl, X2⟩;go_wp2_with fail;refine c_al X2 fun Y BN X2y RY => ?_
 have hY := BN.lt;have hg : W2.heap.size ≠ b := by have := X2.hb; have := X2.R.size; omega
 have hgO : BO ≠ W2.heap.size := by have := hC.o.lt; have := X2.R.size; omega
 have hgO' := Ne.symm hgO;have h4 := X2.R.size;refine (x_tn hT hH X2y ⟨#[108, 105, 109, 105, 116]⟩ al).mono ?_;rintro e W3 ⟨rfl, X3⟩;have B7 := BN.ro X3.R hg;have k := B7.cs;have kf := B7.f;have kl := B7.lt;have R7 := RY.trans X3.R;have o5 := (hC.go R7).o.c (j := 3) rfl;have o5f := (hC.go R7).o.f 3;have o5l := (hC.go R7).o.lt;clear BN;have X3 := X3.tr RY X0.hb X0.hG;have hn := hC.n;have hbz := hC.o.lt
 go_wp2_with (at_builtin; refine wl_app ti_cr (hC.go (X3.al _).R).c rfl (by omega) ?d0 ?_)
 case d0 => have := X3.R.size; simp; omega
 intro g2 c2 w8 own grow hat;have Xa := (((X3.tr hC.ro hX.hb hX.hG).al _).grown grow (fun q hq => by have := (hC.c.lt q hq).1; have := hC.lt; omega)).put hC.lt 3 (.slice (some ⟨g2, 0, none⟩) (m.cr.length + 1) c2);have C8 := Hj ((hC.go (X3.al _).R).appC (x := (wrdT tk kndL s.adv, 0)) ⟨nz, i64z⟩ own grow hat (by simp) (Rel.refl w8));have O8 := (hC.go (X3.al _).R).o8 grow (fun q hq => (hC.c.lt q hq).1);have k0 := O8.c (j := 3) rfl;have k1 := O8.f 3;have k2 := O8.lt;have GR := Hj grow;have OW := Hj own;have HA := Hj hat;clear grow own hat o5 o5f o5l k kf kl;go_wp2_with fail;refine (x_want hT hH Xa.re ⟨#[59]⟩ (x := kSemi)).mono ?_;rintro e W4 ⟨⟨v4, rfl⟩, X4⟩;go_wp2_with fail;refine Go.Great.bodyPost_end0 rfl rfl ⟨⟨_, rfl⟩, X4.tr Xa.R Xa.hb Xa.hG, { m with cr := m.cr ++ [(wrdT tk kndL s.adv, 0)], ca := some ⟨g2, 0, none⟩, cc := c2 }, ?_, fun hok => ⟨?_, C8.out.go X4.R⟩⟩
 ·have := (O8.set 3 (.slice (some ⟨g2, 0, none⟩) (m.cr.length + 1) c2)).ro X4.R (by have := hC.hb; have := hC.lt; omega);simpa [verC] using this
 ·simp [VerM.pl, crQ, Ver.cr1, limQ, al]
set_option maxRecDepth 20000 in
include hT hH hX hC hN in
theorem rclSA (a0 : accB tk kCredit s = false) (a1 : accB tk kIndex s = true) (ek : (pkK tk (numP tk 1900 2099 s.adv) == 2) = false) :
  Calls prog 84 #[.pointer (some ⟨b, 0, none⟩), .pointer (some ⟨BO, 0, none⟩)] W (RCl b G tk E wa BO N (claQ tk m.pl s)) := by
 rw [(claQ_se (v := m.pl) a0 a1).1];have nz : I64 (numT tk 1900 2099 s.adv) := num_bd;have hf : facO tk (numP tk 1900 2099 s.adv) = false := by unfold facO; rw [ek]; rfl
 have e1 : facT tk (numP tk 1900 2099 s.adv) = (0, 0) := by unfold facT; rw [hf]; rfl
 have e2 : facP tk (numP tk 1900 2099 s.adv) = ((numP tk 1900 2099 s.adv)).no := by unfold facP; rw [hf]; rfl
 clear hf;unfold RCl;rw [show (seQ tk m.pl s.adv).2 = facP tk (numP tk 1900 2099 s.adv) from rfl, e2];have X0 := hX.re;go_enter func84, ntmps84;go_wp2_with fail;refine (x_tn hT hH X0 ⟨#[99, 114, 101, 100, 105, 116]⟩ a0).mono ?_;rintro e W1 ⟨rfl, X1⟩;go_wp2_with fail;refine (x_ty hT hH X1 ⟨#[105, 110, 100, 101, 120]⟩ a1).mono ?_;rintro e W2 ⟨rfl, X2⟩;go_wp2_with fail;refine (x_whole hT X2 1900 2099).mono ?_;rintro e W3 ⟨rfl, X3⟩;go_wp2_with fail;refine c_al X3 fun Y BN X3y RY => ?_
 have hY := BN.lt;have hg : W3.heap.size ≠ b := by have := X3.hb; have := X3.R.size; omega
 have hgO : BO ≠ W3.heap.size := by have := hC.o.lt; have := X3.R.size; omega
 have hgO' := Ne.symm hgO;have h4 := X3.R.size;have KD := rkind_any b G tk E _ 2 _ X3y.P (by decide);unfold BRes at KD;rw [ek] at KD;refine KD.mono ?_;rintro e W4 ⟨rfl, h6⟩;have X4 := X3y.rel h6;clear KD h6;have B7 := BN.ro X4.R hg;have k := B7.cs;have kl := B7.lt;go_wp2_with fail;clear k kl B7;refine (x_stop X4).mono ?_;rintro e W5 ⟨⟨v5, rfl⟩, X5⟩;have B7 := BN.ro X5.R hg;have k := B7.cs;have kf := B7.f;have kl := B7.lt;have R7 := RY.trans X5.R;have o5 := (hC.go R7).o.c (j := 4) rfl;have o5f := (hC.go R7).o.f 4;have o5l := (hC.go R7).o.lt;clear BN;have X5 := X5.tr RY X0.hb X0.hG;have hn := hC.n;have hbz := hC.o.lt
 go_wp2_with (at_builtin; refine wl_app ti_ix (hC.go (X5.al _).R).s rfl (by omega) ?d0 ?_)
 case d0 => have := X5.R.size; simp; omega
 intro g2 c2 w8 own grow hat;have Xa := (((X5.tr hC.ro hX.hb hX.hG).al _).grown grow (fun q hq => by have := (hC.s.lt q hq).1; have := hC.lt; omega)).put hC.lt 4 (.slice (some ⟨g2, 0, none⟩) (m.se.length + 1) c2);have C8 := Hj ((hC.go (X5.al _).R).appS (x := (numT tk 1900 2099 s.adv, 0, 0)) ⟨nz, i64z, i64z⟩ own grow hat (by simp) (Rel.refl w8));have O8 := (hC.go (X5.al _).R).o8 grow (fun q hq => (hC.s.lt q hq).1);have k0 := O8.c (j := 4) rfl;have k1 := O8.f 4;have k2 := O8.lt;have GR := Hj grow;have OW := Hj own;have HA := Hj hat;clear grow own hat o5 o5f o5l k kf kl;go_wp2_with fail;refine (x_want hT hH Xa.re ⟨#[59]⟩ (x := kSemi)).mono ?_;rintro e W6 ⟨⟨v6, rfl⟩, X6⟩;go_wp2_with fail;refine Go.Great.bodyPost_end0 rfl rfl ⟨⟨_, rfl⟩, X6.tr Xa.R Xa.hb Xa.hG, { m with se := m.se ++ [(numT tk 1900 2099 s.adv, 0, 0)], sa := some ⟨g2, 0, none⟩, sc := c2 }, ?_, fun hok => ⟨?_, C8.out.go X6.R⟩⟩
 ·have := (O8.set 4 (.slice (some ⟨g2, 0, none⟩) (m.se.length + 1) c2)).ro X6.R (by have := hC.hb; have := hC.lt; omega);simpa [verC] using this
 ·simp [VerM.pl, seQ, Ver.se1, e1]
set_option maxRecDepth 20000 in
include hT hH hX hC hN in
theorem rclSB (a0 : accB tk kCredit s = false) (a1 : accB tk kIndex s = true) (ek : (pkK tk (numP tk 1900 2099 s.adv) == 2) = true) (d1 : decX (pkT tk (numP tk 1900 2099 s.adv)) = 2) (d2 : 1 <= decN (pkT tk (numP tk 1900 2099 s.adv))) :
  Calls prog 84 #[.pointer (some ⟨b, 0, none⟩), .pointer (some ⟨BO, 0, none⟩)] W (RCl b G tk E wa BO N (claQ tk m.pl s)) := by
 rw [(claQ_se (v := m.pl) a0 a1).1];have nz : I64 (numT tk 1900 2099 s.adv) := num_bd;obtain ⟨hok, hi⟩ := pkK_some (tk := tk) (s := (numP tk 1900 2099 s.adv)) (by have := eq_of_beq ek; omega);have hdB : decB (pkT tk (numP tk 1900 2099 s.adv)) = true := pk_dec hT (eq_of_beq ek);have hz := pkT_size hT (numP tk 1900 2099 s.adv);have C5 := Hj fun w => rDecimal_any (pkT tk (numP tk 1900 2099 s.adv)) w (by unfold maxLen; omega)
 unfold DecRes at C5;rw [hdB] at C5;have hD0 := decD_pos hdB;have hf : facO tk (numP tk 1900 2099 s.adv) = true := by unfold facO; rw [ek, hdB, d1]; simpa using d2
 have e1 : facT tk (numP tk 1900 2099 s.adv) = (decN (pkT tk (numP tk 1900 2099 s.adv)), decD (pkT tk (numP tk 1900 2099 s.adv))) := by unfold facT; rw [hf]; rfl
 have e2 : facP tk (numP tk 1900 2099 s.adv) = ((numP tk 1900 2099 s.adv)).adv := by unfold facP; rw [hf]; rfl
 unfold RCl;rw [show (seQ tk m.pl s.adv).2 = facP tk (numP tk 1900 2099 s.adv) from rfl, e2];have X0 := hX.re;go_enter func84, ntmps84;go_wp2_with fail;refine (x_tn hT hH X0 ⟨#[99, 114, 101, 100, 105, 116]⟩ a0).mono ?_;rintro e W1 ⟨rfl, X1⟩;go_wp2_with fail;refine (x_ty hT hH X1 ⟨#[105, 110, 100, 101, 120]⟩ a1).mono ?_;rintro e W2 ⟨rfl, X2⟩;go_wp2_with fail;refine (x_whole hT X2 1900 2099).mono ?_;rintro e W3 ⟨rfl, X3⟩;go_wp2_with fail;refine c_al X3 fun Y BN X3y RY => ?_
 have hY := BN.lt;have hg : W3.heap.size ≠ b := by have := X3.hb; have := X3.R.size; omega
 have hgO : BO ≠ W3.heap.size := by have := hC.o.lt; have := X3.R.size; omega
 have hgO' := Ne.symm hgO;have h4 := X3.R.size;have KD := rkind_any b G tk E _ 2 _ X3y.P (by decide);unfold BRes at KD;rw [ek] at KD;refine KD.mono ?_;rintro e W4 ⟨rfl, h6⟩;have X4 := X3y.rel h6;clear KD h6;obtain ⟨tt, cap, ht, c0, -, q1, -⟩ := rdr_at X4.P hi;rw [<- (pk_tok hok ht).2] at q1;have c1 := X4.P.c1;have ii : (((numP tk 1900 2099 s.adv).i : Nat) : Int) < (tk.length : Int) := by omega
 go_wp2_with fail;refine wrs 16 (fun gf W5 hgf BF hr => ?_);have X5 := X4.rel hr;clear c0 c1 q1 ii;have kF := BF.cs;have hgF : gf ≠ W3.heap.size := by have := X4.R.size; omega
 have b1 := X5.P.c1;have b1f := X5.P.f1;have b1l := X5.P.lt;have hO : BO ≠ b := by have := hC.hb; have := hC.lt; omega
 have hO' := Ne.symm hO;have hg' := Ne.symm hg;have wi : IntKind.i64.wrap ((((numP tk 1900 2099 s.adv).i : Nat) : Int) + 1) = (((numP tk 1900 2099 s.adv).i : Nat) : Int) + 1 := IntWalk.i64_in _ ⟨by omega, by have := hT.len; omega⟩;have e3 : decide (0 < decN (pkT tk (numP tk 1900 2099 s.adv))) = true := dT (by omega);have e4 : (decD (pkT tk (numP tk 1900 2099 s.adv)) == 0) = false := by rw [zn]; omega
 have B7 := BN.ro X5.R hg;have k := B7.cs;have kf := B7.f;have kl := B7.lt;have R7 := RY.trans X5.R;have o5 := (hC.go R7).o.c (j := 4) rfl;have o5f := (hC.go R7).o.f 4;have o5l := (hC.go R7).o.lt;clear BN;have X5 := X5.tr RY X0.hb X0.hG;have hn := hC.n;have hbz := hC.o.lt
 go_wp2_with (at_builtin; refine wl_app ti_ix (hC.go (((X5.p2 h4 1).adv hi).al _).R).s rfl (by omega) ?d0 ?_)
 case d0 => have := X5.R.size; simp; omega
 intro g2 c2 w8 own grow hat;have Xa := (((((X5.tr hC.ro hX.hb hX.hG).p2 (by have := hC.lt; omega) 1).adv hi).al _).grown grow (fun q hq => by have := (hC.s.lt q hq).1; have := hC.lt; omega)).put hC.lt 4 (.slice (some ⟨g2, 0, none⟩) (m.se.length + 1) c2);have C8 := Hj ((hC.go (((X5.p2 h4 1).adv hi).al _).R).appS (x := (numT tk 1900 2099 s.adv, decN (pkT tk (numP tk 1900 2099 s.adv)), decD (pkT tk (numP tk 1900 2099 s.adv)))) ⟨nz, dec_bd _⟩ own grow hat (by simp) (Rel.refl w8));have O8 := (hC.go (((X5.p2 h4 1).adv hi).al _).R).o8 grow (fun q hq => (hC.s.lt q hq).1);have k0 := O8.c (j := 4) rfl;have k1 := O8.f 4;have k2 := O8.lt;have GR := Hj grow;have OW := Hj own;have HA := Hj hat;clear grow own hat o5 o5f o5l k kf kl;go_wp2_with fail;refine (x_want hT hH Xa.re ⟨#[59]⟩ (x := kSemi)).mono ?_;rintro e W6 ⟨⟨v6, rfl⟩, X6⟩;go_wp2_with fail;refine Go.Great.bodyPost_end0 rfl rfl ⟨⟨_, rfl⟩, X6.tr Xa.R Xa.hb Xa.hG, { m with se := m.se ++ [(numT tk 1900 2099 s.adv, decN (pkT tk (numP tk 1900 2099 s.adv)), decD (pkT tk (numP tk 1900 2099 s.adv)))], sa := some ⟨g2, 0, none⟩, sc := c2 }, ?_, fun hok => ⟨?_, C8.out.go X6.R⟩⟩
 ·have := (O8.set 4 (.slice (some ⟨g2, 0, none⟩) (m.se.length + 1) c2)).ro X6.R (by have := hC.hb; have := hC.lt; omega);simpa [verC] using this
 ·simp [VerM.pl, seQ, Ver.se1, e1]
set_option maxRecDepth 20000 in
include hT hH hX hC hN in
theorem rclSC (a0 : accB tk kCredit s = false) (a1 : accB tk kIndex s = true) (ek : (pkK tk (numP tk 1900 2099 s.adv) == 2) = true) (d1 : ¬ decX (pkT tk (numP tk 1900 2099 s.adv)) = 2) :
  Calls prog 84 #[.pointer (some ⟨b, 0, none⟩), .pointer (some ⟨BO, 0, none⟩)] W (RCl b G tk E wa BO N (claQ tk m.pl s)) := by
 rw [(claQ_se (v := m.pl) a0 a1).1];have nz : I64 (numT tk 1900 2099 s.adv) := num_bd;obtain ⟨hok, hi⟩ := pkK_some (tk := tk) (s := (numP tk 1900 2099 s.adv)) (by have := eq_of_beq ek; omega);have hdB : decB (pkT tk (numP tk 1900 2099 s.adv)) = true := pk_dec hT (eq_of_beq ek);have hz := pkT_size hT (numP tk 1900 2099 s.adv);have C5 := Hj fun w => rDecimal_any (pkT tk (numP tk 1900 2099 s.adv)) w (by unfold maxLen; omega)
 unfold DecRes at C5;rw [hdB] at C5;have hD0 := decD_pos hdB;have hf : facO tk (numP tk 1900 2099 s.adv) = false := by unfold facO; rw [ek, hdB]; simp [d1]
 have e1 : facT tk (numP tk 1900 2099 s.adv) = (0, 0) := by unfold facT; rw [hf]; rfl
 have e2 : facP tk (numP tk 1900 2099 s.adv) = ((numP tk 1900 2099 s.adv)).no := by unfold facP; rw [hf]; rfl
 unfold RCl;rw [show (seQ tk m.pl s.adv).2 = facP tk (numP tk 1900 2099 s.adv) from rfl, e2];have X0 := hX.re;go_enter func84, ntmps84;go_wp2_with fail;refine (x_tn hT hH X0 ⟨#[99, 114, 101, 100, 105, 116]⟩ a0).mono ?_;rintro e W1 ⟨rfl, X1⟩;go_wp2_with fail;refine (x_ty hT hH X1 ⟨#[105, 110, 100, 101, 120]⟩ a1).mono ?_;rintro e W2 ⟨rfl, X2⟩;go_wp2_with fail;refine (x_whole hT X2 1900 2099).mono ?_;rintro e W3 ⟨rfl, X3⟩;go_wp2_with fail;refine c_al X3 fun Y BN X3y RY => ?_
 have hY := BN.lt;have hg : W3.heap.size ≠ b := by have := X3.hb; have := X3.R.size; omega
 have hgO : BO ≠ W3.heap.size := by have := hC.o.lt; have := X3.R.size; omega
 have hgO' := Ne.symm hgO;have h4 := X3.R.size;have KD := rkind_any b G tk E _ 2 _ X3y.P (by decide);unfold BRes at KD;rw [ek] at KD;refine KD.mono ?_;rintro e W4 ⟨rfl, h6⟩;have X4 := X3y.rel h6;clear KD h6;obtain ⟨tt, cap, ht, c0, -, q1, -⟩ := rdr_at X4.P hi;rw [<- (pk_tok hok ht).2] at q1;have c1 := X4.P.c1;have ii : (((numP tk 1900 2099 s.adv).i : Nat) : Int) < (tk.length : Int) := by omega
 go_wp2_with fail;refine wrs 16 (fun gf W5 hgf BF hr => ?_);have X5 := X4.rel hr;clear c0 c1 q1 ii;have B7 := BN.ro X5.R hg;have k := B7.cs;have kl := B7.lt;have kF := BF.cs;have e5 : (decX (pkT tk (numP tk 1900 2099 s.adv)) == 2) = false := by rw [zn]; exact d1
 go_wp2_with fail;clear k kl B7 kF;refine (x_stop X5).mono ?_;rintro e W6 ⟨⟨v6, rfl⟩, X6⟩;have B7 := BN.ro X6.R hg;have k := B7.cs;have kf := B7.f;have kl := B7.lt;have R7 := RY.trans X6.R;have o5 := (hC.go R7).o.c (j := 4) rfl;have o5f := (hC.go R7).o.f 4;have o5l := (hC.go R7).o.lt;clear BN;have X6 := X6.tr RY X0.hb X0.hG;have hn := hC.n;have hbz := hC.o.lt
 go_wp2_with (at_builtin; refine wl_app ti_ix (hC.go (X6.al _).R).s rfl (by omega) ?d0 ?_)
 case d0 => have := X6.R.size; simp; omega
 intro g2 c2 w8 own grow hat;have Xa := (((X6.tr hC.ro hX.hb hX.hG).al _).grown grow (fun q hq => by have := (hC.s.lt q hq).1; have := hC.lt; omega)).put hC.lt 4 (.slice (some ⟨g2, 0, none⟩) (m.se.length + 1) c2);have C8 := Hj ((hC.go (X6.al _).R).appS (x := (numT tk 1900 2099 s.adv, 0, 0)) ⟨nz, i64z, i64z⟩ own grow hat (by simp) (Rel.refl w8));have O8 := (hC.go (X6.al _).R).o8 grow (fun q hq => (hC.s.lt q hq).1);have k0 := O8.c (j := 4) rfl;have k1 := O8.f 4;have k2 := O8.lt;have GR := Hj grow;have OW := Hj own;have HA := Hj hat;clear grow own hat o5 o5f o5l k kf kl;go_wp2_with fail;refine (x_want hT hH Xa.re ⟨#[59]⟩ (x := kSemi)).mono ?_;rintro e W7 ⟨⟨v7, rfl⟩, X7⟩;go_wp2_with fail;refine Go.Great.bodyPost_end0 rfl rfl ⟨⟨_, rfl⟩, X7.tr Xa.R Xa.hb Xa.hG, { m with se := m.se ++ [(numT tk 1900 2099 s.adv, 0, 0)], sa := some ⟨g2, 0, none⟩, sc := c2 }, ?_, fun hok => ⟨?_, C8.out.go X7.R⟩⟩
 ·have := (O8.set 4 (.slice (some ⟨g2, 0, none⟩) (m.se.length + 1) c2)).ro X7.R (by have := hC.hb; have := hC.lt; omega);simpa [verC] using this
 ·simp [VerM.pl, seQ, Ver.se1, e1]
set_option maxRecDepth 20000 in
include hT hH hX hC hN in
theorem rclSD (a0 : accB tk kCredit s = false) (a1 : accB tk kIndex s = true) (ek : (pkK tk (numP tk 1900 2099 s.adv) == 2) = true) (d1 : decX (pkT tk (numP tk 1900 2099 s.adv)) = 2) (d2 : ¬ 1 <= decN (pkT tk (numP tk 1900 2099 s.adv))) :
  Calls prog 84 #[.pointer (some ⟨b, 0, none⟩), .pointer (some ⟨BO, 0, none⟩)] W (RCl b G tk E wa BO N (claQ tk m.pl s)) := by
 rw [(claQ_se (v := m.pl) a0 a1).1];have nz : I64 (numT tk 1900 2099 s.adv) := num_bd;obtain ⟨hok, hi⟩ := pkK_some (tk := tk) (s := (numP tk 1900 2099 s.adv)) (by have := eq_of_beq ek; omega);have hdB : decB (pkT tk (numP tk 1900 2099 s.adv)) = true := pk_dec hT (eq_of_beq ek);have hz := pkT_size hT (numP tk 1900 2099 s.adv);have C5 := Hj fun w => rDecimal_any (pkT tk (numP tk 1900 2099 s.adv)) w (by unfold maxLen; omega)
 unfold DecRes at C5;rw [hdB] at C5;have hD0 := decD_pos hdB;have hf : facO tk (numP tk 1900 2099 s.adv) = false := by unfold facO; rw [ek, hdB]; simp [d1]; omega
 have e1 : facT tk (numP tk 1900 2099 s.adv) = (0, 0) := by unfold facT; rw [hf]; rfl
 have e2 : facP tk (numP tk 1900 2099 s.adv) = ((numP tk 1900 2099 s.adv)).no := by unfold facP; rw [hf]; rfl
 unfold RCl;rw [show (seQ tk m.pl s.adv).2 = facP tk (numP tk 1900 2099 s.adv) from rfl, e2];have X0 := hX.re;go_enter func84, ntmps84;go_wp2_with fail;refine (x_tn hT hH X0 ⟨#[99, 114, 101, 100, 105, 116]⟩ a0).mono ?_;rintro e W1 ⟨rfl, X1⟩;go_wp2_with fail;refine (x_ty hT hH X1 ⟨#[105, 110, 100, 101, 120]⟩ a1).mono ?_;rintro e W2 ⟨rfl, X2⟩;go_wp2_with fail;refine (x_whole hT X2 1900 2099).mono ?_;rintro e W3 ⟨rfl, X3⟩;go_wp2_with fail;refine c_al X3 fun Y BN X3y RY => ?_
 have hY := BN.lt;have hg : W3.heap.size ≠ b := by have := X3.hb; have := X3.R.size; omega
 have hgO : BO ≠ W3.heap.size := by have := hC.o.lt; have := X3.R.size; omega
 have hgO' := Ne.symm hgO;have h4 := X3.R.size;have KD := rkind_any b G tk E _ 2 _ X3y.P (by decide);unfold BRes at KD;rw [ek] at KD;refine KD.mono ?_;rintro e W4 ⟨rfl, h6⟩;have X4 := X3y.rel h6;clear KD h6;obtain ⟨tt, cap, ht, c0, -, q1, -⟩ := rdr_at X4.P hi;rw [<- (pk_tok hok ht).2] at q1;have c1 := X4.P.c1;have ii : (((numP tk 1900 2099 s.adv).i : Nat) : Int) < (tk.length : Int) := by omega
 go_wp2_with fail;refine wrs 16 (fun gf W5 hgf BF hr => ?_);have X5 := X4.rel hr;clear c0 c1 q1 ii;have B7 := BN.ro X5.R hg;have k := B7.cs;have kl := B7.lt;have kF := BF.cs;have e5 : decide (0 < decN (pkT tk (numP tk 1900 2099 s.adv))) = false := dF (by omega);go_wp2_with fail;clear k kl B7 kF;refine (x_stop X5).mono ?_;rintro e W6 ⟨⟨v6, rfl⟩, X6⟩;have B7 := BN.ro X6.R hg;have k := B7.cs;have kf := B7.f;have kl := B7.lt;have R7 := RY.trans X6.R;have o5 := (hC.go R7).o.c (j := 4) rfl;have o5f := (hC.go R7).o.f 4;have o5l := (hC.go R7).o.lt;clear BN;have X6 := X6.tr RY X0.hb X0.hG;have hn := hC.n;have hbz := hC.o.lt
 go_wp2_with (at_builtin; refine wl_app ti_ix (hC.go (X6.al _).R).s rfl (by omega) ?d0 ?_)
 case d0 => have := X6.R.size; simp; omega
 intro g2 c2 w8 own grow hat;have Xa := (((X6.tr hC.ro hX.hb hX.hG).al _).grown grow (fun q hq => by have := (hC.s.lt q hq).1; have := hC.lt; omega)).put hC.lt 4 (.slice (some ⟨g2, 0, none⟩) (m.se.length + 1) c2);have C8 := Hj ((hC.go (X6.al _).R).appS (x := (numT tk 1900 2099 s.adv, 0, 0)) ⟨nz, i64z, i64z⟩ own grow hat (by simp) (Rel.refl w8));have O8 := (hC.go (X6.al _).R).o8 grow (fun q hq => (hC.s.lt q hq).1);have k0 := O8.c (j := 4) rfl;have k1 := O8.f 4;have k2 := O8.lt;have GR := Hj grow;have OW := Hj own;have HA := Hj hat;clear grow own hat o5 o5f o5l k kf kl;go_wp2_with fail;refine (x_want hT hH Xa.re ⟨#[59]⟩ (x := kSemi)).mono ?_;rintro e W7 ⟨⟨v7, rfl⟩, X7⟩;go_wp2_with fail;refine Go.Great.bodyPost_end0 rfl rfl ⟨⟨_, rfl⟩, X7.tr Xa.R Xa.hb Xa.hG, { m with se := m.se ++ [(numT tk 1900 2099 s.adv, 0, 0)], sa := some ⟨g2, 0, none⟩, sc := c2 }, ?_, fun hok => ⟨?_, C8.out.go X7.R⟩⟩
 ·have := (O8.set 4 (.slice (some ⟨g2, 0, none⟩) (m.se.length + 1) c2)).ro X7.R (by have := hC.hb; have := hC.lt; omega);simpa [verC] using this
 ·simp [VerM.pl, seQ, Ver.se1, e1]
set_option maxRecDepth 20000 in
include hT hH hX hC in
theorem rclN (a0 : accB tk kCredit s = false) (a1 : accB tk kIndex s = false) (a2 : accB tk kLet s = false) (a3 : accB tk kGrant s = false) (a4 : accB tk kReduce s = false) :
  Calls prog 84 #[.pointer (some ⟨b, 0, none⟩), .pointer (some ⟨BO, 0, none⟩)] W (RCl b G tk E wa BO N (m.pl, s.no)) := by
 unfold RCl;have X0 := hX.re;go_enter func84, ntmps84;go_wp2_with fail;refine (x_tn hT hH X0 ⟨#[99, 114, 101, 100, 105, 116]⟩ a0).mono ?_;rintro e W1 ⟨rfl, X1⟩;go_wp2_with fail;refine (x_tn hT hH X1 ⟨#[105, 110, 100, 101, 120]⟩ a1).mono ?_;rintro e W2 ⟨rfl, X2⟩;go_wp2_with fail;refine (x_tn hT hH X2 ⟨#[108, 101, 116]⟩ a2).mono ?_;rintro e W3 ⟨rfl, X3⟩;go_wp2_with fail;refine (x_tn hT hH X3 ⟨#[103, 114, 97, 110, 116]⟩ a3).mono ?_;rintro e W4 ⟨rfl, X4⟩;go_wp2_with fail;refine (x_tn hT hH X4 ⟨#[114, 101, 100, 117, 99, 101]⟩ a4).mono ?_;rintro e W5 ⟨rfl, X5⟩;go_wp2_with fail;refine (x_stop X5).mono ?_;rintro e W6 ⟨⟨v6, rfl⟩, X6⟩;go_wp2_with fail;refine (x_want hT hH X6 ⟨#[59]⟩ (x := kSemi)).mono ?_;rintro e W7 ⟨⟨v7, rfl⟩, X7⟩;go_wp2_with fail;have h9 := hC.go X7.R;exact Go.Great.bodyPost_end0 rfl rfl ⟨⟨_, rfl⟩, X7.tr hC.ro hX.hb hX.hG, m, h9.o, fun h => by cases h⟩
noncomputable def rclaQ (tk : List Tk) (v : Ver) (s : Pt) : Ver × Pt := if claO tk s = true then claQ tk v s else (v, s.no)
include hT hH hX hC hN in
theorem rclause_any : Calls prog 84 #[.pointer (some ⟨b, 0, none⟩), .pointer (some ⟨BO, 0, none⟩)] W (RCl b G tk E wa BO N (rclaQ tk m.pl s)) := by
 unfold rclaQ
 cases h0 : accB tk kCredit s
 ·cases h1 : accB tk kIndex s
  ·cases h2 : accB tk kLet s
   ·cases h3 : accB tk kGrant s
    ·cases h4 : accB tk kReduce s
     ·rw [if_neg (by simp [claO, h0, h1, h2, h3, h4])]; exact rclN hT hH hX hC h0 h1 h2 h3 h4
     ·rw [if_pos (by simp [claO, h4])]; exact rclR hT hH hX hC hN h0 h1 h2 h3 h4
    ·rw [if_pos (by simp [claO, h3])]; exact rclG hT hH hX hC hN h0 h1 h2 h3
   ·rw [if_pos (by simp [claO, h2])]; exact rclL hT hH hX hC hN h0 h1 h2
  ·rw [if_pos (by simp [claO, h1])]
   cases ek : (pkK tk (numP tk 1900 2099 s.adv) == 2)
   ·exact rclSA hT hH hX hC hN h0 h1 ek
   ·by_cases d1 : decX (pkT tk (numP tk 1900 2099 s.adv)) = 2
    ·by_cases d2 : 1 <= decN (pkT tk (numP tk 1900 2099 s.adv))
     ·exact rclSB hT hH hX hC hN h0 h1 ek d1 d2
     ·exact rclSD hT hH hX hC hN h0 h1 ek d1 d2
    ·exact rclSC hT hH hX hC hN h0 h1 ek d1
 ·rw [if_pos (by simp [claO, h0])]
  cases al : accB tk kLimit (wrdP tk kndL s.adv)
  ·exact rclCn hT hH hX hC hN h0 al
  ·exact rclCy hT hH hX hC hN h0 al
end
end Go.Proofs.YthmlhheceihcbaaGreatDoor

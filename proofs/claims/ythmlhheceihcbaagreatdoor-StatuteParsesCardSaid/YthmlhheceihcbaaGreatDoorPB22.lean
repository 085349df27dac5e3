/- Lemmas, each as it is printed; no conditions but those printed. -/
import Derived.Test.YthmlhheceihcbaaGreatDoorPB21
namespace Go.Proofs.YthmlhheceihcbaaGreatDoor
set_option maxHeartbeats 16000000
open Go.RowKit Cal Str Tok Frac Txt Tree Go.Proofs.Tryz
attribute [local go_sem] calmUpon
set_option linter.unusedVariables false
set_option linter.unusedSimpArgs false
theorem acc_one {tk : List Tk} {x y : List UInt8} {s : Pt} (h : accB tk x s = true) (k : accB tk y s = true) : x = y := by
 unfold accB at h k
 cases e : tkAt tk s with
 | none => rw [e] at h; cases h
 | some t =>
  rw [e] at h k;simp only [Bool.and_eq_true, beq_iff_eq] at h k;exact h.2.symm.trans k.2
theorem acc_bad {tk : List Tk} {x : List UInt8} {s : Pt} (h : s.ok = false) : accB tk x s = false := accB_end (.inl h)
theorem cla_R {tk : List Tk} {s : Pt} (h : accB tk kR s = true) : claO tk s = false := by
 have key : ∀ {x : List UInt8}, kR ≠ x -> accB tk x s = false := fun hne => by
  cases e : accB tk _ s
  ·rfl
  ·exact absurd (acc_one h e) hne
 unfold claO;rw [key (by decide), key (by decide), key (by decide), key (by decide), key (by decide)]; rfl
theorem cla_bad {tk : List Tk} {s : Pt} (h : s.ok = false) : claO tk s = false := by
 unfold claO; rw [acc_bad h, acc_bad h, acc_bad h, acc_bad h, acc_bad h]; rfl
noncomputable def finL (tk : List Tk) (g : Nat) (v : Ver) (s : Pt) : Ver × Pt := ((claL tk g v s).1, expP tk kR (claL tk g v s).2)
theorem fin_stop {tk : List Tk} {s : Pt} (h : claO tk s = false) (g : Nat) (v : Ver) : finL tk g v s = (v, expP tk kR s) := by
 have : claL tk g v s = (v, s) := by
  cases g with
  | zero => rfl
  | succ g => simp only [claL]; rw [if_neg (by simp [h])]
 unfold finL; rw [this]
theorem fin_bad {tk : List Tk} {s : Pt} (h : s.ok = false) (g : Nat) (v : Ver) : finL tk g v s = (v, s) := by
 rw [fin_stop (cla_bad h)];unfold expP; rw [if_neg (by rw [acc_bad h]; simp)]
 cases s; simp only at h; subst h; rfl
theorem fin_R {tk : List Tk} {s : Pt} (h : accB tk kR s = true) (g : Nat) (v : Ver) : finL tk g v s = (v, s.adv) := by
 rw [fin_stop (cla_R h)];unfold expP; rw [if_pos h]
theorem fin_step {tk : List Tk} {s : Pt} (h : accB tk kR s = false) (g : Nat) (v : Ver) : finL tk (g + 1) v s = finL tk g (rclaQ tk v s).1 (rclaQ tk v s).2 := by
 unfold rclaQ
 cases hc : claO tk s
 ·rw [if_neg (by simp), fin_stop hc, fin_bad (s := s.no) rfl];unfold expP; rw [if_neg (by simp [h])]
 ·rw [if_pos rfl];unfold finL;simp only [claL]; rw [if_pos hc]
theorem rcla_rem {tk : List Tk} {v : Ver} {s : Pt} (h : (rclaQ tk v s).2.ok = true) : rem tk (rclaQ tk v s).2 + 1 <= rem tk s := by
 unfold rclaQ at h |-
 cases hc : claO tk s
 ·rw [hc, if_neg (by simp)] at h; cases h
 ·rw [if_pos rfl]; exact cla_rem hc
theorem rday_any (s : ByteArray) (w : World) (h1 : 1 <= s.size) (hs : s.size <= 140737488355328) : Calls prog 82 #[.string s] w fun e w' => e = .returned (.int .i64 (prsN (s.extract 1 s.size))) /\ w = w' := by
 have D := Hj fun w => RParse_any (s.extract 1 s.size) w (by simp only [ByteArray.size_extract]; unfold maxLen; omega)
 have hi : (1 : Int) <= (s.size : Int) := by omega
 obtain ⟨u, hu⟩ : ∃ u, s.extract 1 s.size = u := ⟨_, rfl⟩;rw [hu] at D |-;have HU := Hj hu;clear hu;go_enter func82, ntmps82;go_wp2_with fail;rw [HU.out];refine (D.out _).mono ?_;rintro e w1 ⟨rfl, rfl⟩;go_wp2;go_ret;exact ⟨rfl, rfl⟩
structure SV (b G : Nat) (tk : List Tk) (E : Int) (wa : World) (BO N : Nat) (m : VerM) (s : Pt) (W : World) : Prop where
 X : RX b G tk E wa s W
 C : ClS b wa W BO N m
section
variable {b G : Nat} {tk : List Tk} {E : Int} {wa W Z : World} {BO N : Nat} {m : VerM} {s t : Pt}
theorem SV.via (h : SV b G tk E wa BO N m s W) (x : RX b G tk E W t Z) : SV b G tk E wa BO N m t Z := ⟨x.tr h.X.R h.X.hb h.X.hG, h.C.go x.R⟩
theorem SV.rel (h : SV b G tk E wa BO N m s W) (r : Rel W Z) : SV b G tk E wa BO N m s Z := h.via (h.X.re.rel r)
theorem SV.adv (h : SV b G tk E wa BO N m s W) (hi : s.i < tk.length) : SV b G tk E wa BO N m s.adv (W.setCell ⟨b, 1, none⟩ (.int .i64 ((s.i : Int) + 1))) := h.via (h.X.re.adv hi)
theorem SV.frm (h : SV b G tk E wa BO N m s W) {z : Int} (hz : I64 z) : SV b G tk E wa BO N { m with frm := z } s (W.setCell ⟨BO, 0, none⟩ (.int .i64 z)) := ⟨h.X.put h.C.lt _ _, h.C.put_frm hz⟩
theorem SV.mode (h : SV b G tk E wa BO N m s W) {z : Int} (hz : I64 z) : SV b G tk E wa BO N { m with mode := z } s (W.setCell ⟨BO, 1, none⟩ (.int .i64 z)) := ⟨h.X.put h.C.lt _ _, h.C.put_mode hz⟩
theorem SV.unit (h : SV b G tk E wa BO N m s W) {z : Int} (hz : I64 z) : SV b G tk E wa BO N { m with unit := z } s (W.setCell ⟨BO, 2, none⟩ (.int .i64 z)) := ⟨h.X.put h.C.lt _ _, h.C.put_unit hz⟩
theorem z_want (hT : TksOk tk) (hH : TkHd tk) (h : SV b G tk E wa BO N m s W) (X : ByteArray) {x : List UInt8} (hX : X.data.toList = x := by rfl) (hx : xokB X.data.toList = true := by kernel_rfl) : Calls prog 31 #[.pointer (some ⟨b, 0, none⟩), .string X] W fun e w' => (∃ v, e = .returned v) /\ SV b G tk E wa BO N m (expP tk x s) w' :=
 (x_want hT hH h.X.re X hX hx).mono fun _ _ h1 => ⟨h1.1, h.via h1.2⟩
theorem z_of (hT : TksOk tk) (h : SV b G tk E wa BO N m s W) (z : Int) (l : List (List UInt8 × Int)) (hz : z = 1 /\ l = kndL \/ z = 2 /\ l = benL \/ z = 3 /\ l = modL) : Calls prog 83 #[.pointer (some ⟨b, 0, none⟩), .int .i64 z] W fun e w' => e = .returned (.int .i64 (wrdT tk l s)) /\ SV b G tk E wa BO N m (wrdP tk l s) w' :=
 (x_of hT h.X.re z l hz).mono fun _ _ h1 => ⟨h1.1, h.via h1.2⟩
theorem z_whole (hT : TksOk tk) (h : SV b G tk E wa BO N m s W) (lo hi : Int) : Calls prog 33 #[.pointer (some ⟨b, 0, none⟩), .int .i64 lo, .int .i64 hi] W fun e w' => e = .returned (.int .i64 (numT tk lo hi s)) /\ SV b G tk E wa BO N m (numP tk lo hi s) w' :=
 (x_whole hT h.X.re lo hi).mono fun _ _ h1 => ⟨h1.1, h.via h1.2⟩
theorem z_stop (h : SV b G tk E wa BO N m s W) : Calls prog 78 #[.pointer (some ⟨b, 0, none⟩)] W fun e w' => (∃ v, e = .returned v) /\ SV b G tk E wa BO N m s.no w' :=
 (x_stop h.X.re).mono fun _ _ h1 => ⟨h1.1, h.via h1.2⟩
theorem z_kind (h : SV b G tk E wa BO N m s W) (k : Int) (hk : 1 <= k) : Calls prog 79 #[.pointer (some ⟨b, 0, none⟩), .int .i64 k] W fun e w' => e = .returned (.bool (pkK tk s == k)) /\ SV b G tk E wa BO N m s w' :=
 (rkind_any b G tk E s k W h.X.P hk).mono fun _ _ h1 => ⟨h1.1, h.rel h1.2⟩
end
def RVer (b G : Nat) (tk : List Tk) (E : Int) (r : Ver × Pt) (w : World) (e : Ending) (w' : World) : Prop := ∃ m : VerM, e = .returned m.val /\ RX b G tk E w r.2 w' /\ (r.2.ok = true -> m.pl = r.1 /\ VerB (fun q => w.heap.size <= q) w' m)
theorem c_al2 {w : World} {f : FuncId} {ar : Array Value} {Q : Ending -> World -> Prop} {c c' : Array Value} {T T' : TypeId}
  (h : ∀ wa X, Blk wa w.heap.size T c.toList -> Rel w wa -> wa.heap.size = w.heap.size + 1 -> Blk X (w.heap.size + 1) T' c'.toList -> Rel wa X -> Calls prog f ar X Q) : Calls prog f ar ((w.alloc (.cells c T)).alloc (.cells c' T')) Q :=
 h _ _ (Blk.new w T c) ((Rel.refl w).alloc _) (World.size_alloc ..) (by have := Blk.new (w.alloc (.cells c T)) T' c'; rwa [World.size_alloc] at this) ((Rel.refl _).alloc _)
theorem rver_end {b G : Nat} {tk : List Tk} {E : Int} {w wa W : World} {p : Pt} {m : VerM} {l : List Value} (hlt : b < w.heap.size) (hG : tk = [] \/ G < w.heap.size) (BZ : Blk wa w.heap.size 48 l) (hl : l.length = 8) (RA : Rel w wa) (hws : wa.heap.size = w.heap.size + 1) (X : RX b G tk E wa p W) (hC : p.ok = true -> ∃ N, N <= 100000 /\ ClS b wa W (w.heap.size + 1) N m) :
  ∀ Z, Z = (((((((((W.setCell ⟨w.heap.size, 0, none⟩ (.int .i64 m.frm)).setCell ⟨w.heap.size, 1, none⟩ (.int .i64 m.mode)).setCell ⟨w.heap.size, 2, none⟩ (.int .i64 m.unit)).setCell ⟨w.heap.size, 3, none⟩ (.slice m.ca m.cr.length m.cc)).setCell ⟨w.heap.size, 4, none⟩ (.slice m.sa m.se.length m.sc)).setCell ⟨w.heap.size, 5, none⟩ (.slice m.la m.le.length m.lc)).setCell ⟨w.heap.size, 6, none⟩ (.slice m.ga m.gr.length m.gc)).setCell ⟨w.heap.size, 7, none⟩ (.slice m.ra m.re.length m.rc))) ->
   Blk Z w.heap.size 48 (verC m) /\ RX b G tk E w p Z /\ (p.ok = true -> VerB (fun q => w.heap.size <= q) Z m) := by
 rintro Z rfl;have hbw : w.heap.size ≠ b := by omega
 have B0 := BZ.ro X.R hbw;have Xw := X.tr (Ro.of RA) hlt hG;have h0 := Nat.le_refl w.heap.size;have QR : Ro w.heap.size W _ := ((((((((Ro.refl w.heap.size W).set 0 (.int .i64 m.frm)).set 1 (.int .i64 m.mode)).set 2 (.int .i64 m.unit)).set 3 (.slice m.ca m.cr.length m.cc)).set 4 (.slice m.sa m.se.length m.sc)).set 5 (.slice m.la m.le.length m.lc)).set 6 (.slice m.ga m.gr.length m.gc)).set 7 (.slice m.ra m.re.length m.rc)
 match l, hl, B0 with
 | [_, _, _, _, _, _, _, _], _, B0 =>
  refine ⟨(((((((B0.set 0 _).set 1 _).set 2 _).set 3 _).set 4 _).set 5 _).set 6 _).set 7 _, (((((((Xw.put h0 0 _).put h0 1 _).put h0 2 _).put h0 3 _).put h0 4 _).put h0 5 _).put h0 6 _).put h0 7 _, fun hok => ?_⟩;obtain ⟨N, hN, C⟩ := hC hok;have h := VerB.mono (Q := fun q => w.heap.size + 1 <= q) (C.toB hN) (fun q hq => by omega);exact VerB.mono (VerB.ro h QR (fun q hq => by omega)) (fun q hq => by omega)
set_option maxRecDepth 20000 in
theorem rversion_any (b G : Nat) (tk : List Tk) (E : Int) (hT : TksOk tk) (hH : TkHd tk) (w : World) (s : Pt) (hP : Rdr w b G tk E s) (hG : tk = [] \/ G < w.heap.size) :
  Calls prog 35 #[.pointer (some ⟨b, 0, none⟩)] w (RVer b G tk E (verQ tk (expP tk kFrom s)) w) := by
 unfold RVer;obtain ⟨t, htt⟩ : ∃ t, expP tk kFrom s = t := ⟨_, rfl⟩;rw [htt];have HTT := Hj htt;clear htt;have hlt := hP.lt;have hlen := hT.len;go_enter func35, ntmps35;go_wp2_with fail;refine c_al2 fun wa Y BZ RA hws BY RY => ?_
 have S0 : SV b G tk E wa (w.heap.size + 1) 0 zeroM s Y := ⟨⟨hP.rel (RA.trans RY), Ro.of RY, by omega, hG.imp id fun e => by omega⟩, ClS.new (Ro.of RY) (by omega) (by omega) BY⟩;clear BY RY;refine (z_want hT hH S0 ⟨#[102, 114, 111, 109]⟩ (x := kFrom)).mono ?_;rintro e W1 ⟨⟨v1, rfl⟩, S1⟩;rw [HTT.out] at S1;clear S0;go_wp2_with fail;refine (z_kind S1 3 (by decide)).mono ?_;rintro e W2 ⟨rfl, S2⟩;clear S1
 cases ek : (pkK tk t == 3)
 rotate_left
 focus
  obtain ⟨ho, hi⟩ := pkK_some (tk := tk) (s := t) (by have := eq_of_beq ek; omega);obtain ⟨tt, cap, ht, c0, -, q1, -⟩ := rdr_at S2.X.P hi;rw [<- (pk_tok ho ht).2] at q1;have c1 := S2.X.P.c1;have ii : ((t.i : Nat) : Int) < (tk.length : Int) := by omega
  have C4 := Hj fun w => rday_any (pkT tk t) w (hd_one hH (eq_of_beq ek)) (pkT_size hT t)
  have o0 := S2.C.o.c (j := 0) rfl;have f0 := S2.C.o.f 0;have ol := S2.C.o.lt;clear ht ho;go_wp2_with fail;refine wr1 13 (fun w3 W4 h3 h4 => ?_);have hD : prsN ((pkT tk t).extract 1 (pkT tk t).size) = datT tk t := by unfold datT; rw [if_pos (eq_of_beq ek)]
  rw [hD] at h4;have S4 := (((S2.rel h3).frm (z := datT tk t) dat_bd).rel h4);have b1 := S4.X.P.c1;have b1f := S4.X.P.f1;have b1l := S4.X.P.lt;have wi : IntKind.i64.wrap (((t.i : Nat) : Int) + 1) = ((t.i : Nat) : Int) + 1 := IntWalk.i64_in _ ⟨by omega, by omega⟩;have S5 := S4.adv hi;have e5 : t.adv = datP tk t := by unfold datP; rw [if_pos (eq_of_beq ek)]
  rw [e5] at S5;clear c0 c1 q1 ii o0 f0 ol C4 S2 S4 h3 h4 hD e5 hi;go_wp2_with fail;clear b1 b1f b1l wi
 rotate_left
 have hne : ¬ pkK tk t = 3 := fun e => by rw [e] at ek; cases ek
 go_wp2_with fail;refine (z_stop S2).mono ?_;rintro e W4 ⟨⟨v3, rfl⟩, S5⟩;rw [show t.no = datP tk t by unfold datP; rw [if_neg hne], show zeroM = { zeroM with frm := datT tk t } by unfold datT; rw [if_neg hne]; rfl] at S5;clear S2 hne;go_wp2_with fail
 all_goals
  refine (z_want hT hH S5 ⟨#[123]⟩ (x := kL)).mono ?_;rintro e W6 ⟨⟨v6, rfl⟩, S6⟩;clear S5;go_wp2_with fail;refine (z_want hT hH S6 ⟨#[114, 111, 117, 110, 100]⟩ (x := kRound)).mono ?_;rintro e W7 ⟨⟨v7, rfl⟩, S7⟩;clear S6;go_wp2_with fail;refine (z_of hT S7 3 modL (by simp)).mono ?_;rintro e W8 ⟨rfl, S8⟩;clear S7;have o1 := S8.C.o.c (j := 1) rfl;have f1 := S8.C.o.f 1;have ol := S8.C.o.lt;go_wp2_with fail;refine (z_whole hT (S8.mode (wrd_bd modL_bd)) 1 100000).mono ?_;rintro e W9 ⟨rfl, S9⟩;clear o1 f1 ol S8;have o1 := S9.C.o.c (j := 2) rfl;have f1 := S9.C.o.f 2;have ol := S9.C.o.lt;go_wp2_with fail;refine (z_want hT hH (S9.unit num_bd) ⟨#[59]⟩ (x := kSemi)).mono ?_;rintro e W10 ⟨⟨v10, rfl⟩, S10⟩;clear o1 f1 ol S9;go_wp2_with fail
  go_loopg [] (tk.length + 1) (fun g wx => ∃ (m : VerM) (N : Nat) (v : Ver) (s' : Pt), Hid (finL tk g v s' = verQ tk t) /\ (s'.ok = true -> rem tk s' + 1 <= g /\ N + rem tk s' <= tk.length) /\ RX b G tk E wa s' wx /\ Blk wx (w.heap.size + 1) 48 (verC m) /\ Hid (s'.ok = true -> m.pl = v /\ ClS b wa wx (w.heap.size + 1) N m))
  case atStart => exact ⟨_, 0, _, _, Hj rfl, fun _ => by have := rem_le tk (verH tk t).2; exact ⟨by omega, by omega⟩, S10.X, S10.C.o, Hj fun _ => ⟨rfl, S10.C⟩⟩
  case round =>
   obtain ⟨m, N, v, s', hF, hg, hX, hB, hS⟩ := hrel;have c3 := hX.P.c3;have bl := hX.P.lt
   cases hs : s'.ok
   ·rw [hs] at c3;have eF : verQ tk t = (v, s') := by rw [<- hF.out, fin_bad hs]
    have RE := Hj (rver_end (m := m) hlt hG BZ rfl RA hws hX (fun h => by rw [hs] at h; cases h));have k := hB.cs (e := by simp only [verC, cellsAt, and_true, Nat.zero_add, Nat.reduceAdd]; rfl);have kl := hB.lt;have B0 := BZ.ro hX.R (by omega);have k0 := B0.cs;have k0f := B0.f;have k0l := B0.lt;clear hB B0;refine gw ?_;obtain ⟨BE, XE, -⟩ := RE.out _ rfl;have g := BE.cs (e := by simp only [verC, cellsAt, and_true, Nat.zero_add, Nat.reduceAdd]; rfl);refine bodyPost_ret (v := m.val) ?_ rfl ⟨m, rfl, by rw [eF]; exact XE, fun h => by rw [eF] at h; exact absurd h (by simp [hs])⟩;unfold VerM.val;simp [results, results35, go_sem, verC, g]
   ·rw [hs] at c3
    cases hr : accB tk kR s'
    ·cases gk with
     | zero => have := (hg hs).1; omega
     | succ g =>
      have eF := hF.out;rw [fin_step hr] at eF;have EF := Hj eF;have hg2 := hg hs;clear eF hF;go_wp2_with fail;refine (x_tn hT hH hX.re ⟨#[125]⟩ hr).mono ?_;rintro e W12 ⟨rfl, X12⟩;go_wp2_with fail;refine (rclause_any hT hH (X12.tr hX.R hX.hb hX.hG) ((hS.out hs).2.go X12.R) (by omega)).mono ?_;unfold RCl;rintro e W13 ⟨⟨v13, rfl⟩, X13, m', B13, S13⟩;rw [(hS.out hs).1] at X13 S13;have SS := Hj S13;clear S13 c3;go_wp2
      go_roundg g
      case rel => exact ⟨m', N + 1, _, _, EF, fun h => by have := rcla_rem h; omega, X13, B13, SS⟩
      case measure => omega
    ·have eF : verQ tk t = (v, s'.adv) := by rw [<- hF.out, fin_R hr]
     go_wp2_with fail;refine (x_ty hT hH hX.re ⟨#[125]⟩ hr).mono ?_;rintro e W12 ⟨rfl, X12⟩;have C12 := (hS.out hs).2.go X12.R;have X12 := X12.tr hX.R hX.hb hX.hG;have hn := hg hs;have RE := Hj (rver_end (m := m) hlt hG BZ rfl RA hws X12 (fun _ => ⟨N, by omega, C12⟩));have k := C12.o.cs (e := by simp only [verC, cellsAt, and_true, Nat.zero_add, Nat.reduceAdd]; rfl);have kl := C12.o.lt;have B0 := BZ.ro X12.R (by omega);have k0 := B0.cs;have k0f := B0.f;have k0l := B0.lt;have EM := Hj (hS.out hs).1;clear hB B0 C12 c3;refine gw ?_;obtain ⟨BE, XE, VE⟩ := RE.out _ rfl;have g := BE.cs (e := by simp only [verC, cellsAt, and_true, Nat.zero_add, Nat.reduceAdd]; rfl);refine bodyPost_ret (v := m.val) ?_ rfl ⟨m, rfl, by rw [eF]; exact XE, fun h => by rw [eF] at h |-; exact ⟨EM.out, VE h⟩⟩;unfold VerM.val;simp [results, results35, go_sem, verC, g]
noncomputable def finS (tk : List Tk) (f : Nat) (l : List Ver) (s : Pt) : List Ver × Pt := ((verL tk f l s).1, expP tk kR (verL tk f l s).2)
noncomputable def finF (tk : List Tk) (fst : Bool) (f : Nat) (l : List Ver) (s : Pt) : List Ver × Pt := if fst = true then finS tk f (l ++ [(verQ tk (expP tk kFrom s)).1]) (verQ tk (expP tk kFrom s)).2 else finS tk f l s
theorem pt_nok {s : Pt} (h : s.ok = false) : s.no = s := by cases s; simp only at h; subst h; rfl
theorem exp_bad {tk : List Tk} {x : List UInt8} {s : Pt} (h : s.ok = false) : expP tk x s = s := by
 unfold expP; rw [if_neg (by rw [acc_bad h]; simp)]; exact pt_nok h
theorem pk_bad {tk : List Tk} {s : Pt} (h : s.ok = false) : pkK tk s = 0 := by unfold pkK tkAt; rw [if_neg (by simp [h])]
theorem ver_bad {tk : List Tk} {s : Pt} (h : s.ok = false) : (verQ tk s).2 = s := by
 have e1 : datP tk s = s := by unfold datP; rw [if_neg (by rw [pk_bad h]; decide)]; exact pt_nok h
 have e2 : wrdP tk modL s = s := by unfold wrdP wrdO; rw [if_neg (by rw [pk_bad h]; simp)]; exact pt_nok h
 have e3 : numP tk 1 100000 s = s := by unfold numP; rw [if_neg (by rw [numO_pk, pk_bad h]; simp)]; exact pt_nok h
 have e4 : (verH tk s).2 = s := by unfold verH; dsimp only; rw [e1, exp_bad h, exp_bad h, e2, e3, exp_bad h]
 show (finL tk (tk.length + 1) (verH tk s).1 (verH tk s).2).2 = s
 rw [e4, fin_bad h]
theorem finS_stop {tk : List Tk} {s : Pt} (h : accB tk kFrom s = false) (f : Nat) (l : List Ver) : finS tk f l s = (l, expP tk kR s) := by
 have : verL tk f l s = (l, s) := by
  cases f with
  | zero => rfl
  | succ g => simp only [verL]; rw [if_neg (by simp [h])]
 unfold finS; rw [this]
theorem finF_bad {tk : List Tk} {s : Pt} (h : s.ok = false) (b : Bool) (f : Nat) (l : List Ver) : (finF tk b f l s).2 = s := by
 unfold finF;split
 ·rw [exp_bad h, ver_bad h, finS_stop (acc_bad h), exp_bad h]
 ·rw [finS_stop (acc_bad h), exp_bad h]
theorem finF_R {tk : List Tk} {s : Pt} (h : accB tk kR s = true) (f : Nat) (l : List Ver) : finF tk false f l s = (l, s.adv) := by
 have hf : accB tk kFrom s = false := by
  cases e : accB tk kFrom s
  ·rfl
  ·exact absurd (acc_one h e) (by decide)
 unfold finF; rw [if_neg (by simp), finS_stop hf];unfold expP; rw [if_pos h]
def Upto (P Q : List Ver × Pt) : Prop := P.2 = Q.2 /\ (Q.2.ok = true -> P = Q)
theorem upto_step {tk : List Tk} {s : Pt} (h : accB tk kR s = false) (f : Nat) (l : List Ver) {Q : List Ver × Pt} (hQ : Upto (finF tk false (f + 1) l s) Q) : Upto (finF tk false f (l ++ [(verQ tk (expP tk kFrom s)).1]) (verQ tk (expP tk kFrom s)).2) Q := by
 unfold finF at hQ |-;rw [if_neg (by simp)] at hQ |-
 cases hf : accB tk kFrom s
 ·rw [finS_stop hf] at hQ;have e : expP tk kR s = s.no := by unfold expP; rw [if_neg (by simp [h])]
  have e' : expP tk kFrom s = s.no := by unfold expP; rw [if_neg (by simp [hf])]
  have hb : (s.no).ok = false := rfl;rw [e] at hQ;rw [e', ver_bad hb, finS_stop (acc_bad hb), exp_bad hb];have h1 : s.no = Q.2 := hQ.1;exact ⟨h1, fun hq => by rw [<- h1] at hq; cases hq⟩
 ·have e' : expP tk kFrom s = s.adv := by unfold expP; rw [if_pos hf]
  rw [e']
  have : finS tk (f + 1) l s = finS tk f (l ++ [(verQ tk s.adv).1]) (verQ tk s.adv).2 := by
   unfold finS; simp only [verL]; rw [if_pos hf]
  rwa [this] at hQ
theorem ver_rem {tk : List Tk} {s : Pt} (h : (verQ tk (expP tk kFrom s)).2.ok = true) : rem tk (verQ tk (expP tk kFrom s)).2 + 1 <= rem tk s := by
 have h1 := (ver_beh tk (expP tk kFrom s)).2.1 h
 have hf : accB tk kFrom s = true := by
  cases e : accB tk kFrom s
  ·unfold expP at h1; rw [if_neg (by simp [e])] at h1; cases h1
  ·rfl
 have e' : expP tk kFrom s = s.adv := by unfold expP; rw [if_pos hf]
 have h2 := (acc_beh hf).2;have h3 := (ver_beh tk s.adv).rem;rw [e']; omega
theorem wa_app {P : Program} {w W : World} {ops : Array Oper} {o : Oper} {a : Act} {K : Act -> World -> Prop} {Q : Exit -> Act -> World -> Prop} {F : Prop} {t e Ty : TypeId} {base size bytes n c g : Nat} {z v : Value} {xs : List Value} {news : Array Value} {s x : Operand}
  (ti : tz P e = some (some z, size, bytes)) (hown : w.ownsRow base e size v n xs) (r : Rel (W.alloc (.cells news Ty)) w) (hg : g = W.heap.size) (hn : n <= 100000) (hbase : base <= W.heap.size)
  (h : ∀ g2 cap w', w'.ownsRow base e size (.slice (some ⟨g2, 0, none⟩) (n + 1) cap) (n + 1) (xs ++ news.toList) -> w.grownBy w' v.ownBlock -> (v.ownBlock = some g2 \/ g2 = w.heap.size) -> K (a.put o.dst (.slice (some ⟨g2, 0, none⟩) (n + 1) cap)) w')
  (hgd : o.guard = none := by rfl) (ho : o.op = .call { callee := .builtin .append, args := #[s, x], argTypes := #[t, t] } := by rfl) (ht : P.underlying t = some (.slice e) := by rfl) (hs : a.eval s = v := by rfl) (hx : a.eval x = .slice (some ⟨g, 0, none⟩) 1 c := by rfl)
  (hl : news.toList.length = size := by rfl) (h1 : (news.toList.all fun u => u.oneCell') = true := by rfl) (hb : bytes <= 1000 := by decide) (hz : z.cells.size = size := by rfl) (hsz : 0 < size := by decide) : if Region.wanted o (yielded ops a.tmps) = true then Oper.wp P o a w K Q else F := by
 obtain ⟨i, hi, hxx⟩ := Option.map_eq_some_iff.1 ti;simp only [Prod.mk.injEq] at hxx;have hsz2 : W.heap.size + 1 <= w.heap.size := by have := r.size; rwa [World.size_alloc] at this
 refine step_append_lies w hgd s x t ho base e i z size bytes ht hi hxx.1 hxx.2.1 hxx.2.2 hz hsz v n xs hs hown ⟨g, 0, none⟩ 1 c news.toList hx (by omega) (fun j u hj => r.cell (new_cells2 W news Ty hg j u hj)) (List.all_eq_true.1 h1) (by decide) (by unfold maxLen; omega) ?_ (by omega) w.heap.size rfl (fun g cap w' h1 h2 h3 _ => h g cap w' h1 h2 h3);have : (n + 1) * bytes <= 100001 * 1000 := Nat.mul_le_mul (by omega) hb;omega
theorem ti_ver : tz prog 48 = some (some (.agg #[.int .i64 0, .int .i64 0, .int .i64 0, .slice none 0 0, .slice none 0 0, .slice none 0 0, .slice none 0 0, .slice none 0 0]), 8, 144) := by kernel_rfl
structure RS (b G : Nat) (tk : List Tk) (E : Int) (w0 : World) (s : Pt) (W : World) (g : Nat) (nm : ByteArray) (cur : Int) (L : List VerM) (va : Option Addr) (vc : Nat) : Prop where
 X : RX b G tk E w0 s W
 lt : w0.heap.size <= g
 x : Blk W g 28 [.string nm, .int .i64 cur, .slice va L.length vc]
 own : W.ownsRow (g + 1) 48 8 (.slice va L.length vc) L.length (L.flatMap verC)
 ver : s.ok = true -> ∀ m ∈ L, VerB (fun q => (g + 1 <= q /\ True) /\ OffB va q) W m
section
variable {b G g g2 cap2 H N : Nat} {tk : List Tk} {E : Int} {w0 W Z w8 w9 : World} {s t : Pt} {nm : ByteArray} {cur : Int} {L : List VerM} {va : Option Addr} {vc : Nat}
theorem RS.via (h : RS b G tk E w0 s W g nm cur L va vc) (x : RX b G tk E W t Z) (ht : t.ok = true -> s.ok = true) : RS b G tk E w0 t Z g nm cur L va vc := by
 have h1 := h.X.hb;have h2 := h.lt;exact ⟨x.tr h.X.R h.X.hb h.X.hG, h.lt, h.x.ro x.R (by omega), own_rox h.own x.R (by omega), fun hk m hm => VerB.ro (h.ver (ht hk) m hm) x.R (fun q hq => by have := hq.1.1; omega)⟩
theorem RS.rel (h : RS b G tk E w0 s W g nm cur L va vc) (r : Rel W Z) : RS b G tk E w0 s Z g nm cur L va vc := h.via (h.X.re.rel r) id
theorem RS.pc (h : RS b G tk E w0 s W g nm cur L va vc) (z : Int) : RS b G tk E w0 s (W.setCell ⟨g, 1, none⟩ (.int .i64 z)) g nm z L va vc :=
 ⟨h.X.put h.lt _ _, h.lt, h.x.set 1 _, own_set h.own (by omega) _ _, fun hk m hm => VerB.ro (h.ver hk m hm) ((Ro.refl g W).set 1 _) (fun q hq => by have := hq.1.1; omega)⟩
theorem RS.app (h : RS b G tk E w0 s W g nm cur L va vc) {m : VerM} (hm : s.ok = true -> VerB (fun q => (g + 1 <= q /\ True) /\ OffB va q) W m) (hown : w8.ownsRow (g + 1) 48 8 (.slice (some ⟨g2, 0, none⟩) (L.length + 1) cap2) (L.length + 1) (L.flatMap verC ++ verC m)) (hg : W.grownBy w8 (Value.slice va L.length vc).ownBlock) (hat : (Value.slice va L.length vc).ownBlock = some g2 \/ g2 = H) (hH : W.heap.size <= H) (r : Rel w8 w9) :
  RS b G tk E w0 s (w9.setCell ⟨g, 2, none⟩ (.slice (some ⟨g2, 0, none⟩) (L.length + 1) cap2)) g nm cur (L ++ [m]) (some ⟨g2, 0, none⟩) cap2 := by
 have hrow : ∀ q, (Value.slice va L.length vc).ownBlock = some q -> g + 1 <= q := fun q hq => (h.own.lt q hq).1
 have h2 := h.lt;have q : Ro g w9 (w9.setCell ⟨g, 2, none⟩ (.slice (some ⟨g2, 0, none⟩) (L.length + 1) cap2)) := (Ro.refl _ _).set 2 _
 have key : ∀ m', VerB (fun q => (g + 1 <= q /\ True) /\ OffB va q) W m' -> VerB (fun q => (g + 1 <= q /\ True) /\ OffB (some ⟨g2, 0, none⟩) q) (w9.setCell ⟨g, 2, none⟩ (.slice (some ⟨g2, 0, none⟩) (L.length + 1) cap2)) m' := fun m' hm' =>
  VerB.ro (VerB.rel (VerB.grown hm' hg hat hH) r) q (fun q hq => by have := hq.1.1; omega)
 refine ⟨((h.X.grown hg (fun q hq => by have := hrow q hq; omega)).rel r).put h2 _ _, h2, ?_, ?_, fun hk m' hm' => ?_⟩
 ·have h1 := ((h.x.grown hg (fun e => by have := hrow _ e.symm; omega)).rel r).set 2 (.slice (some ⟨g2, 0, none⟩) (L.length + 1) cap2);rw [List.length_append]; exact h1
 ·rw [flat_snoc, List.length_append]; exact own_set (own_rel' hown r) (by omega) _ _
 ·rcases List.mem_append.1 hm' with h1 | h1
  ·exact key m' (h.ver hk m' h1)
  ·simp at h1; subst h1; exact key _ (hm hk)
theorem RS.sta (h : RS b G tk E w0 s W g nm cur L va vc) (hk : s.ok = true) (hn : nm.size <= 140737488355328) (hc : I64 cur) (hL : L.length <= 100000) : StaB (fun q => w0.heap.size <= q) W ⟨nm, cur, L, va, vc⟩ := by
 have h2 := h.lt;exact ⟨hn, hc, by show L.length <= _; omega, (own_rowB h.own).mono (fun q hq => by omega), fun m hm => VerB.mono (h.ver hk m hm) (fun q hq => by have := hq.1.1; omega)⟩
end
end Go.Proofs.YthmlhheceihcbaaGreatDoor

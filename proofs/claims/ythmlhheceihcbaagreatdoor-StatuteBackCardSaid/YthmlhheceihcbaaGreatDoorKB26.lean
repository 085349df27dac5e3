/- Lemmas, each as it is printed; no conditions but those printed. -/
import Derived.Test.YthmlhheceihcbaaGreatDoorKB25
import Derived.Deep.CutBlock
import Derived.Deep.CutRange
namespace Go.Proofs.YthmlhheceihcbaaGreatDoor
set_option maxHeartbeats 16000000
open Go.RowKit Cal Str Tok Frac Txt Tree Go.Proofs.Tryz
attribute [local go_sem] calmUpon
set_option linter.unusedVariables false
set_option linter.unusedSimpArgs false
def OfX (w : World) (e : Ending) (w' : World) : Prop := ∃ m : VerM, e = .returned m.val /\ VerB (fun q => w.heap.size <= q) w' m /\ Rel w w'
def t5 : List Int := [1, 1, 10, 100, 7]
def t6 : List Int := [6, 9, 7, 8, 10, 5]
theorem t6_at {q : Nat} (h : q < 6) : ∃ c, t6[q]? = some c /\ I64 c := by
 rcases (show q = 0 \/ q = 1 \/ q = 2 \/ q = 3 \/ q = 4 \/ q = 5 by omega) with rfl | rfl | rfl | rfl | rfl | rfl <;> exact ⟨_, rfl, i64c⟩
theorem pick_bd {z n : Int} (h : 1 <= n) : 0 <= z % n /\ z % n < n := ⟨Int.emod_nonneg z (by omega), Int.emod_lt_of_pos z (by omega)⟩
theorem res8 {fn : Func} {a : Act} {t : Tmp} {W : World} {g : Nat} {T : TypeId} {v0 v1 v2 v3 v4 v5 v6 v7 : Value} (h : fn.results = #[.cell t 48]) (ht : a.tmps.getD t undef = .pointer (some ⟨g, 0, none⟩)) (B : Blk W g T [v0, v1, v2, v3, v4, v5, v6, v7]) : (results fn a.tmps).run prog W = .ok (.agg #[v0, v1, v2, v3, v4, v5, v6, v7]) W := by
 have k := B.cs;rw [Array.getD_eq_getD_getElem?] at ht;simp [results, h, ht, go_sem, k]
theorem of_ret {fn : Func} {a : Act} {tm : Tmp} {w wa W : World} {r : RawV} {BO N : Nat} {m : VerM} (S : OS w r wa BO N m W) (hN : N <= 100000) (h : fn.results = #[.cell tm 48] := by rfl) (ht : a.tmps.getD tm undef = .pointer (some ⟨w.heap.size + 1, 0, none⟩) := by rfl) (hd : a.defers = [] := by rfl) :
  bodyPost prog fn (OfX w) .ret a ((((((((W.setCell ⟨w.heap.size + 1, 0, none⟩ (.int .i64 m.frm)).setCell ⟨w.heap.size + 1, 1, none⟩ (.int .i64 m.mode)).setCell ⟨w.heap.size + 1, 2, none⟩ (.int .i64 m.unit)).setCell ⟨w.heap.size + 1, 3, none⟩ (.slice m.ca m.cr.length m.cc)).setCell ⟨w.heap.size + 1, 4, none⟩ (.slice m.sa m.se.length m.sc)).setCell ⟨w.heap.size + 1, 5, none⟩ (.slice m.la m.le.length m.lc)).setCell ⟨w.heap.size + 1, 6, none⟩ (.slice m.ga m.gr.length m.gc)).setCell ⟨w.heap.size + 1, 7, none⟩ (.slice m.ra m.re.length m.rc)) := by
 have Q := ((((((((Ro.refl (w.heap.size + 1) W).set 0 (.int .i64 m.frm)).set 1 (.int .i64 m.mode)).set 2 (.int .i64 m.unit)).set 3 (.slice m.ca m.cr.length m.cc)).set 4 (.slice m.sa m.se.length m.sc)).set 5 (.slice m.la m.le.length m.lc)).set 6 (.slice m.ga m.gr.length m.gc)).set 7 (.slice m.ra m.re.length m.rc);have B := (((((((S.R.set 0 (.int .i64 m.frm)).set 1 (.int .i64 m.mode)).set 2 (.int .i64 m.unit)).set 3 (.slice m.ca m.cr.length m.cc)).set 4 (.slice m.sa m.se.length m.sc)).set 5 (.slice m.la m.le.length m.lc)).set 6 (.slice m.ga m.gr.length m.gc)).set 7 (.slice m.ra m.re.length m.rc);have h1 := S.C.hb;exact bodyPost_ret (res8 h ht B) hd ⟨m, rfl, VerB.mono (VerB.ro (S.C.toB hN) Q (fun q hq => by omega)) (fun q hq => by omega), Ro.rel S.rel Q (by omega)⟩
set_option maxRecDepth 20000 in
theorem s_Of (r : RawV) (w : World) (hr : RawIn w r) : Calls prog 20 #[r.val] w (OfX w) := by
  unfold OfX;obtain ⟨ca, cc, hvc, hcn, hcz⟩ := ints_fn hr.c;obtain ⟨sa, sc, hvs, hsn, hsz⟩ := ints_fn hr.s;obtain ⟨la, lc, VL, NL, hvl, hln, hlz⟩ := rows_fun hr.l;have EL := Hj hvl;have HL := Hj hlz;have HC := Hj hcz;have HZ := Hj hsz;have EC := Hj hvc;have ES := Hj hvs;obtain ⟨f0, f1⟩ := hr.f;obtain ⟨m0, m1⟩ := hr.m;obtain ⟨u0, u1⟩ := hr.u;obtain ⟨pa, pc, VP, NP, hvp, hpn, hpz⟩ := rows_fun hr.p;obtain ⟨ja, jc, VJ, NJ, hvj, hjn, hjz⟩ := rows_fun hr.i;obtain ⟨xa, xc, VX, NX, hvx, hxn, hxz⟩ := rows_fun hr.k;have EP := Hj hvp;have HP := Hj hpz;have EJ := Hj hvj;have HJ := Hj hjz;have EX := Hj hvx;have HX := Hj hxz;have HR := Hj hr;clear hvp hpz hvj hjz hvx hxz hr hcz hsz hvc hvs hvl hlz;unfold RawV.val;have C3 := Hj fun w => pick_any r.f 73049 w f0 f1 (by decide) (by decide)
  have C4 := Hj fun w => pick_any r.m 4 w m0 m1 (by decide) (by decide)
  have C6 := Hj fun w => pick_any r.u 5 w u0 u1 (by decide) (by decide)
  obtain ⟨pf0, pf1⟩ := pick_bd (z := r.f) (n := 73049) (by decide);obtain ⟨pm0, pm1⟩ := pick_bd (z := r.m) (n := 4) (by decide);obtain ⟨pu0, pu1⟩ := pick_bd (z := r.u) (n := 5) (by decide);generalize r.f % 73049 = F at *;generalize r.m % 4 = M at *;generalize r.u % 5 = U at *;have wM : IntKind.i64.wrap (M + 1) = M + 1 := IntWalk.i64_in _ ⟨by omega, by omega⟩;obtain ⟨j, rfl⟩ := Int.eq_ofNat_of_zero_le pu0;have hj : j < 5 := by omega
  go_enter func20, ntmps20;go_wp2_with fail;refine al_q fun W0 B0 R0 h0 => ?_
  rw [World.size_alloc] at B0 h0;have V0 : Blk W0 w.heap.size 72 r.vals := (Blk.new w _ _).rel R0;have R0 := ((Rel.refl w).alloc (.cells #[.int .i64 r.f, .int .i64 r.m, .int .i64 r.u, r.vc, r.vs, r.vl, r.vi, r.vp, r.vk, .int .i64 r.t] 72)).trans R0;have k := V0.cs (e := by simp only [RawV.vals, cellsAt, and_true, Nat.zero_add, Nat.reduceAdd]; rfl);have kl := V0.lt;refine wrq [0, 1, 2, 3, 4, 5, 6, 8, 9, 10] 7 16 (fun w0 h1 => ?_)
  have hc : ∃ c, t5[j]? = some c /\ I64 c := by
    rcases (show j = 0 \/ j = 1 \/ j = 2 \/ j = 3 \/ j = 4 by omega) with rfl | rfl | rfl | rfl | rfl <;> exact ⟨_, rfl, i64c⟩
  obtain ⟨c, hc, cz⟩ := hc;have CT : Hid (∀ Y g, Blk Y g 3 [.int .i64 1, .int .i64 1, .int .i64 10, .int .i64 100, .int .i64 7] -> Y.cell? ⟨g, j, none⟩ = some (.int .i64 c)) := fun Y g B => B.c (show (t5.map (Value.int .i64))[j]? = _ by rw [List.getElem?_map, hc]; rfl)
  have NEW : Hid (∀ BO W, Rel W0 W -> W0.heap.size <= BO -> Blk W BO 48 (verC zeroM) -> OS w r W0 BO 0 { zeroM with frm := F, mode := M + 1, unit := c } _) := fun BO W x hB B => OS.new (V0.rel x) (Blk.rel B0 x) R0 x (by omega) hB B ⟨by omega, by omega⟩ ⟨by omega, by omega⟩ cz
  have s0 := h1.size;clear hc B0;refine wways (a' := ?a') (Φ := fun BO g Z => OS w r W0 BO 0 { zeroM with frm := F, mode := M + 1, unit := c } Z) ?cont ?ways
  case ways =>
    intro Q' hk;refine ao2 7 15 (fun w1 h2 K' hK' => ?_) (fun w1 h2 K' hK' => ?_)
    · go_simp;refine hK'.out _ _ (fun _ => (h1.trans h2).alloc _) ?_;clear hK' K';refine al_r fun Y BY RY hY => ?_
      have RY := (h1.trans h2).trans RY;obtain ⟨g, hg⟩ : ∃ g, w1.heap.size = g := ⟨_, rfl⟩;rw [hg] at BY |-;have ct := CT.out _ _ BY;have hgl := BY.lt;refine wre RY ?_;refine wrm [11, 12, 13, 14] 2 16 (fun _ => Rel.refl _) ?_;refine ao 15 (fun w2 h3 K' hK' => ?_);go_simp;refine hK'.out _ _ (fun _ => h3.alloc _) ?_;clear hK' K';refine al_r fun X BX RX hX => ?_
      have s2 := (RY.trans h3).size;have RX := (RY.trans h3).trans RX;obtain ⟨BO, hBO⟩ : ∃ BO, w2.heap.size = BO := ⟨_, rfl⟩;rw [hBO] at BX |-;refine ao 16 (fun w3 h4 K' hK' => ?_);have B3 := BX.rel h4;have kk := B3.cs;have kf := B3.f;have kl := B3.lt;go_simp;refine hK'.out _ _ mkd ?_;clear hK' K';refine ae (fun Z h5 => ?_);(try simp only [Act.put, zlaK, zlbK, zlcK]);exact hk BO g Z ((NEW.out BO w3 (RX.trans h4) (by omega) B3).on h5)
    · go_simp;refine hK'.out _ _ (fun _ => (h1.trans h2).alloc _) ?_;clear hK' K';refine al_r fun X BX RX hX => ?_
      have RX := (h1.trans h2).trans RX;have s2 := (h1.trans h2).size;obtain ⟨BO, hBO⟩ : ∃ BO, w1.heap.size = BO := ⟨_, rfl⟩;rw [hBO] at BX |-;refine ao 7 (fun w2 h3 K' hK' => ?_);go_simp;refine hK'.out _ _ (fun _ => (RX.trans h3).alloc _) ?_;clear hK' K';have BX := BX.rel h3;refine al_r fun Y BY RY hY => ?_
      have BX := BX.rel RY;have RY := (RX.trans h3).trans RY;obtain ⟨g, hg⟩ : ∃ g, w2.heap.size = g := ⟨_, rfl⟩;rw [hg] at BY |-;have ct := CT.out _ _ BY;have hgl := BY.lt;refine wre RY ?_;refine wrm [11, 12, 13, 14] 1 16 (fun _ => Rel.refl _) ?_;refine ao 16 (fun w3 h4 K' hK' => ?_);have B3 := BX.rel h4;have kk := B3.cs;have kf := B3.f;have kl := B3.lt;go_simp;refine hK'.out _ _ mkd ?_;clear hK' K';refine ae (fun Z h5 => ?_);(try simp only [Act.put, zlaK, zlbK, zlcK]);exact hk BO g Z ((NEW.out BO w3 (RY.trans h4) (by omega) B3).on h5)
  case cont =>
    intro BO g W1 S1;have HA : Hid (∀ q, OffB ({ zeroM with frm := F, mode := M + 1, unit := c } : VerM).ca q) := fun q a ha => by cases ha
    have HB : Hid (({ zeroM with frm := F, mode := M + 1, unit := c } : VerM).le = [] /\ ({ zeroM with frm := F, mode := M + 1, unit := c } : VerM).gr = [] /\ ({ zeroM with frm := F, mode := M + 1, unit := c } : VerM).re = []) := ⟨rfl, rfl, rfl⟩;generalize { zeroM with frm := F, mode := M + 1, unit := c } = mA at S1 HA HB;clear C3 C4 C6 CT NEW V0 k kl wM R0 h0 h1 s0 cz hj pu0 pu1 pm0 pm1 pf0 pf1 f0 f1 m0 m1 u0 u1;have hBO := S1.up;go_upto_block 0 with fail;refine al_q fun W2 BK RK hK => ?_
    have S2 := S1.on RK;obtain ⟨kb, hkb⟩ : ∃ kb, W1.heap.size = kb := ⟨_, rfl⟩;rw [hkb] at BK hK |-;have hkb2 : BO < kb := by have := S1.C.o.lt; omega
    clear S1 RK hkb
    go_cut [5, 6] from 33 to 76 (fun s5 s6 wx => ∃ (N : Nat) (m : VerM), N <= 4 /\ OS w r W0 BO N m wx /\ (m.le = [] /\ m.gr = [] /\ m.re = []))
    case first =>
     go_wp2_with fail
     go_loopw [5] (fun i wx => ∃ (k N : Nat) (m : VerM), i = .int .i64 k /\ k <= 4 /\ N <= k /\ OffB m.ca kb /\ Blk wx kb 3 (t6.map (Value.int .i64)) /\ (m.le = [] /\ m.gr = [] /\ m.re = []) /\ OS w r W0 BO N m wx) (fun i _ => 4 - (intOf i).toNat)
     case atStart => exact ⟨0, 0, _, rfl, by omega, Nat.le_refl _, HA.out _, BK, HB.out, S2⟩
     case round =>
       obtain ⟨k, N, m, rfl, hk, hN, hO, hB, hm, hS⟩ := hrel;have v3 := hS.V.c (j := 3) rfl;rw [EC.out] at v3;have vl' := hS.V.lt;have nn := hS.C.n;by_cases e1 : k < r.nc /\ k < 4
       · obtain ⟨e1, e2⟩ := e1;obtain ⟨b, off, rfl, hb, zs, hz⟩ := HC.out (by omega);obtain ⟨q0, z00, z01⟩ := hz 0 (by omega);obtain ⟨qk, zk0, zk1⟩ := hz k e1;rw [Nat.add_zero] at q0;have r0 := hS.rel.cell q0;have rk := hS.rel.cell qk;generalize zs 0 = z0 at *;generalize zs k = zk at *;have P0 := Hj fun w => pick_any z0 6 w z00 z01 (by decide) (by decide)
         have P1 := Hj fun w => pick_any zk 900 w zk0 zk1 (by decide) (by decide)
         obtain ⟨p0, p1⟩ := pick_bd (z := z0) (n := 6) (by decide);obtain ⟨y0, y1⟩ := pick_bd (z := zk) (n := 900) (by decide);generalize z0 % 6 = p at *;generalize zk % 900 = y at *;have wp : IntKind.i64.wrap ((k : Int) + p) = (k : Int) + p := IntWalk.i64_in _ ⟨by omega, by omega⟩;have wy : IntKind.i64.wrap (y + 1) = y + 1 := IntWalk.i64_in _ ⟨by omega, by omega⟩;obtain ⟨q, hq, hq6⟩ : ∃ q : Nat, ((k : Int) + p).tmod 6 = q /\ q < 6 := ⟨(((k : Int) + p).tmod 6).toNat, by rw [Int.tmod_eq_emod_of_nonneg (by omega)]; omega, by rw [Int.tmod_eq_emod_of_nonneg (by omega)]; omega⟩;obtain ⟨kd, hkd, kdz⟩ := t6_at hq6;have kc := hB.c (j := q) (u := .int .i64 kd) (by rw [List.getElem?_map, hkd]; rfl);have o3 := hS.C.o.c (j := 3) rfl;have ol := hS.C.o.lt;have kbl := hB.lt;have hbl := hS.rel.size;have hb' : b < wr.heap.size := by omega
         have d1 : decide ((k : Int) < (r.nc : Int)) = true := by simp; omega
         have d2 : decide ((k : Int) < 4) = true := by simp; omega
         clear hz q0 qk hkd
         cases e3 : (zk.tmod 3 == 0)
         rotate_left
         focus
           go_wp2_with fail;refine (P0.out _).mono ?_;rintro e wz ⟨rfl, rfl⟩;go_wp2_with fail;refine (P1.out _).mono ?_;rintro e wz ⟨rfl, rfl⟩
         rotate_left
         focus
           go_wp2_with fail;refine (P0.out _).mono ?_;rintro e wz ⟨rfl, rfl⟩
         all_goals
           go_wp2_with (at_builtin; refine wl_app ti_cr ((hS.al _).al _).C.c rfl (by omega) (by simp; omega) ?_)
           intro g2 c2 w8 own grow hat
           first
             | have C8 := ((hS.al _).al _).C.appC (x := (kd, 0)) ⟨kdz, (i64c : I64 0)⟩ own grow hat (by simp) (Rel.refl w8)
             | have C8 := ((hS.al _).al _).C.appC (x := (kd, y + 1)) ⟨kdz, (⟨by omega, by omega⟩ : I64 (y + 1))⟩ own grow hat (by simp) (Rel.refl w8)
           have S8 := ((hS.al _).al _).ap grow (fun q hq => (hS.C.c.lt q hq).1) (Rel.refl w8) C8;have O8 := ((hS.al _).al _).C.o8 grow (fun q hq => (hS.C.c.lt q hq).1);have B8 := ((hB.alloc _).alloc _).grown grow (offB_ne hO);have F8 := offB_next (q := kb) hat (by omega) hO;have k0 := O8.c (j := 3) rfl;have k1 := O8.f 3;have k2 := O8.lt;clear own grow hat o3 C8;go_wp2
           go_roundw
           case rel => exact ⟨k + 1, N + 1, _, by go_num, by omega, by omega, F8, B8.other (by omega) _ _, by exact hm, S8⟩
           case measure => simp [intOf]; omega
       · by_cases e0 : k < r.nc
         · have d1 : decide ((k : Int) < (r.nc : Int)) = true := by simp; omega
           have d2 : decide ((k : Int) < 4) = false := by simp; omega
           go_wp2
           go_meet
           case rel => exact ⟨N, m, by omega, hS, hm⟩
         · have d1 : decide ((k : Int) < (r.nc : Int)) = false := by simp; omega
           go_wp2
           go_meet
           case rel => exact ⟨N, m, by omega, hS, hm⟩
    case rest =>
      clear S2 BK hK;obtain ⟨N, m, hN, hS, hm⟩ := hcut;go_upto_block 2 with fail
      go_cut [7, 8, 9] from 77 to 115 (fun s7 s8 s9 wx => ∃ (N : Nat) (m : VerM), N <= 10 /\ OS w r W0 BO N m wx /\ (m.le = [] /\ m.gr = [] /\ m.re = []))
      case first =>
       go_wp2_with fail
       go_loopw [7] (fun i wx => ∃ (k N : Nat) (m : VerM), i = .int .i64 k /\ k <= 6 /\ N <= 4 + k /\ (m.le = [] /\ m.gr = [] /\ m.re = []) /\ OS w r W0 BO N m wx) (fun i _ => 6 - (intOf i).toNat)
       case atStart => exact ⟨0, N, m, rfl, by omega, by omega, hm, hS⟩
       case round =>
        obtain ⟨k, N, m, rfl, hk, hN, hm, hS⟩ := hrel;have v3 := hS.V.c (j := 4) rfl;rw [ES.out] at v3;have vl' := hS.V.lt;have nn := hS.C.n;by_cases e1 : k < r.ns /\ k < 6
        · obtain ⟨e1, e2⟩ := e1;obtain ⟨b, off, rfl, hb, zs, hz⟩ := HZ.out (by omega);obtain ⟨qk, zk0, zk1⟩ := hz k e1;have rk := hS.rel.cell qk;generalize zs k = zk at *;have P1 := Hj fun w => pick_any zk 4000 w zk0 zk1 (by decide) (by decide)
          have C3 := Hj fun w => pick_any zk 20 w zk0 zk1 (by decide) (by decide)
          obtain ⟨y0, y1⟩ := pick_bd (z := zk) (n := 4000) (by decide);obtain ⟨t0, t1⟩ := pick_bd (z := zk) (n := 20) (by decide);generalize zk % 4000 = y at *;generalize zk % 20 = t at *;have wy : IntKind.i64.wrap (y + 1) = y + 1 := IntWalk.i64_in _ ⟨by omega, by omega⟩;have MK := Hj fun w => rmake_any (y + 1) 1000 w (by omega) (by omega) (by decide) (by decide)
          unfold FrRes at MK;obtain ⟨⟨n0, n1⟩, n2, n3⟩ := mk_bd (y + 1) 1000;generalize mkN (y + 1) 1000 = fn at *;generalize mkD (y + 1) 1000 = fd at *;generalize mkE (y + 1) 1000 = fe at *;have w25 : IntKind.i64.wrap (25 * (k : Int)) = 25 * (k : Int) := IntWalk.i64_in _ ⟨by omega, by omega⟩;have w19 : IntKind.i64.wrap (1930 + 25 * (k : Int)) = 1930 + 25 * (k : Int) := IntWalk.i64_in _ ⟨by omega, by omega⟩;have wY : IntKind.i64.wrap (1930 + 25 * (k : Int) + t) = 1930 + 25 * (k : Int) + t := IntWalk.i64_in _ ⟨by omega, by omega⟩;have d1 : decide ((k : Int) < (r.ns : Int)) = true := by simp; omega
          have d2 : decide ((k : Int) < 6) = true := by simp; omega
          have hbl := hS.rel.size;have hb' : b < wr.heap.size := by omega
          clear hz qk;go_wp2_with fail;refine (P1.out _).mono ?_;rintro e wz ⟨rfl, rfl⟩;go_wp2_with fail;refine (MK.out _).mono ?_;rintro e w3 ⟨rfl, h3⟩;go_wp2_with fail;refine al_q fun X BX RX hX => ?_
          have R3 := h3.trans RX;have S4 := hS.on R3;have v4 := R3.cell v3;have r4 := R3.cell rk;have o4 := S4.C.o.c (j := 4) rfl;have xk := BX.cs;have xl := BX.lt;have ol := S4.C.o.lt;have vl4 := S4.V.lt;clear v3 rk h3 RX;refine wrp 14 4 15 (fun w0 h0 => ?_);refine ao 14 (fun w6 h6 K' hK' => ?_);go_simp;refine hK'.out _ _ (fun _ => (h0.trans h6).alloc _) ?_;clear hK' K' v4 r4 o4 xk;refine ao 15 (fun w7 h7 K' hK' => ?_);have S7 := S4.on (((h0.trans h6).alloc _).trans h7);refine wa_app ti_ix S7.C.s h7 rfl (by have := S7.C.n; omega) (by have := (h0.trans h6).size; omega) ?_;intro g2 c2 w8 own grow hat;have O8 := S7.C.o8 grow (fun q hq => (S7.C.s.lt q hq).1);refine hK'.out _ _ mkd ?_;clear hK' K';refine ao 16 (fun w81 h81 K' hK' => ?_);go_simp;refine hK'.out _ _ mkd ?_;clear hK' K';refine ao 17 (fun w9 h9 K' hK' => ?_);have H9 := h81.trans h9;have k0 := (O8.rel H9).c (j := 4) rfl;have k1 := (O8.rel H9).f 4;have k2 := (O8.rel H9).lt;have S8 := S7.ap grow (fun q hq => (S7.C.s.lt q hq).1) H9 (S7.C.appS (x := (1930 + 25 * (k : Int) + t, fn, fd)) ⟨⟨by omega, by omega⟩, (⟨by omega, by omega⟩ : I64 fn), (⟨by omega, by omega⟩ : I64 fd)⟩ own grow hat (Nat.le_refl _) H9);clear grow own hat;go_simp;refine hK'.out _ _ mkd ?_;clear hK' K';refine ae (fun Z h5 => ?_);have S8 := S8.on h5;clear k0 k1 k2 h5;(try simp only [Act.put, zlaK, zlbK, zlcK]);go_wp2
          go_roundw
          case rel => exact ⟨k + 1, N + 1, _, by go_num, by omega, by omega, by exact hm, S8⟩
          case measure => simp [intOf]; omega
        · by_cases e0 : k < r.ns
          · have d1 : decide ((k : Int) < (r.ns : Int)) = true := by simp; omega
            have d2 : decide ((k : Int) < 6) = false := by simp; omega
            go_wp2
            go_meet
            case rel => exact ⟨N, m, by omega, hS, hm⟩
          · have d1 : decide ((k : Int) < (r.ns : Int)) = false := by simp; omega
            go_wp2
            go_meet
            case rel => exact ⟨N, m, by omega, hS, hm⟩
      case rest =>
       obtain ⟨N, m, hN, hS, hle, hgr, hre⟩ := hcut;go_upto_block 4 with fail
       go_cut [10, 11, 12] from 116 to 157 (fun s10 s11 s12 wx => ∃ (N : Nat) (m : VerM) (L : List (ByteArray × Int)) (ea : Option Addr) (ec : Nat), s10 = .slice ea L.length ec /\ L.length <= 5 /\ N <= 15 /\ EnvS BO m L ea ec wx /\ OS w r W0 BO N m wx)
       case first =>
        go_wp2_with fail
        go_loopw [10, 11] (fun s10 i wx => ∃ (k N : Nat) (m : VerM) (L : List (ByteArray × Int)) (ea : Option Addr) (ec : Nat), i = .int .i64 k /\ s10 = .slice ea L.length ec /\ L.length = k /\ k <= 5 /\ N <= 10 + k /\ EnvS BO m L ea ec wx /\ LeO ea m wx /\ (m.gr = [] /\ m.re = []) /\ OS w r W0 BO N m wx) (fun _ i _ => 5 - (intOf i).toNat)
        case atStart => exact ⟨0, N, m, [], none, 0, rfl, rfl, rfl, by omega, by omega, ⟨World.ownsRow_nil _ _ _ _, fun p hp => (by cases hp), fun i hi a b ha hb => (by cases hb)⟩, fun p hp => (by rw [hle] at hp; cases hp), ⟨hgr, hre⟩, hS⟩
        case round =>
         obtain ⟨k, N, m, L, ea, ec, rfl, rfl, hLk, hk, hN, hE, hT, hgr, hS⟩ := hrel;subst hLk;have v3 := hS.V.c (j := 5) rfl;rw [EL.out] at v3;have vl' := hS.V.lt;have nn := hS.C.n;by_cases e1 : L.length < r.nl /\ L.length < 5
         · obtain ⟨e1, e2⟩ := e1;obtain ⟨b, off, rfl, hb, hz⟩ := HL.out (by omega);obtain ⟨qk, hI⟩ := hz L.length e1;have rk := hS.rel.cell qk;obtain ⟨ia, ic, hv, hn⟩ : ∃ ia ic, VL L.length = .slice ia (NL L.length) ic /\ NL L.length <= 17592186044416 := by obtain ⟨ia, ic, hv, hn, -⟩ := hI; exact ⟨ia, ic, hv, hn⟩
           rw [hv] at hI rk;generalize NL L.length = n at *;have hd0 : 0 <= (n : Int) % 4 /\ (n : Int) % 4 < 4 := by omega
           have wd : IntKind.i64.wrap (1 + (n : Int) % 4) = 1 + (n : Int) % 4 := IntWalk.i64_in _ ⟨by omega, by omega⟩;have C5 := Hj fun w => s_letName L.length (by omega) w
           have o5 := hS.C.o.c (j := 5) rfl;have ol := hS.C.o.lt;have d1 : decide (((L.length : Nat) : Int) < (r.nl : Int)) = true := by simp; omega
           have d2 : decide (((L.length : Nat) : Int) < 5) = true := by simp; omega
           have hbl := hS.rel.size;have hb' : b < wr.heap.size := by omega
           have HI := Hj hI;clear hz qk hI hv;go_wp2_with fail;refine wrp 11 6 14 (fun w0 h0 => ?_);refine ao 11 (fun w5 h5 K' hK' => ?_);go_simp;have R5 := h0.trans h5;have E5 := hE.on R5;have S5 := hS.on R5;refine (s_Expr w5 (ints_rel HI.out (hS.rel.trans R5)) (E5.env (by omega)) (by omega) ⟨by omega, by omega⟩).mono ?_;unfold ExprX;rintro e w6 ⟨t, xa, xc, rfl, TX, h6⟩;have TB := TX (fun q => OffB ea q /\ (BO < q /\ OffV m q)) (fun q hq => ⟨offB_own E5.O hq, S5.C.off hq⟩);have R6 := R5.trans h6;refine hK'.out _ _ (fun _ => R6) ?_;clear hK' K' v3 rk o5 E5 S5 TX h0 h5 R5;refine ao 12 (fun w7 h7 K' hK' => ?_);go_simp;refine hK'.out _ _ (fun _ => R6.trans h7) ?_;clear hK' K';refine ao 13 (fun w8 h8 K' hK' => ?_);go_simp;refine hK'.out _ _ (fun _ => ((R6.trans h7).trans h8).alloc _) ?_;clear hK' K';refine ao 14 (fun w9 h9 K' hK' => ?_);have R9 := (((h7.trans h8).alloc _).trans h9);have S9 := hS.on (R6.trans R9);have E9 := hE.on (R6.trans R9);have T9 : LeO ea m w9 := fun p hp => (hT p hp).rel (R6.trans R9)
           have TB := TB.rel R9;refine wa_app ti_le S9.C.l h9 rfl (by have := S9.C.n; omega) (by have := ((R6.trans h7).trans h8).size; omega) ?_;intro g2 c2 w10 own grow hat;have O8 := S9.C.o8 grow (fun q hq => (S9.C.l.lt q hq).1);refine hK'.out _ _ mkd ?_;clear hK' K';refine ao 15 (fun w11 h11 K' hK' => ?_);go_simp;refine hK'.out _ _ mkd ?_;clear hK' K';refine ao 16 (fun w12 h12 K' hK' => ?_);have H9 := h11.trans h12;have k0 := (O8.rel H9).c (j := 5) rfl;have k1 := (O8.rel H9).f 5;have k2 := (O8.rel H9).lt;have S8 := S9.ap grow (fun q hq => (S9.C.l.lt q hq).1) H9 (S9.C.appL (x := (lnm L.length, (t, .slice xa t.cnt xc))) ⟨by have := lnm_z (k := L.length); show (lnm L.length).size <= _; omega, TB.mono (fun q hq => hq.2)⟩ own grow hat (Nat.le_refl _) H9);have E8 := E9.row (m' := { m with le := m.le ++ [(lnm L.length, (t, .slice xa t.cnt xc))], la := some ⟨g2, 0, none⟩, lc := c2 }) (i := 5) (u := .slice (some ⟨g2, 0, none⟩) (m.le.length + 1) c2) 2 grow hat (Nat.le_refl _) H9;have T8 := T9.app (x := (lnm L.length, (t, .slice xa t.cnt xc))) (i := 5) (u := .slice (some ⟨g2, 0, none⟩) (m.le.length + 1) c2) (la' := some ⟨g2, 0, none⟩) (lc' := c2) S9.C TB grow H9;clear grow own hat;go_simp;refine hK'.out _ _ mkd ?_;clear hK' K';refine ae (fun Z h5 => ?_);have S8 := S8.on h5;have E8 := E8.on h5;have T8 : LeO _ _ Z := fun p hp => (T8 p hp).rel h5
           clear k0 k1 k2 h5 S9 E9 T9 TB O8;(try simp only [Act.put, zlaK, zlbK, zlcK]);go_wp2_with fail;refine (C5.out _).mono ?_;rintro e wz ⟨rfl, hz⟩;have z8 := S8.C.o.lt;have z9 := hz.size;have S9 := S8.on (hz.alloc (.cells #[.string (lnm L.length), .int .i64 (1 + (n : Int) % 4)] 121));have E9 := E8.on (hz.alloc (.cells #[.string (lnm L.length), .int .i64 (1 + (n : Int) % 4)] 121));have T9 : LeO _ _ _ := fun p hp => (T8 p hp).rel (hz.alloc (.cells #[.string (lnm L.length), .int .i64 (1 + (n : Int) % 4)] 121))
           clear S8 E8 T8
           go_wp2_with (at_builtin; refine wl_app ti_bd E9.O rfl (by omega) (by omega) ?_)
           intro g3 c3 w9 own grow hat;have S8 := S9.envG E9 T9 hgr.1 hgr.2 grow;have E8 := E9.push (p := (lnm L.length, 1 + (n : Int) % 4)) S9.C ⟨by have := lnm_z (k := L.length); show (lnm L.length).size <= _; omega, by show _ <= 1 + (n : Int) % 4; omega, by show 1 + (n : Int) % 4 <= _; omega⟩ own hat (by simp);have T8 := T9.push grow hat (by simp);clear own grow hat S9 E9 T9;go_wp2
           go_roundw
           case rel => exact ⟨L.length + 1, N + 1, _, L ++ [(lnm L.length, 1 + (n : Int) % 4)], _, _, by go_num, by rw [List.length_append]; rfl, by rw [List.length_append]; rfl, by omega, by omega, E8, T8, hgr, S8⟩
           case measure => simp [intOf]; omega
         · by_cases e0 : L.length < r.nl
           · have d1 : decide (((L.length : Nat) : Int) < (r.nl : Int)) = true := by simp; omega
             have d2 : decide (((L.length : Nat) : Int) < 5) = false := by simp; omega
             go_wp2
             go_meet
             case rel => exact ⟨N, m, L, ea, ec, rfl, by omega, by omega, hE, hS⟩
           · have d1 : decide (((L.length : Nat) : Int) < (r.nl : Int)) = false := by simp; omega
             go_wp2
             go_meet
             case rel => exact ⟨N, m, L, ea, ec, rfl, by omega, by omega, hE, hS⟩
       case rest =>
        obtain ⟨N, m, L, ea, ec, rfl, hL5, hN, hE, hS⟩ := hcut;go_upto_block 6 with fail
        go_cut [13, 14, 15] from 158 to 198 (fun s13 s14 s15 wx => ∃ (N : Nat) (m : VerM), N <= 18 /\ EnvS BO m L ea ec wx /\ OS w r W0 BO N m wx)
        case first =>
         go_wp2_with fail
         go_loopw [13] (fun i wx => ∃ (k N : Nat) (m : VerM), i = .int .i64 k /\ k <= 3 /\ N <= 15 + k /\ EnvS BO m L ea ec wx /\ OS w r W0 BO N m wx) (fun i _ => 3 - (intOf i).toNat)
         case atStart => exact ⟨0, N, m, rfl, by omega, by omega, hE, hS⟩
         case round =>
          obtain ⟨k, N, m, rfl, hk, hN, hE, hS⟩ := hrel;have v7 := hS.V.c (j := 7) rfl;have v6 := hS.V.c (j := 6) rfl;rw [EP.out] at v7;rw [EJ.out] at v6;have vl' := hS.V.lt;have nn := hS.C.n;by_cases e1 : k < r.np /\ k < 3
          · obtain ⟨e1, e2⟩ := e1;obtain ⟨b, off, rfl, hb, hz⟩ := HP.out (by omega);obtain ⟨qk, hI⟩ := hz k e1;have rk := hS.rel.cell qk;have wk : IntKind.i64.wrap ((k : Int) + 1) = (k : Int) + 1 := IntWalk.i64_in _ ⟨by omega, by omega⟩;have d1 : decide ((k : Int) < (r.np : Int)) = true := by simp; omega
            have d2 : decide ((k : Int) < 3) = true := by simp; omega
            have hbl := hS.rel.size;have hb' : b < wr.heap.size := by omega
            have HI := Hj hI;clear hz qk hI;go_wp2_with fail;refine (s_Expr wr (ints_rel HI.out hS.rel) (hE.env (by omega)) (by omega) i64c).mono ?_;unfold ExprX;rintro e w5 ⟨t, ta, tc, rfl, TX, h5⟩;have TB := TX (fun q => BO < q /\ OffV m q) (fun q hq => hS.C.off hq);have S5 := hS.on h5;have E5 := hE.on h5;have v6 := h5.cell v6;have hm5 := h5.size;have vl5 := S5.V.lt;clear TX rk v7;by_cases ei : k < r.ni
            focus
              obtain ⟨b2, off2, rfl, hb2, hz2⟩ := HJ.out (by omega);obtain ⟨q2, I2⟩ := hz2 k ei;have r2 := S5.rel.cell q2;have HI2 := Hj I2;have d3 : decide ((k : Int) < (r.ni : Int)) = true := by simp; omega
              have b2' : b2 < w5.heap.size := by omega
              obtain ⟨ia, ic, hv, -⟩ := id I2;rw [hv] at r2;have HI2 : Hid (IntsIn w (.slice ia (NJ k) ic) (NJ k)) := by show IntsIn _ _ _; rw [<- hv]; exact I2
              clear q2 I2 hz2 hv;go_wp2_with fail
            rotate_left
            focus
              have d3 : decide ((k : Int) < (r.ni : Int)) = false := by simp; omega
              have HI2 : Hid (IntsIn w (.slice none 0 0) 0) := ⟨none, 0, rfl, Nat.zero_le _, fun h => absurd h (Nat.lt_irrefl 0)⟩;go_wp2_with fail
            all_goals
              refine al_c fun X BX RX hX => ?_
              have S6 := S5.on RX;refine (s_Expr X (ints_rel HI2.out S6.rel) ((E5.on RX).env (by omega)) (by omega) i64c).mono ?_;unfold ExprX;rintro e w7 ⟨u, ua, uc, rfl, UX, h7⟩;have UB := UX (fun q => X.heap.size <= q) (fun q hq => hq);have B7 := BX.rel h7;have kk := B7.cs;have kf := B7.f;have kl := B7.lt;clear UX BX v6;go_upto_region 30 with (fail);refine st6_q B7 (RX.trans h7) (Nat.le_refl _) fun Z BZ RZ QZ => ?_
              have SZ := S5.on RZ;have EZ := E5.on RZ;have UZ := (UB.ro QZ (fun q hq => by omega)).mono (fun q hq => S6.C.off hq);have TZ := TB.rel RZ;clear kk kf kl B7 UB S6 h7;have kk := BZ.cs;have kl := BZ.lt;have o6 := SZ.C.o.c (j := 6) rfl;have ol := SZ.C.o.lt
              go_wp2_with (at_builtin; refine wl_app ti_gr (SZ.al _).C.g rfl (by omega) (by omega) ?_)
              intro g2 c2 w8 own grow hat;have S8 := (SZ.al _).ap grow (fun q hq => (SZ.C.g.lt q hq).1) (Rel.refl w8) ((SZ.al _).C.appG (x := ((k : Int) + 1, (u, .slice ua u.cnt uc), (t, .slice ta t.cnt tc))) ⟨⟨by show _ <= (k : Int) + 1; omega, by show (k : Int) + 1 <= _; omega⟩, UZ.rel ((Rel.refl _).alloc _), TZ.rel ((Rel.refl _).alloc _)⟩ own grow hat (by simp) (Rel.refl w8));have E8 := (EZ.on ((Rel.refl _).alloc _)).row (m' := { m with gr := m.gr ++ [((k : Int) + 1, (u, .slice ua u.cnt uc), (t, .slice ta t.cnt tc))], ga := some ⟨g2, 0, none⟩, gc := c2 }) (i := 6) (u := .slice (some ⟨g2, 0, none⟩) (m.gr.length + 1) c2) 3 grow hat (by simp) (Rel.refl w8);have O8 := (SZ.al _).C.o8 grow (fun q hq => (SZ.C.g.lt q hq).1);have k0 := O8.c (j := 6) rfl;have k1 := O8.f 6;have k2 := O8.lt;clear own grow hat kk o6 UZ TZ SZ EZ;go_wp2
              go_roundw
              case rel => exact ⟨k + 1, N + 1, _, by go_num, by omega, by omega, E8, S8⟩
              case measure => simp [intOf]; omega
          · by_cases e0 : k < r.np
            · have d1 : decide ((k : Int) < (r.np : Int)) = true := by simp; omega
              have d2 : decide ((k : Int) < 3) = false := by simp; omega
              go_wp2
              go_meet
              case rel => exact ⟨N, m, by omega, hE, hS⟩
            · have d1 : decide ((k : Int) < (r.np : Int)) = false := by simp; omega
              go_wp2
              go_meet
              case rel => exact ⟨N, m, by omega, hE, hS⟩
        case rest =>
         obtain ⟨N, m, hN, hE, hS⟩ := hcut;go_upto_block 8 with fail
         go_cut [16] from 199 to 224 (fun s16 wx => ∃ (N : Nat) (m : VerM), N <= 20 /\ OS w r W0 BO N m wx)
         case first =>
          go_wp2_with fail
          go_loopw [16] (fun i wx => ∃ (k N : Nat) (m : VerM), i = .int .i64 k /\ k <= 2 /\ N <= 18 + k /\ EnvS BO m L ea ec wx /\ OS w r W0 BO N m wx) (fun i _ => 2 - (intOf i).toNat)
          case atStart => exact ⟨0, N, m, rfl, by omega, by omega, hE, hS⟩
          case round =>
           obtain ⟨k, N, m, rfl, hk, hN, hE, hS⟩ := hrel;have v8 := hS.V.c (j := 8) rfl;rw [EX.out] at v8;have vl' := hS.V.lt;have nn := hS.C.n;by_cases e1 : k < r.nk /\ k < 2
           · obtain ⟨e1, e2⟩ := e1;obtain ⟨b, off, rfl, hb, hz⟩ := HX.out (by omega);obtain ⟨qk, hI⟩ := hz k e1;have rk := hS.rel.cell qk;have wk : IntKind.i64.wrap ((k : Int) + 1) = (k : Int) + 1 := IntWalk.i64_in _ ⟨by omega, by omega⟩;have d1 : decide ((k : Int) < (r.nk : Int)) = true := by simp; omega
             have d2 : decide ((k : Int) < 2) = true := by simp; omega
             have hbl := hS.rel.size;have hb' : b < wr.heap.size := by omega
             have o7 := hS.C.o.c (j := 7) rfl;have ol := hS.C.o.lt;have HI := Hj hI;clear hz qk hI;go_wp2_with fail;refine wrp 10 6 13 (fun w0 h0 => ?_);refine ao 10 (fun w5 h5 K' hK' => ?_);go_simp;have R5 := h0.trans h5;have S5 := hS.on R5;refine (s_Expr w5 (ints_rel HI.out (hS.rel.trans R5)) ((hE.on R5).env (by omega)) (by omega) i64c).mono ?_;unfold ExprX;rintro e w6 ⟨t, ta, tc, rfl, TX, h6⟩;have TB := TX (fun q => BO < q /\ OffV m q) (fun q hq => S5.C.off hq);have R6 := R5.trans h6;refine hK'.out _ _ (fun _ => R6) ?_;clear hK' K' v8 rk o7 S5 TX h0 h5 R5;refine ao 11 (fun w7 h7 K' hK' => ?_);go_simp;refine hK'.out _ _ (fun _ => R6.trans h7) ?_;clear hK' K';refine ao 12 (fun w8 h8 K' hK' => ?_);go_simp;refine hK'.out _ _ (fun _ => ((R6.trans h7).trans h8).alloc _) ?_;clear hK' K';refine ao 13 (fun w9 h9 K' hK' => ?_);have R9 := (((h7.trans h8).alloc _).trans h9);have S9 := hS.on (R6.trans R9);have E9 := hE.on (R6.trans R9);have TB := TB.rel R9;refine wa_app ti_re S9.C.r h9 rfl (by have := S9.C.n; omega) (by have := ((R6.trans h7).trans h8).size; omega) ?_;intro g2 c2 w10 own grow hat;have O8 := S9.C.o8 grow (fun q hq => (S9.C.r.lt q hq).1);refine hK'.out _ _ mkd ?_;clear hK' K';refine ao 14 (fun w11 h11 K' hK' => ?_);go_simp;refine hK'.out _ _ mkd ?_;clear hK' K';refine ao 15 (fun w12 h12 K' hK' => ?_);have H9 := h11.trans h12;have k0 := (O8.rel H9).c (j := 7) rfl;have k1 := (O8.rel H9).f 7;have k2 := (O8.rel H9).lt;have S8 := S9.ap grow (fun q hq => (S9.C.r.lt q hq).1) H9 (S9.C.appR (x := ((k : Int) + 1, (t, .slice ta t.cnt tc))) ⟨⟨by show _ <= (k : Int) + 1; omega, by show (k : Int) + 1 <= _; omega⟩, TB⟩ own grow hat (Nat.le_refl _) H9);have E8 := E9.row (m' := { m with re := m.re ++ [((k : Int) + 1, (t, .slice ta t.cnt tc))], ra := some ⟨g2, 0, none⟩, rc := c2 }) (i := 7) (u := .slice (some ⟨g2, 0, none⟩) (m.re.length + 1) c2) 4 grow hat (Nat.le_refl _) H9;clear grow own hat;go_simp;refine hK'.out _ _ mkd ?_;clear hK' K';refine ae (fun Z h5 => ?_);have S8 := S8.on h5;have E8 := E8.on h5;clear k0 k1 k2 h5 S9 E9 TB O8;(try simp only [Act.put, zlaK, zlbK, zlcK]);go_wp2
             go_roundw
             case rel => exact ⟨k + 1, N + 1, _, by go_num, by omega, by omega, E8, S8⟩
             case measure => simp [intOf]; omega
           · by_cases e0 : k < r.nk
             · have d1 : decide ((k : Int) < (r.nk : Int)) = true := by simp; omega
               have d2 : decide ((k : Int) < 2) = false := by simp; omega
               go_wp2
               go_meet
               case rel => exact ⟨N, m, by omega, hS⟩
             · have d1 : decide ((k : Int) < (r.nk : Int)) = false := by simp; omega
               go_wp2
               go_meet
               case rel => exact ⟨N, m, by omega, hS⟩
         case rest =>
          obtain ⟨N, m, hN, hS⟩ := hcut;have v9 := hS.V.c (j := 9) rfl;have vl := hS.V.lt;obtain ⟨t0, t1⟩ := HR.out.t
          have e9 : ((r.t != 0) = false) \/ ((r.t != 0) = true /\ (r.t.tmod 8 == 0) = false) \/ ((r.t != 0) = true /\ (r.t.tmod 8 == 0) = true) := by
            cases (r.t != 0) <;> cases (r.t.tmod 8 == 0) <;> simp
          rcases e9 with e9 | ⟨e9, e8⟩ | ⟨e9, e8⟩
          rotate_left 2
          focus
            have q8 : -9223372036854775808 <= r.t.tdiv 8 /\ r.t.tdiv 8 <= 9223372036854775807 := by
              by_cases h : 0 <= r.t
              · rw [Int.tdiv_eq_ediv_of_nonneg h]; omega
              · have : r.t.tdiv 8 = -((-r.t).tdiv 8) := by rw [Int.neg_tdiv, Int.neg_neg]
                rw [this, Int.tdiv_eq_ediv_of_nonneg (by omega)]; omega
            have w8 : IntKind.i64.wrap (r.t.tdiv 8) = r.t.tdiv 8 := IntWalk.i64_in _ q8;have P7 := Hj fun w => pick_any (r.t.tdiv 8) 7 w q8.1 q8.2 (by decide) (by decide)
            obtain ⟨y0, y1⟩ := pick_bd (z := r.t.tdiv 8) (n := 7) (by decide);generalize r.t.tdiv 8 % 7 = y at *;go_wp2_with fail;refine (P7.out _).mono ?_;rintro e wz ⟨rfl, rfl⟩;go_wp2_with fail;refine (s_twist hS y0 y1).mono ?_;unfold TwX;rintro e W9 ⟨⟨v, rfl⟩, m9, S9⟩
          rotate_left
          focus
            have S9 := hS;go_upto_region 37 with (fail)
          rotate_left
          focus
            have S9 := hS;go_upto_region 37 with (fail)
          all_goals
            have kk := S9.C.o.cs (e := by simp only [verC, cellsAt, and_true, Nat.zero_add, Nat.reduceAdd]; rfl);have kl := S9.C.o.lt;have rk := S9.R.cs (e := by simp only [verC, cellsAt, and_true, Nat.zero_add, Nat.reduceAdd]; rfl);have rf := S9.R.f;have rl := S9.R.lt;clear v9;refine gw ?_;exact of_ret S9 (by omega)
end Go.Proofs.YthmlhheceihcbaaGreatDoor

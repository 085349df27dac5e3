/- Bundle of texts: each says at its head what it proves; no conditions but those printed. -/
import Derived.Test.YtlmclkaighlfaaaGreatDoorSB9
import Derived.Test.YtlmclkaighlfaaaGreatDoorSB10
namespace Go.Proofs.YtlmclkaighlfaaaGreatDoor
set_option maxHeartbeats 16000000
open Go.RowKit Cal Str Tok Frac Txt Tree
attribute [local go_sem] calmUpon
set_option linter.unusedVariables false
set_option linter.unusedSimpArgs false
set_option maxRecDepth 20000 in
theorem rinfer_all (ea : Option Addr) (ecap : Nat) (nm : Nat → ByteArray) (dm : Nat → Int) (ke : Nat) (w0 : World) (HE : Hid (EnvAt w0 ke nm dm ea)) (hke : ke ≤ 17592186044416) (he : Hid (∀ i, i < ke → 1 ≤ dm i ∧ dm i ≤ 4)) (t : Ex) :
  ∀ (x : Value) (w : World), Rel w0 w → ExKids t w x → t.form = true →
  Calls Tryz.prog 193 #[.agg #[.int .i64 t.op, .int .i64 t.va, .int .i64 t.vb, .int .i64 t.dm, .string t.nm, x], .slice ea ke ecap] w (InfRes (t.inf nm dm ke) w) := by
 induction t with
 | no => intro x w hw h; exact h.elim
 | mk op a b d s n kid ih =>
  intro x w hw h hf;have HBD := Hj (inf_bd (nm := nm) he.out (.mk op a b d s n kid) hf);obtain ⟨hb, hn, ad, cap, rfl, hk⟩ := h;have HK : Hid (KidsAt w n kid ad) := hk;have HW := Hj hw;rw [form_mk, Bool.and_eq_true] at hf;obtain ⟨hnod, hkf⟩ := hf;have HN := Hj hnod;have HF := Hj (alK_lt hkf);have IH := Hj ih;simp only [Ex.op, Ex.va, Ex.vb, Ex.dm, Ex.nm];have hs1 := hb.s1;obtain ⟨RES, hRES⟩ : ∃ RES, (Ex.mk op a b d s n kid).inf nm dm ke = RES := ⟨_, rfl⟩;rw [hRES] at HBD ⊢;rw [inf_mk] at hRES;clear hk ih hw hb hnod hkf;by_cases h1 : op = 1
  ·subst h1;rw [if_pos rfl] at hRES;have HR := Hj hRES.symm;clear hRES;go_enter Tryz.func193, Tryz.ntmps193;go_wp2
   go_ret2
   exact inf_ret HR.out (by (show Rel _ _; repeat (first | with_reducible (first | exact qR _ | refine qA ?_ _ | refine qD ?_ | refine qT ?_ H0.out) | with_reducible refine qS ?_ (by first | (simp; done) | (simp; omega)) _)))
  ·rw [if_neg h1] at hRES;have e1 : (op == 1) = false := by rw [zn]; exact h1
   by_cases h3 : op = 3
   ·subst h3;rw [if_pos rfl] at hRES;have HR := Hj hRES.symm;clear hRES h1;go_enter Tryz.func193, Tryz.ntmps193;go_wp2
    go_ret2
    exact inf_ret HR.out (by (show Rel _ _; repeat (first | with_reducible (first | exact qR _ | refine qA ?_ _ | refine qD ?_ | refine qT ?_ H0.out) | with_reducible refine qS ?_ (by first | (simp; done) | (simp; omega)) _)))
   ·rw [if_neg h3] at hRES;have e3 : (op == 3) = false := by rw [zn]; exact h3
    by_cases h2 : op = 2
    ·subst h2;rw [if_pos rfl] at hRES;have I := Hj fun w => rInput_any s w
     by_cases hin : inpI s = 0
     ·have hib : inpB s = false := by unfold inpB; rw [hin]; rfl
      rw [hin, hib] at I;have hl : lokI nm dm ke s = envI nm dm s ke := by unfold lokI; rw [if_pos hin]
      rw [hl] at hRES;have HR := Hj hRES;have ib1 : IntKind.i64.wrap ((ke : Int) - 1) = (ke : Int) - 1 := IntWalk.i64_in _ ⟨by omega, by omega⟩;clear hRES h1 h3 hin hib hl;go_enter Tryz.func193, Tryz.ntmps193;go_wp2_with fail;refine (I.out _).mono ?_;rintro e w1 ⟨rfl, rfl⟩;go_wp2_with fail
      go_loopw [8] (fun i wx => ∃ m : Nat, m ≤ ke ∧ i = .int .i64 ((ke : Int) - 1 - m) ∧ Hid (∀ j, ke - m ≤ j → j < ke → ¬ (nm j).data.toList = s.data.toList) ∧ Hid (Rel (w.alloc (.cells #[.int .i64 2, .int .i64 a, .int .i64 b, .int .i64 d, .string s, .slice ad n cap] 66)) wx)) (fun i _ => (intOf i + 1).toNat)
      case atStart => exact ⟨0, by omega, by simp, (fun j h1 h2 => by omega), by show Rel _ _; (show Rel _ _; repeat (first | with_reducible (first | exact qR _ | refine qA ?_ _ | refine qD ?_ | refine qT ?_ H0.out) | with_reducible refine qS ?_ (by first | (simp; done) | (simp; omega)) _))⟩
      case round =>
       obtain ⟨m, hm, rfl, hN, hR⟩ := hrel;have hR2 := hR.out;have kq0 := keep6 hR2 (b := w.heap.size) (by first | (simp; done) | (simp; omega) | omega);have kz2 := hR2.size;(try simp only [zsa, zsc, zsd] at kz2);have H2 := Hj hR2;clear hR2
       have RW : Hid (Rel w wr) := by
        show Rel _ _
        (show Rel _ _; repeat (first | with_reducible (first | exact qR _ | refine qA ?_ _ | refine qD ?_ | refine qT ?_ H2.out | refine qT ?_ H1.out | refine qT ?_ H0.out) | with_reducible refine qS ?_ (by first | (simp; done) | (simp; omega)) _))
       by_cases hlt : m < ke
       ·obtain ⟨g, off, rfl, hg, hc⟩ := HE.out (by omega);obtain ⟨q0, q1, -, -, -⟩ := hc (ke - 1 - m) (by omega);have c0 := (HW.out.trans RW.out).cell q0;have c1 := (HW.out.trans RW.out).cell q1;obtain ⟨j, hj⟩ : ∃ j, ke - 1 - m = j := ⟨_, rfl⟩;have hji : (ke : Int) - 1 - m = (j : Int) := by omega
        have hjk : j < ke := by omega
        have jb1 : IntKind.i64.wrap ((j : Int) - 1) = (j : Int) - 1 := IntWalk.i64_in _ ⟨by omega, by omega⟩;have hde := he.out j hjk;rw [hj] at c0 c1;rw [hji];have c0' := c0;clear q0 q1 hc
        cases hx : ((nm j).toList == s.toList)
        ·have hne : Hid (∀ i, ke - (m + 1) ≤ i → i < ke → ¬ (nm i).data.toList = s.data.toList) := fun i h1 h2 => by
          by_cases e : i = j
          ·subst e; exact nm_ne hx
          ·exact hN.out i (by omega) h2
         go_wp2_with fail;refine wp_region_calm (fun _ w' => w'.cell? { block := g, off := off + j * 2 } = some (.string (nm j)) ∧ w'.cell? { block := w.heap.size, off := 4 } = some (.string s)) (fun _ => false) [0, 1, 2, 3, 4, 5, 6, 7] 0 (by kernel_rfl) (by kernel_rfl) ?hst ?hS0 (fun w0 h0 => ?_)
         case hst => exact fun _ _ _ h r => ⟨r.cell h.1, r.cell h.2⟩
         case hS0 => exact ⟨c0', by go_simp⟩
         iterate 8
          refine wpCalm_go rfl (by kernel_rfl) (fun K hK => ?_);apply Exists.intro;refine ⟨fun M w hM hS => ?_, hK _ ?_⟩
          ·have hc := hS.1;have hc' := hS.2;unfold calmAt;go_simp;exact ⟨rfl, Rel.refl _⟩
          clear hK K
         refine wpAnyR_end (by kernel_rfl) (fun w3 h3' => ?_);(try simp only [Act.put, zla, zlb, zlc]);have h3 := h0.trans h3';clear h0 h3';have kq1 := keep6 h3 (b := w.heap.size) (by first | (simp; done) | (simp; omega) | omega);have kz3 := h3.size;(try simp only [zsa, zsc, zsd] at kz3);have H3 := Hj h3;clear h3;go_wp2
         go_roundw
         case rel => exact ⟨m + 1, by omega, by simp; omega, hne, hR.out.trans H3.out⟩
         case measure => simp [intOf]
        ·have hv : envI nm dm s ke = dm j := envI_hit hjk (nm_eq.1 hx) (fun i h1 h2 => hN.out i (by omega) h2)
         have fin : Hid (RES = (dm j, 0)) := by
          show _ = _
          rw [← HR.out, hv, if_neg (by omega)]
         clear hv;go_wp2_with fail;refine wp_region_calm (fun _ w' => w'.cell? { block := g, off := off + j * 2 } = some (.string (nm j)) ∧ w'.cell? { block := w.heap.size, off := 4 } = some (.string s)) (fun _ => false) [0, 1, 2, 3, 4, 5, 6, 7] 0 (by kernel_rfl) (by kernel_rfl) ?hst ?hS0 (fun w0 h0 => ?_)
         case hst => exact fun _ _ _ h r => ⟨r.cell h.1, r.cell h.2⟩
         case hS0 => exact ⟨c0', by go_simp⟩
         iterate 8
          refine wpCalm_go rfl (by kernel_rfl) (fun K hK => ?_);apply Exists.intro;refine ⟨fun M w hM hS => ?_, hK _ ?_⟩
          ·have hc := hS.1;have hc' := hS.2;unfold calmAt;go_simp;exact ⟨rfl, Rel.refl _⟩
          clear hK K
         refine wpAnyR_end (by kernel_rfl) (fun w3 h3' => ?_);(try simp only [Act.put, zla, zlb, zlc]);have h3 := h0.trans h3';clear h0 h3';have kq2 := keep6 h3 (b := w.heap.size) (by first | (simp; done) | (simp; omega) | omega);have kz3 := h3.size;(try simp only [zsa, zsc, zsd] at kz3);have H3 := Hj h3;clear h3;have c1' := H3.out.cell c1;go_wp2
         go_ret2
         exact inf_ret fin.out (RW.out.trans H3.out)
       ·have : m = ke := by omega
        subst this;have hv : envI nm dm s m = 0 := envI_none (fun i hi => hN.out i (by omega) hi)
        have fin : Hid (RES = (0, 5)) := by
         show _ = _
         rw [← HR.out, hv, if_pos rfl]
        have hi1 : (m : Int) - 1 - m = -1 := by omega
        rw [hi1];clear hv;go_wp2
        go_ret2
        exact inf_ret fin.out RW.out
     ·have hib : inpB s = true := by unfold inpB; simpa using hin
      have hl : lokI nm dm ke s = inpI s := by unfold lokI; rw [if_neg hin]
      rw [hl, if_neg hin] at hRES;rw [hib] at I;obtain ⟨l, hl'⟩ : ∃ l, inpI s = l := ⟨_, rfl⟩;rw [hl'] at I hRES;have HR := Hj hRES.symm;clear hRES h1 h3 hib hl hl' hin;go_enter Tryz.func193, Tryz.ntmps193;go_wp2_with fail;refine (I.out _).mono ?_;rintro e w1 ⟨rfl, rfl⟩;go_wp2
      go_ret2
      exact inf_ret HR.out (by (show Rel _ _; repeat (first | with_reducible (first | exact qR _ | refine qA ?_ _ | refine qD ?_ | refine qT ?_ H0.out) | with_reducible refine qS ?_ (by first | (simp; done) | (simp; omega)) _)))
    ·rw [if_neg h2] at hRES;have e2 : (op == 2) = false := by rw [zn]; exact h2
     obtain ⟨o4, o21, n1, n3⟩ := op_ge HN.out h1 h2 h3;have har := Hj (nod_ar HN.out);have HR := Hj hRES;have BK := Hj fun i (hi : i < n) => inf_bd (nm := nm) he.out (kid i) (HF.out i hi)
     obtain ⟨D, hD⟩ : ∃ D : Nat → Int, (fun i => ((kid i).inf nm dm ke).1) = D := ⟨_, rfl⟩;obtain ⟨E, hE⟩ : ∃ E : Nat → Int, (fun i => ((kid i).inf nm dm ke).2) = E := ⟨_, rfl⟩;have HDE := Hj fun i => (⟨congrFun hD i, congrFun hE i⟩ : ((kid i).inf nm dm ke).1 = D i ∧ ((kid i).inf nm dm ke).2 = E i)
     have HER := Hj fun k (hk : k < n) (h0 : erK E k = 0) (h : ¬ E k = 0) => (opD_er (op := op) (n := n) (f := fun i => (kid i).inf nm dm ke) hk (by rw [hE]; exact h0) (by rw [(HDE.out k).2]; exact h) : opD op n (fun i => (kid i).inf nm dm ke) = _)
     have HOK := Hj fun (h0 : erK E n = 0) => (opD_ok (op := op) (n := n) (f := fun i => (kid i).inf nm dm ke) (by rw [hE]; exact h0))
     rw [hD] at HOK;clear hRES h1 h2 h3 hD hE;have hi3 : (Tryz.prog.info? 3).map (fun i => (i.zero, i.size, i.bytes)) = some (some (.int .i64 0), 1, 8) := by kernel_rfl
     obtain ⟨i0, hi, hx⟩ := Option.map_eq_some_iff.1 hi3;simp only [Prod.mk.injEq] at hx;obtain ⟨hz0, hz1, hz2⟩ := hx;have HI := Hj hi;have HZ0 := Hj hz0;have HZ1 := Hj hz1;have HZ2 := Hj hz2;clear hi3 hi hz0 hz1 hz2;go_enter Tryz.func193, Tryz.ntmps193;go_wp2_with fail
     go_loopw [9, 10] (fun v i wx => ∃ (k : Nat) (vv : Value), vv = v ∧ k ≤ n ∧ i = .int .i64 k ∧ Hid (erK E k = 0) ∧ Hid (wx.ownsRow (w.heap.size + 1) 3 1 vv k (dimL D k)) ∧ Hid (Rel (w.alloc (.cells #[.int .i64 op, .int .i64 a, .int .i64 b, .int .i64 d, .string s, .slice ad n cap] 66)) wx)) (fun _ i _ => n - (intOf i).toNat)
     case atStart => exact ⟨0, _, rfl, by omega, rfl, rfl, World.ownsRow_nil _ _ _ _, by show Rel _ _; (show Rel _ _; repeat (first | with_reducible (first | exact qR _ | refine qA ?_ _ | refine qD ?_ | refine qT ?_ H0.out) | with_reducible refine qS ?_ (by first | (simp; done) | (simp; omega)) _))⟩
     case round =>
      obtain ⟨k, vv, rfl, hkn, rfl, hE0, hO, hR⟩ := hrel;have hR2 := hR.out;have kq3 := keep6 hR2 (b := w.heap.size) (by first | (simp; done) | (simp; omega) | omega);have kz2 := hR2.size;(try simp only [zsa, zsc, zsd] at kz2);have H2 := Hj hR2;clear hR2
      have RW : Hid (Rel w wr) := by
       show Rel _ _
       (show Rel _ _; repeat (first | with_reducible (first | exact qR _ | refine qA ?_ _ | refine qD ?_ | refine qT ?_ H2.out | refine qT ?_ H1.out | refine qT ?_ H0.out) | with_reducible refine qS ?_ (by first | (simp; done) | (simp; omega)) _))
      by_cases hlt : k < n
      ·obtain ⟨g, off, rfl, hg, hc⟩ := HK.out (by omega);obtain ⟨xi, hs, hx⟩ := hc k hlt;obtain ⟨xa, xc, rfl⟩ := kids_slice hx;obtain ⟨c0, c1, c2, c3, c4, c5⟩ := six_rel hs RW.out hg;have C := Hj fun w' (r : Rel w w') => IH.out k _ w' (HW.out.trans r) (kids_rel hx r) (HF.out k hlt)
       unfold InfRes at C;rw [(HDE.out k).1, (HDE.out k).2] at C;obtain ⟨eb1, eb2, eb3, eb4, eb5⟩ := BK.out k hlt;rw [(HDE.out k).1] at eb1 eb4 eb5;rw [(HDE.out k).2] at eb1 eb2 eb3;clear hs hc hx;by_cases hek : E k = 0
       ·have hE1 : Hid (erK E (k + 1) = 0) := by
         show _ = _
         simp only [erK]; rw [if_pos hE0.out]; exact hek
        have hDk := eb1 hek;rw [hek] at C;clear eb1 eb2 eb3 hek hE0;go_wp2_with fail;refine (C.out _ (by show Rel _ _; refine RW.out.trans ?_; (show Rel _ _; repeat (first | with_reducible (first | exact qR _ | refine qA ?_ _ | refine qD ?_ | refine qT ?_ H0.out) | with_reducible refine qS ?_ (by first | (simp; done) | (simp; omega)) _)))).mono ?_;rintro e w3 ⟨rfl, h3⟩;have kz3 := h3.size;(try simp only [zsa, zsc, zsd] at kz3);have H3 := Hj h3;clear h3
        have HRO : Hid (Rel wr w3) := by
         show Rel _ _
         refine Rel.trans ?_ H3.out;(show Rel _ _; repeat (first | with_reducible (first | exact qR _ | refine qA ?_ _ | refine qD ?_ | refine qT ?_ H0.out) | with_reducible refine qS ?_ (by first | (simp; done) | (simp; omega)) _))
        have O1 := Hj (own_rel hO.out (HRO.out.alloc (.cells #[.int .i64 (D k)] 3)))
        have sz3 : w.heap.size + 1 ≤ w3.heap.size := by
         have := HRO.out.size;omega
        go_upto_region 23 with (fail)
        go_wp2_with (at_builtin; refine wpList_append_own _ rfl _ _ 59 rfl (w.heap.size + 1) 3 i0 (.int .i64 0) 1 8 Tryz.underlying59 HI.out HZ0.out HZ1.out HZ2.out rfl (by decide) vv k (dimL D k) rfl O1.out ⟨w3.heap.size, 0, none⟩ 1 1 [.int .i64 (D k)] rfl rfl ?c1 ?c2 ?c3 ?c4 ?c5 ?_)
        case c1 => exact new1_cells w3 (.int .i64 (D k)) 3
        case c2 => intro u hu; simp at hu; subst hu; rfl
        case c3 => unfold maxLen; omega
        case c4 => omega
        case c5 => simp; omega
        intro v' w4 hown' hgrow _
        have R4 : Hid (Rel (w.alloc (.cells #[.int .i64 op, .int .i64 a, .int .i64 b, .int .i64 d, .string s, .slice (some ⟨g, off, none⟩) n cap] 66)) w4) := by
         show Rel _ w4
         refine Below.grown ((hR.out.trans HRO.out).alloc _) hgrow (by simp; omega) (fun q hq => by have := (hO.out.lt q hq).1; simpa using this)
        have O4 : Hid (w4.ownsRow (w.heap.size + 1) 3 1 v' (k + 1) (dimL D (k + 1))) := by
         show World.ownsRow _ _ _ _ _ _ _
         rw [dimL_succ]; exact hown'
        clear hown' hgrow;go_wp2
        go_roundw
        case rel => exact ⟨k + 1, v', rfl, by omega, by go_num, hE1, O4, R4⟩
        case measure => simp [intOf]; omega
       ·have HR2 := Hj (HR.out.symm.trans (HER.out k hlt hE0.out hek));rw [(HDE.out k).2] at HR2;have fe : (E k != 0) = true := by rw [bne_iff_ne]; exact hek
        clear eb1 hek;go_wp2_with fail;refine (C.out _ (by show Rel _ _; refine RW.out.trans ?_; (show Rel _ _; repeat (first | with_reducible (first | exact qR _ | refine qA ?_ _ | refine qD ?_ | refine qT ?_ H0.out) | with_reducible refine qS ?_ (by first | (simp; done) | (simp; omega)) _)))).mono ?_;rintro e w3 ⟨rfl, h3⟩;have kz3 := h3.size;(try simp only [zsa, zsc, zsd] at kz3);have H3 := Hj h3;clear h3;go_wp2
        go_ret2
        exact inf_ret HR2.out (by show Rel _ _; refine RW.out.trans ?_; (show Rel _ _; repeat (first | with_reducible (first | exact qR _ | refine qA ?_ _ | refine qD ?_ | refine qT ?_ H3.out | refine qT ?_ H2.out | refine qT ?_ H1.out | refine qT ?_ H0.out) | with_reducible refine qS ?_ (by first | (simp; done) | (simp; omega)) _)))
      ·have : k = n := by omega
       subst this;obtain ⟨g, cp, rfl, hgb, hgl, hc1, hc2, hcs⟩ := own_some hO.out (by omega)
       have hDb : ∀ i, i < k → 1 ≤ D i ∧ D i ≤ 4 := fun i hi => by
        have h1 := (BK.out i hi).1;rw [(HDE.out i).1, (HDE.out i).2] at h1;exact h1 (erK_zero hE0.out i hi)
       have HRS := Hj (HR.out.symm.trans (HOK.out hE0.out));have RS := Hj (rresult_any op k g cp D wr ⟨o4, o21⟩ har.out hgl hDb (fun i hi => hcs i _ (dimL_at D k i hi)));obtain ⟨R, hR'⟩ : ∃ R, resI op D = R := ⟨_, rfl⟩;rw [hR'] at RS HRS;unfold IntRes at RS;clear hR' hDb hcs;go_wp2_with fail;refine RS.out.mono ?_;rintro e w3 ⟨rfl, h3⟩;have kq4 := keep6 h3 (b := w.heap.size) (by first | (simp; done) | (simp; omega) | omega);have kz3 := h3.size;(try simp only [zsa, zsc, zsd] at kz3);have H3 := Hj h3;clear h3;by_cases hr0 : R = 0
       ·have fin : Hid (RES = (0, 6)) := by
         show _ = _
         rw [HRS.out, if_pos hr0]
        have fr : (R == 0) = true := by simpa using hr0
        subst hr0;go_wp2
        go_ret2
        exact inf_ret fin.out (RW.out.trans H3.out)
       ·have fin : Hid (RES = (R, 0)) := by
         show _ = _
         rw [HRS.out, if_neg hr0]
        have fr : (R == 0) = false := by rw [zn]; exact hr0
        clear hr0;go_wp2
        go_ret2
        exact inf_ret fin.out (RW.out.trans H3.out)
theorem rInfer_any (ad : Option Addr) (k cap : Nat) (nm : Nat → ByteArray) (dm : Nat → Int) (w : World) (hk : EnvAt w k nm dm ad) (hn : k ≤ 17592186044416) (t : Ex) (x : Value) (h : ExKids t w x) (hz : t.size ≤ 1000000000000) :
  Calls Tryz.prog 150 #[.agg #[.int .i64 t.op, .int .i64 t.va, .int .i64 t.vb, .int .i64 t.dm, .string t.nm, x], .slice ad k cap] w (InfRes (infV t nm dm k) w) := by
 obtain ⟨xa, xc, rfl⟩ := kids_slice h;have HE := Hj hk;have V := Hj fun w' (r : Rel w w') => rValidExpr_any t _ w' (kids_rel h r) hz
 have HV : Hid (infV t nm dm k = if (t.valid && envB dm k) = true then t.inf nm dm k else (0, 1)) := rfl;have I := Hj fun (hv : t.valid = true) (he : envB dm k = true) w' (r : Rel w w') => rinfer_all ad cap nm dm k w HE hn (Hj (envB_bd he)) t _ w' r (kids_rel h r) (by unfold Ex.valid at hv; simp only [Bool.and_eq_true] at hv; exact hv.2.2)
 unfold BRes at V;obtain ⟨RES, hRES⟩ : ∃ RES, infV t nm dm k = RES := ⟨_, rfl⟩;rw [hRES] at HV ⊢;obtain ⟨A, hA⟩ : ∃ A, t.valid = A := ⟨_, rfl⟩;rw [hA] at V I HV;obtain ⟨top, htop⟩ : ∃ v, t.op = v := ⟨_, rfl⟩;obtain ⟨tva, htva⟩ : ∃ v, t.va = v := ⟨_, rfl⟩;obtain ⟨tvb, htvb⟩ : ∃ v, t.vb = v := ⟨_, rfl⟩;obtain ⟨tdm, htdm⟩ : ∃ v, t.dm = v := ⟨_, rfl⟩;obtain ⟨tnm, htnm⟩ : ∃ v, t.nm = v := ⟨_, rfl⟩;obtain ⟨tn, htn⟩ : ∃ v, t.cnt = v := ⟨_, rfl⟩;rw [htop, htva, htvb, htdm, htnm, htn] at V I ⊢;clear h hRES hA hk htop htva htvb htdm htnm htn;cases A
 ·have fin : Hid (RES = (0, 1)) := HV.out;clear I;go_enter Tryz.func150, Tryz.ntmps150;go_wp2_with fail;refine (V.out _ (by show Rel _ _; (show Rel _ _; repeat (first | with_reducible (first | exact qR _ | refine qA ?_ _ | refine qD ?_ | refine qT ?_ H0.out) | with_reducible refine qS ?_ (by first | (simp; done) | (simp; omega)) _)))).mono ?_;rintro e w1 ⟨rfl, h1⟩;have kq0 := keep6 h1 (b := w.heap.size) (by first | (simp; done) | (simp; omega) | omega);have kz1 := h1.size;(try simp only [zsa, zsc, zsd] at kz1);have H1 := Hj h1;clear h1;go_wp2
  go_ret2
  exact inf_ret fin.out (by (show Rel _ _; repeat (first | with_reducible (first | exact qR _ | refine qA ?_ _ | refine qD ?_ | refine qT ?_ H1.out | refine qT ?_ H0.out) | with_reducible refine qS ?_ (by first | (simp; done) | (simp; omega)) _)))
 ·go_enter Tryz.func150, Tryz.ntmps150;go_wp2_with fail;refine (V.out _ (by show Rel _ _; (show Rel _ _; repeat (first | with_reducible (first | exact qR _ | refine qA ?_ _ | refine qD ?_ | refine qT ?_ H0.out) | with_reducible refine qS ?_ (by first | (simp; done) | (simp; omega)) _)))).mono ?_;rintro e w1 ⟨rfl, h1⟩;have kq1 := keep6 h1 (b := w.heap.size) (by first | (simp; done) | (simp; omega) | omega);have kz1 := h1.size;(try simp only [zsa, zsc, zsd] at kz1);have H1 := Hj h1;clear h1;have R1 : Hid (Rel (w.alloc (.cells #[.int .i64 top, .int .i64 tva, .int .i64 tvb, .int .i64 tdm, .string tnm, .slice xa tn xc] 66)) w1) := H1.out;go_wp2_with fail
  go_loopw [6] (fun i wx => ∃ j : Nat, j ≤ k ∧ i = .int .i64 j ∧ Hid (alK (dmB dm) j = true) ∧ Hid (Rel (w.alloc (.cells #[.int .i64 top, .int .i64 tva, .int .i64 tvb, .int .i64 tdm, .string tnm, .slice xa tn xc] 66)) wx)) (fun i _ => k - (intOf i).toNat)
  case atStart => exact ⟨0, by omega, rfl, rfl, R1⟩
  case round =>
   obtain ⟨j, hjk, rfl, hA, hR⟩ := hrel;have hR2 := hR.out;have kq2 := keep6 hR2 (b := w.heap.size) (by first | (simp; done) | (simp; omega) | omega);have kz2 := hR2.size;(try simp only [zsa, zsc, zsd] at kz2);have H2 := Hj hR2;clear hR2
   have RW : Hid (Rel w wr) := by
    show Rel _ _
    (show Rel _ _; repeat (first | with_reducible (first | exact qR _ | refine qA ?_ _ | refine qD ?_ | refine qT ?_ H2.out | refine qT ?_ H1.out | refine qT ?_ H0.out) | with_reducible refine qS ?_ (by first | (simp; done) | (simp; omega)) _))
   by_cases hlt : j < k
   ·obtain ⟨g, off, rfl, hg, hc⟩ := HE.out (by omega);obtain ⟨q0, q1, -, dd0, dd1⟩ := hc j hlt;have c1 := RW.out.cell q1;obtain ⟨D, hD⟩ : ∃ D, dm j = D := ⟨_, rfl⟩;rw [hD] at c1 dd0 dd1;clear q0 q1 hc;by_cases h1 : 1 ≤ D
    ·have b1 : decide (D < 1) = false := dF (by omega);by_cases h4 : D ≤ 4
     ·have b4 : decide (4 < D) = false := dF (by omega)
      have fin : Hid (alK (dmB dm) (j + 1) = true) := by
       show _ = _
       simp only [alK]; rw [hA.out]; unfold dmB; rw [hD, decide_eq_true h1, decide_eq_true h4]; rfl
      go_wp2
      go_roundw
      case rel => exact ⟨j + 1, by omega, by go_num, fin, hR.out⟩
      case measure => simp [intOf]; omega
     ·have b4 : decide (4 < D) = true := dT (by omega)
      have fin : Hid (RES = (0, 1)) := by
       show _ = _
       rw [HV.out]; unfold envB; rw [alK_no hlt (by unfold dmB; rw [hD, decide_eq_false h4]; simp)]; rfl
      go_wp2
      go_ret2
      exact inf_ret fin.out RW.out
    ·have b1 : decide (D < 1) = true := dT (by omega)
     have fin : Hid (RES = (0, 1)) := by
      show _ = _
      rw [HV.out]; unfold envB; rw [alK_no hlt (by unfold dmB; rw [hD, decide_eq_false h1]; simp)]; rfl
     go_wp2
     go_ret2
     exact inf_ret fin.out RW.out
   ·have : j = k := by omega
    subst this
    have fin : Hid (RES = t.inf nm dm j) := by
     show _ = _
     rw [HV.out]; unfold envB; rw [hA.out]; rfl
    have J := Hj (I.out (by first | rfl | trivial) (by unfold envB; exact hA.out));unfold InfRes at J;obtain ⟨r, hr⟩ : ∃ r, t.inf nm dm j = r := ⟨_, rfl⟩;rw [hr] at J fin;clear I hr;obtain ⟨r1, r2⟩ := r;go_wp2_with fail;refine (J.out _ RW.out).mono ?_;rintro e w3 ⟨rfl, h3⟩;have kq3 := keep6 h3 (b := w.heap.size) (by first | (simp; done) | (simp; omega) | omega);have kz3 := h3.size;(try simp only [zsa, zsc, zsd] at kz3);have H3 := Hj h3;clear h3;go_wp2
    go_ret2
    exact inf_ret fin.out (RW.out.trans H3.out)
end Go.Proofs.YtlmclkaighlfaaaGreatDoor

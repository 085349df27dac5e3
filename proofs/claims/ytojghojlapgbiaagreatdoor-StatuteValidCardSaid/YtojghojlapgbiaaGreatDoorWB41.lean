/- Lemmas, each as it is printed; no conditions but those printed. -/
import Derived.Test.YtojghojlapgbiaaGreatDoorWB40
import Derived.Test.YtojghojlapgbiaaGreatDoorWB25
namespace Go.Proofs.YtojghojlapgbiaaGreatDoor
set_option maxHeartbeats 16000000
open Go.RowKit Cal Str Tok Frac Txt Tree
attribute [local go_sem] calmUpon
set_option linter.unusedVariables false
set_option linter.unusedSimpArgs false
theorem ak_no {f : Nat → Bool} {n i : Nat} (hi : i < n) (h : alK f (i + 1) = false) : alK f n = false := by
 cases hX : alK f n
 ·rfl
 ·rw [alK_of (fun j hj => alK_lt hX j (by omega))] at h; cases h
set_option maxRecDepth 20000 in
theorem rSameVersion_any (a b : VerM) (w : World) (ha : VerB (fun _ => True) w a) (hb : VerB (fun _ => True) w b) : Calls Tryz.prog 26 #[a.val, b.val] w (BRes (a.same b) w) := by
 have EV : Hid (a.same b = ((a.frm == b.frm) && (((a.mode == b.mode) && (a.unit == b.unit)) && (eqL crS a.cr b.cr && (eqL seS a.se b.se && (eqL leS a.le b.le && (eqL grS a.gr b.gr && eqL reS a.re b.re))))))) := by show _ = _; rfl
 obtain ⟨V, hV⟩ : ∃ v, a.same b = v := ⟨_, rfl⟩;rw [hV] at EV ⊢;clear hV;unfold BRes VerM.val;obtain ⟨fa, ma, ua, Cr, Se, Le, Gr, Re, aC, aS, aL, aG, aR, pC, pS, pL, pG, pR⟩ := a;obtain ⟨fb, mb, ub, Cr', Se', Le', Gr', Re', aC', aS', aL', aG', aR', pC', pS', pL', pG', pR'⟩ := b;dsimp only at EV ⊢;have ROWC : Hid (0 < Cr.length → ∃ g off, aC = some ⟨g, off, none⟩ ∧ g < w.heap.size ∧ True ∧ ∀ i p, Cr[i]? = some p → ∀ j u, (crC p)[j]? = some u → w.cell? ⟨g, off + i * 2 + j, none⟩ = some u) := fun h => row_open ha.r0 crC_len (by decide) h
 have ROQC : Hid (0 < Cr'.length → ∃ g off, aC' = some ⟨g, off, none⟩ ∧ g < w.heap.size ∧ True ∧ ∀ i p, Cr'[i]? = some p → ∀ j u, (crC p)[j]? = some u → w.cell? ⟨g, off + i * 2 + j, none⟩ = some u) := fun h => row_open hb.r0 crC_len (by decide) h
 have hC : Cr.length ≤ 100000 := ha.n0;have hC' : Cr'.length ≤ 100000 := hb.n0;obtain ⟨nC, gC⟩ : ∃ n, Cr.length = n := ⟨_, rfl⟩;obtain ⟨nC', gC'⟩ : ∃ n, Cr'.length = n := ⟨_, rfl⟩;rw [gC] at hC ROWC ⊢;rw [gC'] at hC' ROQC ⊢;have HC := Hj gC;have HC' := Hj gC';clear gC gC';have ROWS : Hid (0 < Se.length → ∃ g off, aS = some ⟨g, off, none⟩ ∧ g < w.heap.size ∧ True ∧ ∀ i p, Se[i]? = some p → ∀ j u, (seC p)[j]? = some u → w.cell? ⟨g, off + i * 3 + j, none⟩ = some u) := fun h => row_open ha.r1 seC_len (by decide) h
 have ROQS : Hid (0 < Se'.length → ∃ g off, aS' = some ⟨g, off, none⟩ ∧ g < w.heap.size ∧ True ∧ ∀ i p, Se'[i]? = some p → ∀ j u, (seC p)[j]? = some u → w.cell? ⟨g, off + i * 3 + j, none⟩ = some u) := fun h => row_open hb.r1 seC_len (by decide) h
 have hS : Se.length ≤ 100000 := ha.n1;have hS' : Se'.length ≤ 100000 := hb.n1;obtain ⟨nS, gS⟩ : ∃ n, Se.length = n := ⟨_, rfl⟩;obtain ⟨nS', gS'⟩ : ∃ n, Se'.length = n := ⟨_, rfl⟩;rw [gS] at hS ROWS ⊢;rw [gS'] at hS' ROQS ⊢;have HS := Hj gS;have HS' := Hj gS';clear gS gS';have ROWL : Hid (0 < Le.length → ∃ g off, aL = some ⟨g, off, none⟩ ∧ g < w.heap.size ∧ True ∧ ∀ i p, Le[i]? = some p → ∀ j u, (leC p)[j]? = some u → w.cell? ⟨g, off + i * 7 + j, none⟩ = some u) := fun h => row_open ha.r2 leC_len (by decide) h
 have ROQL : Hid (0 < Le'.length → ∃ g off, aL' = some ⟨g, off, none⟩ ∧ g < w.heap.size ∧ True ∧ ∀ i p, Le'[i]? = some p → ∀ j u, (leC p)[j]? = some u → w.cell? ⟨g, off + i * 7 + j, none⟩ = some u) := fun h => row_open hb.r2 leC_len (by decide) h
 have BL := Hj ha.b2;have BL' := Hj hb.b2;have hL : Le.length ≤ 100000 := ha.n2;have hL' : Le'.length ≤ 100000 := hb.n2;obtain ⟨nL, gL⟩ : ∃ n, Le.length = n := ⟨_, rfl⟩;obtain ⟨nL', gL'⟩ : ∃ n, Le'.length = n := ⟨_, rfl⟩;rw [gL] at hL ROWL ⊢;rw [gL'] at hL' ROQL ⊢;have HL := Hj gL;have HL' := Hj gL';clear gL gL';have ROWG : Hid (0 < Gr.length → ∃ g off, aG = some ⟨g, off, none⟩ ∧ g < w.heap.size ∧ True ∧ ∀ i p, Gr[i]? = some p → ∀ j u, (grC p)[j]? = some u → w.cell? ⟨g, off + i * 13 + j, none⟩ = some u) := fun h => row_open ha.r3 grC_len (by decide) h
 have ROQG : Hid (0 < Gr'.length → ∃ g off, aG' = some ⟨g, off, none⟩ ∧ g < w.heap.size ∧ True ∧ ∀ i p, Gr'[i]? = some p → ∀ j u, (grC p)[j]? = some u → w.cell? ⟨g, off + i * 13 + j, none⟩ = some u) := fun h => row_open hb.r3 grC_len (by decide) h
 have BG := Hj ha.b3;have BG' := Hj hb.b3;have hG : Gr.length ≤ 100000 := ha.n3;have hG' : Gr'.length ≤ 100000 := hb.n3;obtain ⟨nG, gG⟩ : ∃ n, Gr.length = n := ⟨_, rfl⟩;obtain ⟨nG', gG'⟩ : ∃ n, Gr'.length = n := ⟨_, rfl⟩;rw [gG] at hG ROWG ⊢;rw [gG'] at hG' ROQG ⊢;have HG := Hj gG;have HG' := Hj gG';clear gG gG';have ROWR : Hid (0 < Re.length → ∃ g off, aR = some ⟨g, off, none⟩ ∧ g < w.heap.size ∧ True ∧ ∀ i p, Re[i]? = some p → ∀ j u, (reC p)[j]? = some u → w.cell? ⟨g, off + i * 7 + j, none⟩ = some u) := fun h => row_open ha.r4 reC_len (by decide) h
 have ROQR : Hid (0 < Re'.length → ∃ g off, aR' = some ⟨g, off, none⟩ ∧ g < w.heap.size ∧ True ∧ ∀ i p, Re'[i]? = some p → ∀ j u, (reC p)[j]? = some u → w.cell? ⟨g, off + i * 7 + j, none⟩ = some u) := fun h => row_open hb.r4 reC_len (by decide) h
 have BR := Hj ha.b4;have BR' := Hj hb.b4;have hR : Re.length ≤ 100000 := ha.n4;have hR' : Re'.length ≤ 100000 := hb.n4;obtain ⟨nR, gR⟩ : ∃ n, Re.length = n := ⟨_, rfl⟩;obtain ⟨nR', gR'⟩ : ∃ n, Re'.length = n := ⟨_, rfl⟩;rw [gR] at hR ROWR ⊢;rw [gR'] at hR' ROQR ⊢;have HR := Hj gR;have HR' := Hj gR';clear gR gR';clear ha hb;obtain ⟨WB, hWB⟩ : ∃ X, (w.alloc (.cells #[.int .i64 fa, .int .i64 ma, .int .i64 ua, .slice aC nC pC, .slice aS nS pS, .slice aL nL pL, .slice aG nG pG, .slice aR nR pR] 36)).alloc (.cells #[.int .i64 fb, .int .i64 mb, .int .i64 ub, .slice aC' nC' pC', .slice aS' nS' pS', .slice aL' nL' pL', .slice aG' nG' pG', .slice aR' nR' pR'] 36) = X := ⟨_, rfl⟩;have R0 : Hid (Rel w WB) := by show Rel _ _; rw [← hWB]; exact ((Rel.refl w).alloc _).alloc _
 have BA : Hid (Blk WB w.heap.size 36 [.int .i64 fa, .int .i64 ma, .int .i64 ua, .slice aC nC pC, .slice aS nS pS, .slice aL nL pL, .slice aG nG pG, .slice aR nR pR]) := by show Blk _ _ _ _; rw [← hWB]; exact (Blk.new w _ #[.int .i64 fa, .int .i64 ma, .int .i64 ua, .slice aC nC pC, .slice aS nS pS, .slice aL nL pL, .slice aG nG pG, .slice aR nR pR]).alloc _
 have BB : Hid (Blk WB (w.heap.size + 1) 36 [.int .i64 fb, .int .i64 mb, .int .i64 ub, .slice aC' nC' pC', .slice aS' nS' pS', .slice aL' nL' pL', .slice aG' nG' pG', .slice aR' nR' pR']) := by
  show Blk _ _ _ _
  rw [← hWB];have h := Blk.new (w.alloc (.cells #[.int .i64 fa, .int .i64 ma, .int .i64 ua, .slice aC nC pC, .slice aS nS pS, .slice aL nL pL, .slice aG nG pG, .slice aR nR pR] 36)) 36 #[.int .i64 fb, .int .i64 mb, .int .i64 ub, .slice aC' nC' pC', .slice aS' nS' pS', .slice aL' nL' pL', .slice aG' nG' pG', .slice aR' nR' pR'];rw [World.size_alloc] at h; exact h
 have x0 := (BA.out.rel (Rel.refl _)).c (j := 0) rfl;have y0 := (BB.out.rel (Rel.refl _)).c (j := 0) rfl;have x1 := (BA.out.rel (Rel.refl _)).c (j := 1) rfl;have y1 := (BB.out.rel (Rel.refl _)).c (j := 1) rfl;have x2 := (BA.out.rel (Rel.refl _)).c (j := 2) rfl;have y2 := (BB.out.rel (Rel.refl _)).c (j := 2) rfl;have x3 := (BA.out.rel (Rel.refl _)).c (j := 3) rfl;have y3 := (BB.out.rel (Rel.refl _)).c (j := 3) rfl;have x4 := (BA.out.rel (Rel.refl _)).c (j := 4) rfl;have y4 := (BB.out.rel (Rel.refl _)).c (j := 4) rfl;have x5 := (BA.out.rel (Rel.refl _)).c (j := 5) rfl;have y5 := (BB.out.rel (Rel.refl _)).c (j := 5) rfl;have x6 := (BA.out.rel (Rel.refl _)).c (j := 6) rfl;have y6 := (BB.out.rel (Rel.refl _)).c (j := 6) rfl;have x7 := (BA.out.rel (Rel.refl _)).c (j := 7) rfl;have y7 := (BB.out.rel (Rel.refl _)).c (j := 7) rfl;have xl := (BA.out.rel (Rel.refl _)).lt;have yl := (BB.out.rel (Rel.refl _)).lt;by_cases qf : ¬ fa = fb
 ·have ef : (fa == fb) = false := by rw [zn]; exact qf
  have fin : Hid (V = false) := by show _ = _; rw [EV.out, ef]; simp
  go_enter Tryz.func26, Tryz.ntmps26;go_wp2;go_ret;exact ⟨ret_b2 fin.out.symm, R0.out⟩
 ·have qf' : fa = fb := Classical.not_not.1 qf;subst qf';clear qf;by_cases qm : ¬ ma = mb
  ·have em : (ma == mb) = false := by rw [zn]; exact qm
   have fin : Hid (V = false) := by show _ = _; rw [EV.out, em]; simp
   go_enter Tryz.func26, Tryz.ntmps26;go_wp2;go_ret;exact ⟨ret_b2 fin.out.symm, R0.out⟩
  ·have qm' : ma = mb := Classical.not_not.1 qm;subst qm';clear qm;by_cases qu : ¬ ua = ub
   ·have eu : (ua == ub) = false := by rw [zn]; exact qu
    have fin : Hid (V = false) := by show _ = _; rw [EV.out, eu]; simp
    go_enter Tryz.func26, Tryz.ntmps26;go_wp2;go_ret;exact ⟨ret_b2 fin.out.symm, R0.out⟩
   ·have qu' : ua = ub := Classical.not_not.1 qu;subst qu';clear qu;by_cases qC : ¬ nC = nC'
    ·have eC : ((nC : Int) == (nC' : Int)) = false := by rw [zn]; omega
     have lC : eqL crS Cr Cr' = false := eqL_len (by rw [HC.out, HC'.out]; exact qC);have fin : Hid (V = false) := by show _ = _; rw [EV.out, lC]; simp
     go_enter Tryz.func26, Tryz.ntmps26;go_wp2;go_ret;exact ⟨ret_b2 fin.out.symm, R0.out⟩
    ·have qC' : nC = nC' := Classical.not_not.1 qC;obtain ⟨NC, hNC⟩ : ∃ n, n = nC' := ⟨_, rfl⟩;subst hNC;subst qC';clear qC;by_cases qS : ¬ nS = nS'
     ·have eS : ((nS : Int) == (nS' : Int)) = false := by rw [zn]; omega
      have lS : eqL seS Se Se' = false := eqL_len (by rw [HS.out, HS'.out]; exact qS);have fin : Hid (V = false) := by show _ = _; rw [EV.out, lS]; simp
      go_enter Tryz.func26, Tryz.ntmps26;go_wp2;go_ret;exact ⟨ret_b2 fin.out.symm, R0.out⟩
     ·have qS' : nS = nS' := Classical.not_not.1 qS;obtain ⟨NS, hNS⟩ : ∃ n, n = nS' := ⟨_, rfl⟩;subst hNS;subst qS';clear qS;by_cases qL : ¬ nL = nL'
      ·have eL : ((nL : Int) == (nL' : Int)) = false := by rw [zn]; omega
       have lL : eqL leS Le Le' = false := eqL_len (by rw [HL.out, HL'.out]; exact qL);have fin : Hid (V = false) := by show _ = _; rw [EV.out, lL]; simp
       go_enter Tryz.func26, Tryz.ntmps26;go_wp2;go_ret;exact ⟨ret_b2 fin.out.symm, R0.out⟩
      ·have qL' : nL = nL' := Classical.not_not.1 qL;obtain ⟨NL, hNL⟩ : ∃ n, n = nL' := ⟨_, rfl⟩;subst hNL;subst qL';clear qL;by_cases qG : ¬ nG = nG'
       ·have eG : ((nG : Int) == (nG' : Int)) = false := by rw [zn]; omega
        have lG : eqL grS Gr Gr' = false := eqL_len (by rw [HG.out, HG'.out]; exact qG);have fin : Hid (V = false) := by show _ = _; rw [EV.out, lG]; simp
        go_enter Tryz.func26, Tryz.ntmps26;go_wp2;go_ret;exact ⟨ret_b2 fin.out.symm, R0.out⟩
       ·have qG' : nG = nG' := Classical.not_not.1 qG;obtain ⟨NG, hNG⟩ : ∃ n, n = nG' := ⟨_, rfl⟩;subst hNG;subst qG';clear qG;by_cases qR : ¬ nR = nR'
        ·have eR : ((nR : Int) == (nR' : Int)) = false := by rw [zn]; omega
         have lR : eqL reS Re Re' = false := eqL_len (by rw [HR.out, HR'.out]; exact qR);have fin : Hid (V = false) := by show _ = _; rw [EV.out, lR]; simp
         go_enter Tryz.func26, Tryz.ntmps26;go_wp2;go_ret;exact ⟨ret_b2 fin.out.symm, R0.out⟩
        ·have qR' : nR = nR' := Classical.not_not.1 qR;obtain ⟨NR, hNR⟩ : ∃ n, n = nR' := ⟨_, rfl⟩;subst hNR;subst qR';clear qR
         have EV1 : Hid (V = (alK (fun i => eqO crS Cr[i]? Cr'[i]?) nC && (alK (fun i => eqO seS Se[i]? Se'[i]?) nS && (alK (fun i => eqO leS Le[i]? Le'[i]?) nL && (alK (fun i => eqO grS Gr[i]? Gr'[i]?) nG && alK (fun i => eqO reS Re[i]? Re'[i]?) nR))))) := by
          show _ = _
          rw [EV.out, eqL_full (f := crS) (by rw [HC.out, HC'.out]), eqL_full (f := seS) (by rw [HS.out, HS'.out]), eqL_full (f := leS) (by rw [HL.out, HL'.out]), eqL_full (f := grS) (by rw [HG.out, HG'.out]), eqL_full (f := reS) (by rw [HR.out, HR'.out]), HC.out, HS.out, HL.out, HG.out, HR.out];simp
         clear EV;go_enter Tryz.func26, Tryz.ntmps26;go_wp2_with fail;(try rw [hWB]);clear hWB xl yl x0 y0 x1 y1 x2 y2 x3 y3 x4 y4 x5 y5 x6 y6 x7 y7
         go_loopw [5] (fun z wx => ∃ i : Nat, i ≤ nC ∧ z = .int .i64 i ∧ Hid (alK (fun i => eqO crS Cr[i]? Cr'[i]?) i = true) ∧ Hid (Rel WB wx)) (fun i _ => nC - (intOf i).toNat)
         case atStart => exact ⟨0, by omega, rfl, rfl, Rel.refl _⟩
         case round =>
          obtain ⟨i, hi, rfl, hA, hR⟩ := hrel;have bx := (BA.out.rel hR.out).c (j := 3) rfl;have by' := (BB.out.rel hR.out).c (j := 3) rfl
          have xl := (BA.out.rel hR.out).lt;have yl := (BB.out.rel hR.out).lt;by_cases hlt : i < nC
          ·skip
           clear ROWS ROQS HS HS' ROWL ROQL HL HL' BL BL' ROWG ROQG HG HG' BG BG' ROWR ROQR HR HR' BR BR';have ki : (i : Int) < (nC : Int) := by omega
           obtain ⟨g, off, rfl, hg, -, hc⟩ := ROWC.out (by omega);obtain ⟨g', off', rfl, hg', -, hc'⟩ := ROQC.out (by omega);obtain ⟨p, hp⟩ : ∃ p, Cr[i]? = some p := get_some (by rw [HC.out]; exact hlt);obtain ⟨q, hq⟩ : ∃ p, Cr'[i]? = some p := get_some (by rw [HC'.out]; exact hlt)
           have HS_ : Hid (alK (fun i => eqO crS Cr[i]? Cr'[i]?) (i + 1) = crS p q) := by
            show _ = _
            simp only [alK]; rw [hA.out, eqO_at hp hq]; simp
           have HCp := Hj fun j u h => hc i p hp j u h
           have HCq := Hj fun j u h => hc' i q hq j u h
           have R1 := Hj (R0.out.trans hR.out);obtain ⟨k, l⟩ := p;obtain ⟨k', l'⟩ := q
           have HS : Hid (alK (fun i => eqO crS Cr[i]? Cr'[i]?) (i + 1) = ((k == k') && (l == l'))) := by
            have h := HS_.out; unfold crS at h; exact h
           clear hp hq hc hc' HS_;have c0 := R1.out.cell (HCp.out 0 _ rfl);have e0 := R1.out.cell (HCq.out 0 _ rfl);have c1 := R1.out.cell (HCp.out 1 _ rfl);have e1 := R1.out.cell (HCq.out 1 _ rfl);simp only [Nat.add_zero] at c0 e0;have hgr := R1.out.lt hg;have hgr' := R1.out.lt hg';go_wp2_with fail;refine wp_region_calm (fun _ w' => Rel wr w') (fun _ => false) [0, 1, 2, 3, 4, 5, 6, 7, 8, 9, 10] 0 (by kernel_rfl) (by kernel_rfl) ?hst ?hS0 (fun w0 h0 => ?_)
           case hst => exact fun _ _ _ h r => h.trans r
           case hS0 => exact Rel.refl _
           iterate 10
            refine wpCalm_go rfl (by kernel_rfl) (fun K hK => ?_);apply Exists.intro;refine ⟨fun M w hM hS => ?_, hK _ ?_⟩
            ·have bx' := hS.cell bx;have by2 := hS.cell by'
             have d0 := hS.cell c0;have f0 := hS.cell e0;have d1 := hS.cell c1;have f1 := hS.cell e1;unfold calmAt;go_simp;exact ⟨rfl, Rel.refl _⟩
            clear hK K
           by_cases qk : ¬ k = k'
           ·have ek : (k == k') = false := by rw [zn]; exact qk
            iterate 1
             refine wpCalm_go rfl (by kernel_rfl) (fun K hK => ?_);apply Exists.intro;refine ⟨fun M w hM hS => ?_, hK _ ?_⟩
             ·have bx' := hS.cell bx;have by2 := hS.cell by'
              have d0 := hS.cell c0;have f0 := hS.cell e0;have d1 := hS.cell c1;have f1 := hS.cell e1;unfold calmAt;go_simp;exact ⟨rfl, Rel.refl _⟩
             clear hK K
            refine wpCalm_nil (wpAnyR_end (by kernel_rfl) (fun w1 h1 => ?_));simp only [Act.put, zla, zlb, zlc];have R2 : Hid (Rel WB w1) := hR.out.trans (h0.trans h1);clear h0 h1 bx by' xl yl hgr hgr' c0 e0 c1 e1
            have fin : Hid (V = false) := by
             show _ = _
             rw [EV1.out, ak_no hlt (by rw [HS.out, ek]; simp)]; (try simp)
            go_wp2;go_ret;exact ⟨ret_b2 fin.out.symm, R0.out.trans R2.out⟩
           ·have qk' : k = k' := Classical.not_not.1 qk;subst qk';clear qk;by_cases ql : ¬ l = l'
            ·have el : (l == l') = false := by rw [zn]; exact ql
             iterate 1
              refine wpCalm_go rfl (by kernel_rfl) (fun K hK => ?_);apply Exists.intro;refine ⟨fun M w hM hS => ?_, hK _ ?_⟩
              ·have bx' := hS.cell bx;have by2 := hS.cell by'
               have d0 := hS.cell c0;have f0 := hS.cell e0;have d1 := hS.cell c1;have f1 := hS.cell e1;unfold calmAt;go_simp;exact ⟨rfl, Rel.refl _⟩
              clear hK K
             refine wpCalm_nil (wpAnyR_end (by kernel_rfl) (fun w1 h1 => ?_));simp only [Act.put, zla, zlb, zlc];have R2 : Hid (Rel WB w1) := hR.out.trans (h0.trans h1);clear h0 h1 bx by' xl yl hgr hgr' c0 e0 c1 e1
             have fin : Hid (V = false) := by
              show _ = _
              rw [EV1.out, ak_no hlt (by rw [HS.out, el]; simp)]; (try simp)
             go_wp2;go_ret;exact ⟨ret_b2 fin.out.symm, R0.out.trans R2.out⟩
            ·have ql' : l = l' := Classical.not_not.1 ql;subst ql';clear ql
             iterate 1
              refine wpCalm_go rfl (by kernel_rfl) (fun K hK => ?_);apply Exists.intro;refine ⟨fun M w hM hS => ?_, hK _ ?_⟩
              ·have bx' := hS.cell bx;have by2 := hS.cell by'
               have d0 := hS.cell c0;have f0 := hS.cell e0;have d1 := hS.cell c1;have f1 := hS.cell e1;unfold calmAt;go_simp;exact ⟨rfl, Rel.refl _⟩
              clear hK K
             refine wpCalm_nil (wpAnyR_end (by kernel_rfl) (fun w1 h1 => ?_));simp only [Act.put, zla, zlb, zlc];have R2 : Hid (Rel WB w1) := hR.out.trans (h0.trans h1);clear h0 h1 bx by' xl yl hgr hgr' c0 e0 c1 e1
             have HS2 : Hid (alK (fun i => eqO crS Cr[i]? Cr'[i]?) (i + 1) = true) := by show _ = _; rw [HS.out]; simp
             go_wp2
             go_roundw
             case rel => exact ⟨i + 1, by omega, by go_num, HS2, R2⟩
             case measure => simp [intOf]; omega
          ·have hin : i = nC := by omega
           have hA2 : Hid (alK (fun i => eqO crS Cr[i]? Cr'[i]?) nC = true) := by show _ = _; rw [← hin]; exact hA.out
           have EV2 : Hid (V = (alK (fun i => eqO seS Se[i]? Se'[i]?) nS && (alK (fun i => eqO leS Le[i]? Le'[i]?) nL && (alK (fun i => eqO grS Gr[i]? Gr'[i]?) nG && alK (fun i => eqO reS Re[i]? Re'[i]?) nR)))) := by
            show _ = _
            rw [EV1.out, hA2.out]; rfl
           have RA := hR;have ni : ¬ (i : Int) < (nC : Int) := by omega
           clear hA2 hA EV1 ROWC ROQC HC HC';clear hR
           skip
           have bx := (BA.out.rel RA.out).c (j := 4) rfl;have by' := (BB.out.rel RA.out).c (j := 4) rfl
           have xl := (BA.out.rel RA.out).lt;have yl := (BB.out.rel RA.out).lt;go_wp2_with fail;clear bx by' xl yl
           go_loopw [6] (fun z wx => ∃ i : Nat, i ≤ nS ∧ z = .int .i64 i ∧ Hid (alK (fun i => eqO seS Se[i]? Se'[i]?) i = true) ∧ Hid (Rel WB wx)) (fun i _ => nS - (intOf i).toNat)
           case atStart => exact ⟨0, by omega, rfl, rfl, RA⟩
           case round =>
            obtain ⟨i, hi, rfl, hA, hR⟩ := hrel;have bx := (BA.out.rel hR.out).c (j := 4) rfl;have by' := (BB.out.rel hR.out).c (j := 4) rfl
            have xl := (BA.out.rel hR.out).lt;have yl := (BB.out.rel hR.out).lt;by_cases hlt : i < nS
            ·skip
             clear ROWL ROQL HL HL' BL BL' ROWG ROQG HG HG' BG BG' ROWR ROQR HR HR' BR BR';have ki : (i : Int) < (nS : Int) := by omega
             obtain ⟨g, off, rfl, hg, -, hc⟩ := ROWS.out (by omega);obtain ⟨g', off', rfl, hg', -, hc'⟩ := ROQS.out (by omega);obtain ⟨p, hp⟩ : ∃ p, Se[i]? = some p := get_some (by rw [HS.out]; exact hlt);obtain ⟨q, hq⟩ : ∃ p, Se'[i]? = some p := get_some (by rw [HS'.out]; exact hlt)
             have HS_ : Hid (alK (fun i => eqO seS Se[i]? Se'[i]?) (i + 1) = seS p q) := by
              show _ = _
              simp only [alK]; rw [hA.out, eqO_at hp hq]; simp
             have HCp := Hj fun j u h => hc i p hp j u h
             have HCq := Hj fun j u h => hc' i q hq j u h
             have R1 := Hj (R0.out.trans hR.out);obtain ⟨k, l, m⟩ := p;obtain ⟨k', l', m'⟩ := q
             have HS : Hid (alK (fun i => eqO seS Se[i]? Se'[i]?) (i + 1) = ((k == k') && ((l == l') && (m == m')))) := by
              have h := HS_.out; unfold seS at h; exact h
             clear hp hq hc hc' HS_;have c0 := R1.out.cell (HCp.out 0 _ rfl);have e0 := R1.out.cell (HCq.out 0 _ rfl);have c1 := R1.out.cell (HCp.out 1 _ rfl);have e1 := R1.out.cell (HCq.out 1 _ rfl);have c2 := R1.out.cell (HCp.out 2 _ rfl);have e2 := R1.out.cell (HCq.out 2 _ rfl);simp only [Nat.add_zero] at c0 e0;have hgr := R1.out.lt hg;have hgr' := R1.out.lt hg';go_wp2_with fail;refine wp_region_calm (fun _ w' => Rel wr w') (fun _ => false) [0, 1, 2, 3, 4, 5, 6, 7, 8, 9, 10] 0 (by kernel_rfl) (by kernel_rfl) ?hst ?hS0 (fun w0 h0 => ?_)
             case hst => exact fun _ _ _ h r => h.trans r
             case hS0 => exact Rel.refl _
             iterate 10
              refine wpCalm_go rfl (by kernel_rfl) (fun K hK => ?_);apply Exists.intro;refine ⟨fun M w hM hS => ?_, hK _ ?_⟩
              ·have bx' := hS.cell bx;have by2 := hS.cell by'
               have d0 := hS.cell c0;have f0 := hS.cell e0;have d1 := hS.cell c1;have f1 := hS.cell e1;have d2 := hS.cell c2;have f2 := hS.cell e2;unfold calmAt;go_simp;exact ⟨rfl, Rel.refl _⟩
              clear hK K
             by_cases qk : ¬ k = k'
             ·have ek : (k == k') = false := by rw [zn]; exact qk
              iterate 1
               refine wpCalm_go rfl (by kernel_rfl) (fun K hK => ?_);apply Exists.intro;refine ⟨fun M w hM hS => ?_, hK _ ?_⟩
               ·have bx' := hS.cell bx;have by2 := hS.cell by'
                have d0 := hS.cell c0;have f0 := hS.cell e0;have d1 := hS.cell c1;have f1 := hS.cell e1;have d2 := hS.cell c2;have f2 := hS.cell e2;unfold calmAt;go_simp;exact ⟨rfl, Rel.refl _⟩
               clear hK K
              refine wpCalm_nil (wpAnyR_end (by kernel_rfl) (fun w1 h1 => ?_));simp only [Act.put, zla, zlb, zlc];have R2 : Hid (Rel WB w1) := hR.out.trans (h0.trans h1);clear h0 h1 bx by' xl yl hgr hgr' c0 e0 c1 e1 c2 e2
              have fin : Hid (V = false) := by
               show _ = _
               rw [EV2.out, ak_no hlt (by rw [HS.out, ek]; simp)]; (try simp)
              go_wp2;go_ret;exact ⟨ret_b2 fin.out.symm, R0.out.trans R2.out⟩
             ·have qk' : k = k' := Classical.not_not.1 qk;subst qk';clear qk;by_cases ql : ¬ l = l'
              ·have el : (l == l') = false := by rw [zn]; exact ql
               iterate 1
                refine wpCalm_go rfl (by kernel_rfl) (fun K hK => ?_);apply Exists.intro;refine ⟨fun M w hM hS => ?_, hK _ ?_⟩
                ·have bx' := hS.cell bx;have by2 := hS.cell by'
                 have d0 := hS.cell c0;have f0 := hS.cell e0;have d1 := hS.cell c1;have f1 := hS.cell e1;have d2 := hS.cell c2;have f2 := hS.cell e2;unfold calmAt;go_simp;exact ⟨rfl, Rel.refl _⟩
                clear hK K
               refine wpCalm_nil (wpAnyR_end (by kernel_rfl) (fun w1 h1 => ?_));simp only [Act.put, zla, zlb, zlc];have R2 : Hid (Rel WB w1) := hR.out.trans (h0.trans h1);clear h0 h1 bx by' xl yl hgr hgr' c0 e0 c1 e1 c2 e2
               have fin : Hid (V = false) := by
                show _ = _
                rw [EV2.out, ak_no hlt (by rw [HS.out, el]; simp)]; (try simp)
               go_wp2;go_ret;exact ⟨ret_b2 fin.out.symm, R0.out.trans R2.out⟩
              ·have ql' : l = l' := Classical.not_not.1 ql;subst ql';clear ql;by_cases qm : ¬ m = m'
               ·have em : (m == m') = false := by rw [zn]; exact qm
                iterate 1
                 refine wpCalm_go rfl (by kernel_rfl) (fun K hK => ?_);apply Exists.intro;refine ⟨fun M w hM hS => ?_, hK _ ?_⟩
                 ·have bx' := hS.cell bx;have by2 := hS.cell by'
                  have d0 := hS.cell c0;have f0 := hS.cell e0;have d1 := hS.cell c1;have f1 := hS.cell e1;have d2 := hS.cell c2;have f2 := hS.cell e2;unfold calmAt;go_simp;exact ⟨rfl, Rel.refl _⟩
                 clear hK K
                refine wpCalm_nil (wpAnyR_end (by kernel_rfl) (fun w1 h1 => ?_));simp only [Act.put, zla, zlb, zlc];have R2 : Hid (Rel WB w1) := hR.out.trans (h0.trans h1);clear h0 h1 bx by' xl yl hgr hgr' c0 e0 c1 e1 c2 e2
                have fin : Hid (V = false) := by
                 show _ = _
                 rw [EV2.out, ak_no hlt (by rw [HS.out, em]; simp)]; (try simp)
                go_wp2;go_ret;exact ⟨ret_b2 fin.out.symm, R0.out.trans R2.out⟩
               ·have qm' : m = m' := Classical.not_not.1 qm;subst qm';clear qm
                iterate 1
                 refine wpCalm_go rfl (by kernel_rfl) (fun K hK => ?_);apply Exists.intro;refine ⟨fun M w hM hS => ?_, hK _ ?_⟩
                 ·have bx' := hS.cell bx;have by2 := hS.cell by'
                  have d0 := hS.cell c0;have f0 := hS.cell e0;have d1 := hS.cell c1;have f1 := hS.cell e1;have d2 := hS.cell c2;have f2 := hS.cell e2;unfold calmAt;go_simp;exact ⟨rfl, Rel.refl _⟩
                 clear hK K
                refine wpCalm_nil (wpAnyR_end (by kernel_rfl) (fun w1 h1 => ?_));simp only [Act.put, zla, zlb, zlc];have R2 : Hid (Rel WB w1) := hR.out.trans (h0.trans h1);clear h0 h1 bx by' xl yl hgr hgr' c0 e0 c1 e1 c2 e2
                have HS2 : Hid (alK (fun i => eqO seS Se[i]? Se'[i]?) (i + 1) = true) := by show _ = _; rw [HS.out]; simp
                go_wp2
                go_roundw
                case rel => exact ⟨i + 1, by omega, by go_num, HS2, R2⟩
                case measure => simp [intOf]; omega
            ·have hin : i = nS := by omega
             have hA2 : Hid (alK (fun i => eqO seS Se[i]? Se'[i]?) nS = true) := by show _ = _; rw [← hin]; exact hA.out
             have EV3 : Hid (V = (alK (fun i => eqO leS Le[i]? Le'[i]?) nL && (alK (fun i => eqO grS Gr[i]? Gr'[i]?) nG && alK (fun i => eqO reS Re[i]? Re'[i]?) nR))) := by
              show _ = _
              rw [EV2.out, hA2.out]; rfl
             have RA := hR;have ni : ¬ (i : Int) < (nS : Int) := by omega
             clear hA2 hA EV2 ROWS ROQS HS HS';clear hR
             skip
             have bx := (BA.out.rel RA.out).c (j := 5) rfl;have by' := (BB.out.rel RA.out).c (j := 5) rfl
             have xl := (BA.out.rel RA.out).lt;have yl := (BB.out.rel RA.out).lt;go_wp2_with fail;clear bx by' xl yl
             go_loopw [7] (fun z wx => ∃ i : Nat, i ≤ nL ∧ z = .int .i64 i ∧ Hid (alK (fun i => eqO leS Le[i]? Le'[i]?) i = true) ∧ Hid (Rel WB wx)) (fun i _ => nL - (intOf i).toNat)
             case atStart => exact ⟨0, by omega, rfl, rfl, RA⟩
             case round =>
              obtain ⟨i, hi, rfl, hA, hR⟩ := hrel;have bx := (BA.out.rel hR.out).c (j := 5) rfl;have by' := (BB.out.rel hR.out).c (j := 5) rfl
              have xl := (BA.out.rel hR.out).lt;have yl := (BB.out.rel hR.out).lt;by_cases hlt : i < nL
              ·skip
               clear ROWG ROQG HG HG' BG BG' ROWR ROQR HR HR' BR BR';have ki : (i : Int) < (nL : Int) := by omega
               obtain ⟨g, off, rfl, hg, -, hc⟩ := ROWL.out (by omega);obtain ⟨g', off', rfl, hg', -, hc'⟩ := ROQL.out (by omega);obtain ⟨p, hp⟩ : ∃ p, Le[i]? = some p := get_some (by rw [HL.out]; exact hlt);obtain ⟨q, hq⟩ : ∃ p, Le'[i]? = some p := get_some (by rw [HL'.out]; exact hlt)
               have HS_ : Hid (alK (fun i => eqO leS Le[i]? Le'[i]?) (i + 1) = leS p q) := by
                show _ = _
                simp only [alK]; rw [hA.out, eqO_at hp hq]; simp
               have HCp := Hj fun j u h => hc i p hp j u h
               have HCq := Hj fun j u h => hc' i q hq j u h
               have R1 := Hj (R0.out.trans hR.out);have hBp := BL.out p (List.mem_of_getElem? hp);have hBq := BL'.out q (List.mem_of_getElem? hq);obtain ⟨s, ⟨t, x⟩⟩ := p;obtain ⟨xa, xc, e1⟩ := kids_slice (kidsB_to hBp.2.1);simp only at e1;subst e1;obtain ⟨s', ⟨t', x'⟩⟩ := q;obtain ⟨xa', xc', e1'⟩ := kids_slice (kidsB_to hBq.2.1);simp only at e1';subst e1';have ET := Hj fun w' (r : Rel wr w') => rSame_any t t' _ _ w' (kids_rel (kidsB_to hBp.2.1) (R1.out.trans r)) (kids_rel (kidsB_to hBq.2.1) (R1.out.trans r))
               obtain ⟨A, hA'⟩ : ∃ A, t.same t' = A := ⟨_, rfl⟩;rw [hA'] at ET;unfold BRes at ET
               have HS : Hid (alK (fun i => eqO leS Le[i]? Le'[i]?) (i + 1) = ((s.toList == s'.toList) && A)) := by
                have h := HS_.out; unfold leS at h; dsimp only at h; rw [hA', ← str_eqL] at h; exact h
               clear hBp hBq hA';obtain ⟨S, hS_⟩ : ∃ S, (s.toList == s'.toList) = S := ⟨_, rfl⟩;rw [hS_] at HS;clear hp hq hc hc' HS_;have c0 := R1.out.cell (HCp.out 0 _ rfl);have e0 := R1.out.cell (HCq.out 0 _ rfl);have c1 := R1.out.cell (HCp.out 1 _ rfl);have e1 := R1.out.cell (HCq.out 1 _ rfl);have c2 := R1.out.cell (HCp.out 2 _ rfl);have e2 := R1.out.cell (HCq.out 2 _ rfl);have c3 := R1.out.cell (HCp.out 3 _ rfl);have e3 := R1.out.cell (HCq.out 3 _ rfl);have c4 := R1.out.cell (HCp.out 4 _ rfl);have e4 := R1.out.cell (HCq.out 4 _ rfl);have c5 := R1.out.cell (HCp.out 5 _ rfl);have e5 := R1.out.cell (HCq.out 5 _ rfl);have c6 := R1.out.cell (HCp.out 6 _ rfl);have e6 := R1.out.cell (HCq.out 6 _ rfl);simp only [Nat.add_zero] at c0 e0;have hgr := R1.out.lt hg;have hgr' := R1.out.lt hg';go_wp2_with fail;refine wp_region_calm (fun _ w' => Rel wr w') (fun _ => false) [0, 1, 2, 3, 4, 5, 6, 7, 8, 9, 10, 11, 12, 13, 14, 15, 16, 17, 18, 19, 20, 21, 22, 23, 24, 25, 26, 27, 28] 0 (by kernel_rfl) (by kernel_rfl) ?hst ?hS0 (fun w0 h0 => ?_)
               case hst => exact fun _ _ _ h r => h.trans r
               case hS0 => exact Rel.refl _
               iterate 14
                refine wpCalm_go rfl (by kernel_rfl) (fun K hK => ?_);apply Exists.intro;refine ⟨fun M w hM hS => ?_, hK _ ?_⟩
                ·have bx' := hS.cell bx;have by2 := hS.cell by'
                 have d0 := hS.cell c0;have f0 := hS.cell e0;have d1 := hS.cell c1;have f1 := hS.cell e1;have d2 := hS.cell c2;have f2 := hS.cell e2;have d3 := hS.cell c3;have f3 := hS.cell e3;have d4 := hS.cell c4;have f4 := hS.cell e4;have d5 := hS.cell c5;have f5 := hS.cell e5;have d6 := hS.cell c6;have f6 := hS.cell e6;unfold calmAt;go_simp;exact ⟨rfl, Rel.refl _⟩
                clear hK K
               cases S
               ·skip
                iterate 14 (refine wpCalm_no rfl (by kernel_rfl) (fun K hK => hK _ ?_); clear hK K)
                iterate 1
                 refine wpCalm_go rfl (by kernel_rfl) (fun K hK => ?_);apply Exists.intro;refine ⟨fun M w hM hS => ?_, hK _ ?_⟩
                 ·have bx' := hS.cell bx;have by2 := hS.cell by'
                  have d0 := hS.cell c0;have f0 := hS.cell e0;have d1 := hS.cell c1;have f1 := hS.cell e1;have d2 := hS.cell c2;have f2 := hS.cell e2;have d3 := hS.cell c3;have f3 := hS.cell e3;have d4 := hS.cell c4;have f4 := hS.cell e4;have d5 := hS.cell c5;have f5 := hS.cell e5;have d6 := hS.cell c6;have f6 := hS.cell e6;unfold calmAt;go_simp;exact ⟨rfl, Rel.refl _⟩
                 clear hK K
                refine wpCalm_nil (wpAnyR_end (by kernel_rfl) (fun w1 h1 => ?_));simp only [Act.put, zla, zlb, zlc];have R2 : Hid (Rel WB w1) := hR.out.trans (h0.trans h1);clear h0 h1 bx by' xl yl hgr hgr' c0 e0 c1 e1 c2 e2 c3 e3 c4 e4 c5 e5 c6 e6
                have fin : Hid (V = false) := by
                 show _ = _
                 rw [EV3.out, ak_no hlt (by rw [HS.out]; simp)]; (try simp)
                go_wp2;go_ret;exact ⟨ret_b2 fin.out.symm, R0.out.trans R2.out⟩
               ·skip
                iterate 12
                 refine wpCalm_go rfl (by kernel_rfl) (fun K hK => ?_);apply Exists.intro;refine ⟨fun M w hM hS => ?_, hK _ ?_⟩
                 ·have bx' := hS.cell bx;have by2 := hS.cell by'
                  have d0 := hS.cell c0;have f0 := hS.cell e0;have d1 := hS.cell c1;have f1 := hS.cell e1;have d2 := hS.cell c2;have f2 := hS.cell e2;have d3 := hS.cell c3;have f3 := hS.cell e3;have d4 := hS.cell c4;have f4 := hS.cell e4;have d5 := hS.cell c5;have f5 := hS.cell e5;have d6 := hS.cell c6;have f6 := hS.cell e6;unfold calmAt;go_simp;exact ⟨rfl, Rel.refl _⟩
                 clear hK K
                refine wpCalm_go rfl (by kernel_rfl) (fun K hK => ?_);apply Exists.intro;refine ⟨fun M w hM hS => ?_, hK _ ?_⟩
                ·unfold calmAt;go_simp
                 with_reducible refine (ET.out _ hS).mono ?_
                 rintro e w1 ⟨rfl, hb⟩;exact ⟨rfl, hb⟩
                clear hK K
                iterate 2
                 refine wpCalm_go rfl (by kernel_rfl) (fun K hK => ?_);apply Exists.intro;refine ⟨fun M w hM hS => ?_, hK _ ?_⟩
                 ·have bx' := hS.cell bx;have by2 := hS.cell by'
                  have d0 := hS.cell c0;have f0 := hS.cell e0;have d1 := hS.cell c1;have f1 := hS.cell e1;have d2 := hS.cell c2;have f2 := hS.cell e2;have d3 := hS.cell c3;have f3 := hS.cell e3;have d4 := hS.cell c4;have f4 := hS.cell e4;have d5 := hS.cell c5;have f5 := hS.cell e5;have d6 := hS.cell c6;have f6 := hS.cell e6;unfold calmAt;go_simp;exact ⟨rfl, Rel.refl _⟩
                 clear hK K
                refine wpCalm_nil (wpAnyR_end (by kernel_rfl) (fun w1 h1 => ?_));simp only [Act.put, zla, zlb, zlc];have R2 : Hid (Rel WB w1) := hR.out.trans (h0.trans h1);clear h0 h1 bx by' xl yl hgr hgr' c0 e0 c1 e1 c2 e2 c3 e3 c4 e4 c5 e5 c6 e6
                cases A
                ·skip
                 have fin : Hid (V = false) := by
                  show _ = _
                  rw [EV3.out, ak_no hlt (by rw [HS.out]; simp)]; (try simp)
                 go_wp2;go_ret;exact ⟨ret_b2 fin.out.symm, R0.out.trans R2.out⟩
                ·skip
                 have HS2 : Hid (alK (fun i => eqO leS Le[i]? Le'[i]?) (i + 1) = true) := by show _ = _; rw [HS.out]; simp
                 go_wp2
                 go_roundw
                 case rel => exact ⟨i + 1, by omega, by go_num, HS2, R2⟩
                 case measure => simp [intOf]; omega
              ·have hin : i = nL := by omega
               have hA2 : Hid (alK (fun i => eqO leS Le[i]? Le'[i]?) nL = true) := by show _ = _; rw [← hin]; exact hA.out
               have EV4 : Hid (V = (alK (fun i => eqO grS Gr[i]? Gr'[i]?) nG && alK (fun i => eqO reS Re[i]? Re'[i]?) nR)) := by
                show _ = _
                rw [EV3.out, hA2.out]; rfl
               have RA := hR;have ni : ¬ (i : Int) < (nL : Int) := by omega
               clear hA2 hA EV3 ROWL ROQL HL HL' BL BL';clear hR
               skip
               have bx := (BA.out.rel RA.out).c (j := 6) rfl;have by' := (BB.out.rel RA.out).c (j := 6) rfl
               have xl := (BA.out.rel RA.out).lt;have yl := (BB.out.rel RA.out).lt;go_wp2_with fail;clear bx by' xl yl
               go_loopw [8] (fun z wx => ∃ i : Nat, i ≤ nG ∧ z = .int .i64 i ∧ Hid (alK (fun i => eqO grS Gr[i]? Gr'[i]?) i = true) ∧ Hid (Rel WB wx)) (fun i _ => nG - (intOf i).toNat)
               case atStart => exact ⟨0, by omega, rfl, rfl, RA⟩
               case round =>
                obtain ⟨i, hi, rfl, hA, hR⟩ := hrel;have bx := (BA.out.rel hR.out).c (j := 6) rfl;have by' := (BB.out.rel hR.out).c (j := 6) rfl
                have xl := (BA.out.rel hR.out).lt;have yl := (BB.out.rel hR.out).lt;by_cases hlt : i < nG
                ·skip
                 clear ROWR ROQR HR HR' BR BR';have ki : (i : Int) < (nG : Int) := by omega
                 obtain ⟨g, off, rfl, hg, -, hc⟩ := ROWG.out (by omega);obtain ⟨g', off', rfl, hg', -, hc'⟩ := ROQG.out (by omega);obtain ⟨p, hp⟩ : ∃ p, Gr[i]? = some p := get_some (by rw [HG.out]; exact hlt);obtain ⟨q, hq⟩ : ∃ p, Gr'[i]? = some p := get_some (by rw [HG'.out]; exact hlt)
                 have HS_ : Hid (alK (fun i => eqO grS Gr[i]? Gr'[i]?) (i + 1) = grS p q) := by
                  show _ = _
                  simp only [alK]; rw [hA.out, eqO_at hp hq]; simp
                 have HCp := Hj fun j u h => hc i p hp j u h
                 have HCq := Hj fun j u h => hc' i q hq j u h
                 have R1 := Hj (R0.out.trans hR.out);have hBp := BG.out p (List.mem_of_getElem? hp);have hBq := BG'.out q (List.mem_of_getElem? hq);obtain ⟨k, ⟨t, x⟩, ⟨u, y⟩⟩ := p;obtain ⟨xa, xc, e1⟩ := kids_slice (kidsB_to hBp.2.1.1);obtain ⟨ya, yc, e2⟩ := kids_slice (kidsB_to hBp.2.2.1);simp only at e1 e2;subst e1 e2;obtain ⟨k', ⟨t', x'⟩, ⟨u', y'⟩⟩ := q;obtain ⟨xa', xc', e1'⟩ := kids_slice (kidsB_to hBq.2.1.1);obtain ⟨ya', yc', e2'⟩ := kids_slice (kidsB_to hBq.2.2.1);simp only at e1' e2';subst e1' e2';have ET := Hj fun w' (r : Rel wr w') => rSame_any t t' _ _ w' (kids_rel (kidsB_to hBp.2.1.1) (R1.out.trans r)) (kids_rel (kidsB_to hBq.2.1.1) (R1.out.trans r))
                 obtain ⟨A, hA'⟩ : ∃ A, t.same t' = A := ⟨_, rfl⟩;rw [hA'] at ET;unfold BRes at ET;have EU := Hj fun w' (r : Rel wr w') => rSame_any u u' _ _ w' (kids_rel (kidsB_to hBp.2.2.1) (R1.out.trans r)) (kids_rel (kidsB_to hBq.2.2.1) (R1.out.trans r))
                 obtain ⟨B, hB'⟩ : ∃ B, u.same u' = B := ⟨_, rfl⟩;rw [hB'] at EU;unfold BRes at EU
                 have HS : Hid (alK (fun i => eqO grS Gr[i]? Gr'[i]?) (i + 1) = ((k == k') && (A && B))) := by
                  have h := HS_.out; unfold grS at h; dsimp only at h; rw [hA', hB'] at h; exact h
                 clear hBp hBq hA' hB';obtain ⟨S, hS_⟩ : ∃ S, (k == k') = S := ⟨_, rfl⟩;rw [hS_] at HS;clear hp hq hc hc' HS_;have c0 := R1.out.cell (HCp.out 0 _ rfl);have e0 := R1.out.cell (HCq.out 0 _ rfl);have c1 := R1.out.cell (HCp.out 1 _ rfl);have e1 := R1.out.cell (HCq.out 1 _ rfl);have c2 := R1.out.cell (HCp.out 2 _ rfl);have e2 := R1.out.cell (HCq.out 2 _ rfl);have c3 := R1.out.cell (HCp.out 3 _ rfl);have e3 := R1.out.cell (HCq.out 3 _ rfl);have c4 := R1.out.cell (HCp.out 4 _ rfl);have e4 := R1.out.cell (HCq.out 4 _ rfl);have c5 := R1.out.cell (HCp.out 5 _ rfl);have e5 := R1.out.cell (HCq.out 5 _ rfl);have c6 := R1.out.cell (HCp.out 6 _ rfl);have e6 := R1.out.cell (HCq.out 6 _ rfl);have c7 := R1.out.cell (HCp.out 7 _ rfl);have e7 := R1.out.cell (HCq.out 7 _ rfl);have c8 := R1.out.cell (HCp.out 8 _ rfl);have e8 := R1.out.cell (HCq.out 8 _ rfl);have c9 := R1.out.cell (HCp.out 9 _ rfl);have e9 := R1.out.cell (HCq.out 9 _ rfl);have c10 := R1.out.cell (HCp.out 10 _ rfl);have e10 := R1.out.cell (HCq.out 10 _ rfl);have c11 := R1.out.cell (HCp.out 11 _ rfl);have e11 := R1.out.cell (HCq.out 11 _ rfl);have c12 := R1.out.cell (HCp.out 12 _ rfl);have e12 := R1.out.cell (HCq.out 12 _ rfl);simp only [Nat.add_zero] at c0 e0;have hgr := R1.out.lt hg;have hgr' := R1.out.lt hg';go_wp2_with fail;refine wp_region_calm (fun _ w' => Rel wr w') (fun _ => false) [0, 1, 2, 3, 4, 5, 6, 7, 8, 9, 10, 11, 12, 13, 14, 15, 16, 17, 18, 19, 20, 21, 22, 23, 24, 25, 26, 27, 28, 29, 30, 31, 32, 33, 34, 35, 36, 37, 38, 39, 40, 41, 42, 43, 44] 0 (by kernel_rfl) (by kernel_rfl) ?hst ?hS0 (fun w0 h0 => ?_)
                 case hst => exact fun _ _ _ h r => h.trans r
                 case hS0 => exact Rel.refl _
                 iterate 12
                  refine wpCalm_go rfl (by kernel_rfl) (fun K hK => ?_);apply Exists.intro;refine ⟨fun M w hM hS => ?_, hK _ ?_⟩
                  ·have bx' := hS.cell bx;have by2 := hS.cell by'
                   have d0 := hS.cell c0;have f0 := hS.cell e0;have d1 := hS.cell c1;have f1 := hS.cell e1;have d2 := hS.cell c2;have f2 := hS.cell e2;have d3 := hS.cell c3;have f3 := hS.cell e3;have d4 := hS.cell c4;have f4 := hS.cell e4;have d5 := hS.cell c5;have f5 := hS.cell e5;have d6 := hS.cell c6;have f6 := hS.cell e6;have d7 := hS.cell c7;have f7 := hS.cell e7;have d8 := hS.cell c8;have f8 := hS.cell e8;have d9 := hS.cell c9;have f9 := hS.cell e9;have d10 := hS.cell c10;have f10 := hS.cell e10;have d11 := hS.cell c11;have f11 := hS.cell e11;have d12 := hS.cell c12;have f12 := hS.cell e12;unfold calmAt;go_simp;exact ⟨rfl, Rel.refl _⟩
                  clear hK K
                 cases S
                 ·skip
                  have hS1 : ¬ k = k' := by simpa using hS_
                  have hS3 : (k != k') = true := by simp [hS1]
                  iterate 2
                   refine wpCalm_go rfl (by kernel_rfl) (fun K hK => ?_);apply Exists.intro;refine ⟨fun M w hM hS => ?_, hK _ ?_⟩
                   ·have bx' := hS.cell bx;have by2 := hS.cell by'
                    have d0 := hS.cell c0;have f0 := hS.cell e0;have d1 := hS.cell c1;have f1 := hS.cell e1;have d2 := hS.cell c2;have f2 := hS.cell e2;have d3 := hS.cell c3;have f3 := hS.cell e3;have d4 := hS.cell c4;have f4 := hS.cell e4;have d5 := hS.cell c5;have f5 := hS.cell e5;have d6 := hS.cell c6;have f6 := hS.cell e6;have d7 := hS.cell c7;have f7 := hS.cell e7;have d8 := hS.cell c8;have f8 := hS.cell e8;have d9 := hS.cell c9;have f9 := hS.cell e9;have d10 := hS.cell c10;have f10 := hS.cell e10;have d11 := hS.cell c11;have f11 := hS.cell e11;have d12 := hS.cell c12;have f12 := hS.cell e12;unfold calmAt;go_simp;exact ⟨rfl, Rel.refl _⟩
                   clear hK K
                  iterate 14 (refine wpCalm_no rfl (by kernel_rfl) (fun K hK => hK _ ?_); clear hK K)
                  iterate 2
                   refine wpCalm_go rfl (by kernel_rfl) (fun K hK => ?_);apply Exists.intro;refine ⟨fun M w hM hS => ?_, hK _ ?_⟩
                   ·have bx' := hS.cell bx;have by2 := hS.cell by'
                    have d0 := hS.cell c0;have f0 := hS.cell e0;have d1 := hS.cell c1;have f1 := hS.cell e1;have d2 := hS.cell c2;have f2 := hS.cell e2;have d3 := hS.cell c3;have f3 := hS.cell e3;have d4 := hS.cell c4;have f4 := hS.cell e4;have d5 := hS.cell c5;have f5 := hS.cell e5;have d6 := hS.cell c6;have f6 := hS.cell e6;have d7 := hS.cell c7;have f7 := hS.cell e7;have d8 := hS.cell c8;have f8 := hS.cell e8;have d9 := hS.cell c9;have f9 := hS.cell e9;have d10 := hS.cell c10;have f10 := hS.cell e10;have d11 := hS.cell c11;have f11 := hS.cell e11;have d12 := hS.cell c12;have f12 := hS.cell e12;unfold calmAt;go_simp;exact ⟨rfl, Rel.refl _⟩
                   clear hK K
                  iterate 14 (refine wpCalm_no rfl (by kernel_rfl) (fun K hK => hK _ ?_); clear hK K)
                  iterate 1
                   refine wpCalm_go rfl (by kernel_rfl) (fun K hK => ?_);apply Exists.intro;refine ⟨fun M w hM hS => ?_, hK _ ?_⟩
                   ·have bx' := hS.cell bx;have by2 := hS.cell by'
                    have d0 := hS.cell c0;have f0 := hS.cell e0;have d1 := hS.cell c1;have f1 := hS.cell e1;have d2 := hS.cell c2;have f2 := hS.cell e2;have d3 := hS.cell c3;have f3 := hS.cell e3;have d4 := hS.cell c4;have f4 := hS.cell e4;have d5 := hS.cell c5;have f5 := hS.cell e5;have d6 := hS.cell c6;have f6 := hS.cell e6;have d7 := hS.cell c7;have f7 := hS.cell e7;have d8 := hS.cell c8;have f8 := hS.cell e8;have d9 := hS.cell c9;have f9 := hS.cell e9;have d10 := hS.cell c10;have f10 := hS.cell e10;have d11 := hS.cell c11;have f11 := hS.cell e11;have d12 := hS.cell c12;have f12 := hS.cell e12;unfold calmAt;go_simp;exact ⟨rfl, Rel.refl _⟩
                   clear hK K
                  refine wpCalm_nil (wpAnyR_end (by kernel_rfl) (fun w1 h1 => ?_));simp only [Act.put, zla, zlb, zlc];have R2 : Hid (Rel WB w1) := hR.out.trans (h0.trans h1);clear h0 h1 bx by' xl yl hgr hgr' c0 e0 c1 e1 c2 e2 c3 e3 c4 e4 c5 e5 c6 e6 c7 e7 c8 e8 c9 e9 c10 e10 c11 e11 c12 e12
                  have fin : Hid (V = false) := by
                   show _ = _
                   rw [EV4.out, ak_no hlt (by rw [HS.out]; simp)]; (try simp)
                  go_wp2;go_ret;exact ⟨ret_b2 fin.out.symm, R0.out.trans R2.out⟩
                 ·skip
                  have hS1 : k = k' := by simpa using hS_
                  subst hS1;have hS3 : (k != k) = false := by simp
                  iterate 2
                   refine wpCalm_go rfl (by kernel_rfl) (fun K hK => ?_);apply Exists.intro;refine ⟨fun M w hM hS => ?_, hK _ ?_⟩
                   ·have bx' := hS.cell bx;have by2 := hS.cell by'
                    have d0 := hS.cell c0;have f0 := hS.cell e0;have d1 := hS.cell c1;have f1 := hS.cell e1;have d2 := hS.cell c2;have f2 := hS.cell e2;have d3 := hS.cell c3;have f3 := hS.cell e3;have d4 := hS.cell c4;have f4 := hS.cell e4;have d5 := hS.cell c5;have f5 := hS.cell e5;have d6 := hS.cell c6;have f6 := hS.cell e6;have d7 := hS.cell c7;have f7 := hS.cell e7;have d8 := hS.cell c8;have f8 := hS.cell e8;have d9 := hS.cell c9;have f9 := hS.cell e9;have d10 := hS.cell c10;have f10 := hS.cell e10;have d11 := hS.cell c11;have f11 := hS.cell e11;have d12 := hS.cell c12;have f12 := hS.cell e12;unfold calmAt;go_simp;exact ⟨rfl, Rel.refl _⟩
                   clear hK K
                  iterate 12
                   refine wpCalm_go rfl (by kernel_rfl) (fun K hK => ?_);apply Exists.intro;refine ⟨fun M w hM hS => ?_, hK _ ?_⟩
                   ·have bx' := hS.cell bx;have by2 := hS.cell by'
                    have d0 := hS.cell c0;have f0 := hS.cell e0;have d1 := hS.cell c1;have f1 := hS.cell e1;have d2 := hS.cell c2;have f2 := hS.cell e2;have d3 := hS.cell c3;have f3 := hS.cell e3;have d4 := hS.cell c4;have f4 := hS.cell e4;have d5 := hS.cell c5;have f5 := hS.cell e5;have d6 := hS.cell c6;have f6 := hS.cell e6;have d7 := hS.cell c7;have f7 := hS.cell e7;have d8 := hS.cell c8;have f8 := hS.cell e8;have d9 := hS.cell c9;have f9 := hS.cell e9;have d10 := hS.cell c10;have f10 := hS.cell e10;have d11 := hS.cell c11;have f11 := hS.cell e11;have d12 := hS.cell c12;have f12 := hS.cell e12;unfold calmAt;go_simp;exact ⟨rfl, Rel.refl _⟩
                   clear hK K
                  refine wpCalm_go rfl (by kernel_rfl) (fun K hK => ?_);apply Exists.intro;refine ⟨fun M w hM hS => ?_, hK _ ?_⟩
                  ·unfold calmAt;go_simp
                   with_reducible refine (ET.out _ hS).mono ?_
                   rintro e w1 ⟨rfl, hb⟩;exact ⟨rfl, hb⟩
                  clear hK K;cases A
                  ·skip
                   iterate 3
                    refine wpCalm_go rfl (by kernel_rfl) (fun K hK => ?_);apply Exists.intro;refine ⟨fun M w hM hS => ?_, hK _ ?_⟩
                    ·have bx' := hS.cell bx;have by2 := hS.cell by'
                     have d0 := hS.cell c0;have f0 := hS.cell e0;have d1 := hS.cell c1;have f1 := hS.cell e1;have d2 := hS.cell c2;have f2 := hS.cell e2;have d3 := hS.cell c3;have f3 := hS.cell e3;have d4 := hS.cell c4;have f4 := hS.cell e4;have d5 := hS.cell c5;have f5 := hS.cell e5;have d6 := hS.cell c6;have f6 := hS.cell e6;have d7 := hS.cell c7;have f7 := hS.cell e7;have d8 := hS.cell c8;have f8 := hS.cell e8;have d9 := hS.cell c9;have f9 := hS.cell e9;have d10 := hS.cell c10;have f10 := hS.cell e10;have d11 := hS.cell c11;have f11 := hS.cell e11;have d12 := hS.cell c12;have f12 := hS.cell e12;unfold calmAt;go_simp;exact ⟨rfl, Rel.refl _⟩
                    clear hK K
                   iterate 14 (refine wpCalm_no rfl (by kernel_rfl) (fun K hK => hK _ ?_); clear hK K)
                   iterate 1
                    refine wpCalm_go rfl (by kernel_rfl) (fun K hK => ?_);apply Exists.intro;refine ⟨fun M w hM hS => ?_, hK _ ?_⟩
                    ·have bx' := hS.cell bx;have by2 := hS.cell by'
                     have d0 := hS.cell c0;have f0 := hS.cell e0;have d1 := hS.cell c1;have f1 := hS.cell e1;have d2 := hS.cell c2;have f2 := hS.cell e2;have d3 := hS.cell c3;have f3 := hS.cell e3;have d4 := hS.cell c4;have f4 := hS.cell e4;have d5 := hS.cell c5;have f5 := hS.cell e5;have d6 := hS.cell c6;have f6 := hS.cell e6;have d7 := hS.cell c7;have f7 := hS.cell e7;have d8 := hS.cell c8;have f8 := hS.cell e8;have d9 := hS.cell c9;have f9 := hS.cell e9;have d10 := hS.cell c10;have f10 := hS.cell e10;have d11 := hS.cell c11;have f11 := hS.cell e11;have d12 := hS.cell c12;have f12 := hS.cell e12;unfold calmAt;go_simp;exact ⟨rfl, Rel.refl _⟩
                    clear hK K
                   refine wpCalm_nil (wpAnyR_end (by kernel_rfl) (fun w1 h1 => ?_));simp only [Act.put, zla, zlb, zlc];have R2 : Hid (Rel WB w1) := hR.out.trans (h0.trans h1);clear h0 h1 bx by' xl yl hgr hgr' c0 e0 c1 e1 c2 e2 c3 e3 c4 e4 c5 e5 c6 e6 c7 e7 c8 e8 c9 e9 c10 e10 c11 e11 c12 e12
                   have fin : Hid (V = false) := by
                    show _ = _
                    rw [EV4.out, ak_no hlt (by rw [HS.out]; simp)]; (try simp)
                   go_wp2;go_ret;exact ⟨ret_b2 fin.out.symm, R0.out.trans R2.out⟩
                  ·skip
                   iterate 15
                    refine wpCalm_go rfl (by kernel_rfl) (fun K hK => ?_);apply Exists.intro;refine ⟨fun M w hM hS => ?_, hK _ ?_⟩
                    ·have bx' := hS.cell bx;have by2 := hS.cell by'
                     have d0 := hS.cell c0;have f0 := hS.cell e0;have d1 := hS.cell c1;have f1 := hS.cell e1;have d2 := hS.cell c2;have f2 := hS.cell e2;have d3 := hS.cell c3;have f3 := hS.cell e3;have d4 := hS.cell c4;have f4 := hS.cell e4;have d5 := hS.cell c5;have f5 := hS.cell e5;have d6 := hS.cell c6;have f6 := hS.cell e6;have d7 := hS.cell c7;have f7 := hS.cell e7;have d8 := hS.cell c8;have f8 := hS.cell e8;have d9 := hS.cell c9;have f9 := hS.cell e9;have d10 := hS.cell c10;have f10 := hS.cell e10;have d11 := hS.cell c11;have f11 := hS.cell e11;have d12 := hS.cell c12;have f12 := hS.cell e12;unfold calmAt;go_simp;exact ⟨rfl, Rel.refl _⟩
                    clear hK K
                   refine wpCalm_go rfl (by kernel_rfl) (fun K hK => ?_);apply Exists.intro;refine ⟨fun M w hM hS => ?_, hK _ ?_⟩
                   ·unfold calmAt;go_simp
                    with_reducible refine (EU.out _ hS).mono ?_
                    rintro e w1 ⟨rfl, hb⟩;exact ⟨rfl, hb⟩
                   clear hK K
                   iterate 2
                    refine wpCalm_go rfl (by kernel_rfl) (fun K hK => ?_);apply Exists.intro;refine ⟨fun M w hM hS => ?_, hK _ ?_⟩
                    ·have bx' := hS.cell bx;have by2 := hS.cell by'
                     have d0 := hS.cell c0;have f0 := hS.cell e0;have d1 := hS.cell c1;have f1 := hS.cell e1;have d2 := hS.cell c2;have f2 := hS.cell e2;have d3 := hS.cell c3;have f3 := hS.cell e3;have d4 := hS.cell c4;have f4 := hS.cell e4;have d5 := hS.cell c5;have f5 := hS.cell e5;have d6 := hS.cell c6;have f6 := hS.cell e6;have d7 := hS.cell c7;have f7 := hS.cell e7;have d8 := hS.cell c8;have f8 := hS.cell e8;have d9 := hS.cell c9;have f9 := hS.cell e9;have d10 := hS.cell c10;have f10 := hS.cell e10;have d11 := hS.cell c11;have f11 := hS.cell e11;have d12 := hS.cell c12;have f12 := hS.cell e12;unfold calmAt;go_simp;exact ⟨rfl, Rel.refl _⟩
                    clear hK K
                   refine wpCalm_nil (wpAnyR_end (by kernel_rfl) (fun w1 h1 => ?_));simp only [Act.put, zla, zlb, zlc];have R2 : Hid (Rel WB w1) := hR.out.trans (h0.trans h1);clear h0 h1 bx by' xl yl hgr hgr' c0 e0 c1 e1 c2 e2 c3 e3 c4 e4 c5 e5 c6 e6 c7 e7 c8 e8 c9 e9 c10 e10 c11 e11 c12 e12
                   cases B
                   ·skip
                    have fin : Hid (V = false) := by
                     show _ = _
                     rw [EV4.out, ak_no hlt (by rw [HS.out]; simp)]; (try simp)
                    go_wp2;go_ret;exact ⟨ret_b2 fin.out.symm, R0.out.trans R2.out⟩
                   ·skip
                    have HS2 : Hid (alK (fun i => eqO grS Gr[i]? Gr'[i]?) (i + 1) = true) := by show _ = _; rw [HS.out]; simp
                    go_wp2
                    go_roundw
                    case rel => exact ⟨i + 1, by omega, by go_num, HS2, R2⟩
                    case measure => simp [intOf]; omega
                ·have hin : i = nG := by omega
                 have hA2 : Hid (alK (fun i => eqO grS Gr[i]? Gr'[i]?) nG = true) := by show _ = _; rw [← hin]; exact hA.out
                 have EV5 : Hid (V = alK (fun i => eqO reS Re[i]? Re'[i]?) nR) := by
                  show _ = _
                  rw [EV4.out, hA2.out]; rfl
                 have RA := hR;have ni : ¬ (i : Int) < (nG : Int) := by omega
                 clear hA2 hA EV4 ROWG ROQG HG HG' BG BG';clear hR
                 skip
                 have bx := (BA.out.rel RA.out).c (j := 7) rfl;have by' := (BB.out.rel RA.out).c (j := 7) rfl
                 have xl := (BA.out.rel RA.out).lt;have yl := (BB.out.rel RA.out).lt;go_wp2_with fail;clear bx by' xl yl
                 go_loopw [9] (fun z wx => ∃ i : Nat, i ≤ nR ∧ z = .int .i64 i ∧ Hid (alK (fun i => eqO reS Re[i]? Re'[i]?) i = true) ∧ Hid (Rel WB wx)) (fun i _ => nR - (intOf i).toNat)
                 case atStart => exact ⟨0, by omega, rfl, rfl, RA⟩
                 case round =>
                  obtain ⟨i, hi, rfl, hA, hR⟩ := hrel;have bx := (BA.out.rel hR.out).c (j := 7) rfl;have by' := (BB.out.rel hR.out).c (j := 7) rfl
                  have xl := (BA.out.rel hR.out).lt;have yl := (BB.out.rel hR.out).lt;by_cases hlt : i < nR
                  ·skip
                   have ki : (i : Int) < (nR : Int) := by omega
                   obtain ⟨g, off, rfl, hg, -, hc⟩ := ROWR.out (by omega);obtain ⟨g', off', rfl, hg', -, hc'⟩ := ROQR.out (by omega);obtain ⟨p, hp⟩ : ∃ p, Re[i]? = some p := get_some (by rw [HR.out]; exact hlt);obtain ⟨q, hq⟩ : ∃ p, Re'[i]? = some p := get_some (by rw [HR'.out]; exact hlt)
                   have HS_ : Hid (alK (fun i => eqO reS Re[i]? Re'[i]?) (i + 1) = reS p q) := by
                    show _ = _
                    simp only [alK]; rw [hA.out, eqO_at hp hq]; simp
                   have HCp := Hj fun j u h => hc i p hp j u h
                   have HCq := Hj fun j u h => hc' i q hq j u h
                   have R1 := Hj (R0.out.trans hR.out);have hBp := BR.out p (List.mem_of_getElem? hp);have hBq := BR'.out q (List.mem_of_getElem? hq);obtain ⟨k, ⟨t, x⟩⟩ := p;obtain ⟨xa, xc, e1⟩ := kids_slice (kidsB_to hBp.2.1);simp only at e1;subst e1;obtain ⟨k', ⟨t', x'⟩⟩ := q;obtain ⟨xa', xc', e1'⟩ := kids_slice (kidsB_to hBq.2.1);simp only at e1';subst e1';have ET := Hj fun w' (r : Rel wr w') => rSame_any t t' _ _ w' (kids_rel (kidsB_to hBp.2.1) (R1.out.trans r)) (kids_rel (kidsB_to hBq.2.1) (R1.out.trans r))
                   obtain ⟨A, hA'⟩ : ∃ A, t.same t' = A := ⟨_, rfl⟩;rw [hA'] at ET;unfold BRes at ET
                   have HS : Hid (alK (fun i => eqO reS Re[i]? Re'[i]?) (i + 1) = ((k == k') && A)) := by
                    have h := HS_.out; unfold reS at h; dsimp only at h; rw [hA'] at h; exact h
                   clear hBp hBq hA';obtain ⟨S, hS_⟩ : ∃ S, (k == k') = S := ⟨_, rfl⟩;rw [hS_] at HS;clear hp hq hc hc' HS_;have c0 := R1.out.cell (HCp.out 0 _ rfl);have e0 := R1.out.cell (HCq.out 0 _ rfl);have c1 := R1.out.cell (HCp.out 1 _ rfl);have e1 := R1.out.cell (HCq.out 1 _ rfl);have c2 := R1.out.cell (HCp.out 2 _ rfl);have e2 := R1.out.cell (HCq.out 2 _ rfl);have c3 := R1.out.cell (HCp.out 3 _ rfl);have e3 := R1.out.cell (HCq.out 3 _ rfl);have c4 := R1.out.cell (HCp.out 4 _ rfl);have e4 := R1.out.cell (HCq.out 4 _ rfl);have c5 := R1.out.cell (HCp.out 5 _ rfl);have e5 := R1.out.cell (HCq.out 5 _ rfl);have c6 := R1.out.cell (HCp.out 6 _ rfl);have e6 := R1.out.cell (HCq.out 6 _ rfl);simp only [Nat.add_zero] at c0 e0;have hgr := R1.out.lt hg;have hgr' := R1.out.lt hg';go_wp2_with fail;refine wp_region_calm (fun _ w' => Rel wr w') (fun _ => false) [0, 1, 2, 3, 4, 5, 6, 7, 8, 9, 10, 11, 12, 13, 14, 15, 16, 17, 18, 19, 20, 21, 22, 23, 24, 25, 26, 27, 28] 0 (by kernel_rfl) (by kernel_rfl) ?hst ?hS0 (fun w0 h0 => ?_)
                   case hst => exact fun _ _ _ h r => h.trans r
                   case hS0 => exact Rel.refl _
                   iterate 12
                    refine wpCalm_go rfl (by kernel_rfl) (fun K hK => ?_);apply Exists.intro;refine ⟨fun M w hM hS => ?_, hK _ ?_⟩
                    ·have bx' := hS.cell bx;have by2 := hS.cell by'
                     have d0 := hS.cell c0;have f0 := hS.cell e0;have d1 := hS.cell c1;have f1 := hS.cell e1;have d2 := hS.cell c2;have f2 := hS.cell e2;have d3 := hS.cell c3;have f3 := hS.cell e3;have d4 := hS.cell c4;have f4 := hS.cell e4;have d5 := hS.cell c5;have f5 := hS.cell e5;have d6 := hS.cell c6;have f6 := hS.cell e6;unfold calmAt;go_simp;exact ⟨rfl, Rel.refl _⟩
                    clear hK K
                   cases S
                   ·skip
                    have hS1 : ¬ k = k' := by simpa using hS_
                    have hS3 : (k != k') = true := by simp [hS1]
                    iterate 2
                     refine wpCalm_go rfl (by kernel_rfl) (fun K hK => ?_);apply Exists.intro;refine ⟨fun M w hM hS => ?_, hK _ ?_⟩
                     ·have bx' := hS.cell bx;have by2 := hS.cell by'
                      have d0 := hS.cell c0;have f0 := hS.cell e0;have d1 := hS.cell c1;have f1 := hS.cell e1;have d2 := hS.cell c2;have f2 := hS.cell e2;have d3 := hS.cell c3;have f3 := hS.cell e3;have d4 := hS.cell c4;have f4 := hS.cell e4;have d5 := hS.cell c5;have f5 := hS.cell e5;have d6 := hS.cell c6;have f6 := hS.cell e6;unfold calmAt;go_simp;exact ⟨rfl, Rel.refl _⟩
                     clear hK K
                    iterate 14 (refine wpCalm_no rfl (by kernel_rfl) (fun K hK => hK _ ?_); clear hK K)
                    iterate 1
                     refine wpCalm_go rfl (by kernel_rfl) (fun K hK => ?_);apply Exists.intro;refine ⟨fun M w hM hS => ?_, hK _ ?_⟩
                     ·have bx' := hS.cell bx;have by2 := hS.cell by'
                      have d0 := hS.cell c0;have f0 := hS.cell e0;have d1 := hS.cell c1;have f1 := hS.cell e1;have d2 := hS.cell c2;have f2 := hS.cell e2;have d3 := hS.cell c3;have f3 := hS.cell e3;have d4 := hS.cell c4;have f4 := hS.cell e4;have d5 := hS.cell c5;have f5 := hS.cell e5;have d6 := hS.cell c6;have f6 := hS.cell e6;unfold calmAt;go_simp;exact ⟨rfl, Rel.refl _⟩
                     clear hK K
                    refine wpCalm_nil (wpAnyR_end (by kernel_rfl) (fun w1 h1 => ?_));simp only [Act.put, zla, zlb, zlc];have R2 : Hid (Rel WB w1) := hR.out.trans (h0.trans h1);clear h0 h1 bx by' xl yl hgr hgr' c0 e0 c1 e1 c2 e2 c3 e3 c4 e4 c5 e5 c6 e6
                    have fin : Hid (V = false) := by
                     show _ = _
                     rw [EV5.out, ak_no hlt (by rw [HS.out]; simp)]; (try simp)
                    go_wp2;go_ret;exact ⟨ret_b2 fin.out.symm, R0.out.trans R2.out⟩
                   ·skip
                    have hS1 : k = k' := by simpa using hS_
                    subst hS1;have hS3 : (k != k) = false := by simp
                    iterate 2
                     refine wpCalm_go rfl (by kernel_rfl) (fun K hK => ?_);apply Exists.intro;refine ⟨fun M w hM hS => ?_, hK _ ?_⟩
                     ·have bx' := hS.cell bx;have by2 := hS.cell by'
                      have d0 := hS.cell c0;have f0 := hS.cell e0;have d1 := hS.cell c1;have f1 := hS.cell e1;have d2 := hS.cell c2;have f2 := hS.cell e2;have d3 := hS.cell c3;have f3 := hS.cell e3;have d4 := hS.cell c4;have f4 := hS.cell e4;have d5 := hS.cell c5;have f5 := hS.cell e5;have d6 := hS.cell c6;have f6 := hS.cell e6;unfold calmAt;go_simp;exact ⟨rfl, Rel.refl _⟩
                     clear hK K
                    iterate 12
                     refine wpCalm_go rfl (by kernel_rfl) (fun K hK => ?_);apply Exists.intro;refine ⟨fun M w hM hS => ?_, hK _ ?_⟩
                     ·have bx' := hS.cell bx;have by2 := hS.cell by'
                      have d0 := hS.cell c0;have f0 := hS.cell e0;have d1 := hS.cell c1;have f1 := hS.cell e1;have d2 := hS.cell c2;have f2 := hS.cell e2;have d3 := hS.cell c3;have f3 := hS.cell e3;have d4 := hS.cell c4;have f4 := hS.cell e4;have d5 := hS.cell c5;have f5 := hS.cell e5;have d6 := hS.cell c6;have f6 := hS.cell e6;unfold calmAt;go_simp;exact ⟨rfl, Rel.refl _⟩
                     clear hK K
                    refine wpCalm_go rfl (by kernel_rfl) (fun K hK => ?_);apply Exists.intro;refine ⟨fun M w hM hS => ?_, hK _ ?_⟩
                    ·unfold calmAt;go_simp
                     with_reducible refine (ET.out _ hS).mono ?_
                     rintro e w1 ⟨rfl, hb⟩;exact ⟨rfl, hb⟩
                    clear hK K
                    iterate 2
                     refine wpCalm_go rfl (by kernel_rfl) (fun K hK => ?_);apply Exists.intro;refine ⟨fun M w hM hS => ?_, hK _ ?_⟩
                     ·have bx' := hS.cell bx;have by2 := hS.cell by'
                      have d0 := hS.cell c0;have f0 := hS.cell e0;have d1 := hS.cell c1;have f1 := hS.cell e1;have d2 := hS.cell c2;have f2 := hS.cell e2;have d3 := hS.cell c3;have f3 := hS.cell e3;have d4 := hS.cell c4;have f4 := hS.cell e4;have d5 := hS.cell c5;have f5 := hS.cell e5;have d6 := hS.cell c6;have f6 := hS.cell e6;unfold calmAt;go_simp;exact ⟨rfl, Rel.refl _⟩
                     clear hK K
                    refine wpCalm_nil (wpAnyR_end (by kernel_rfl) (fun w1 h1 => ?_));simp only [Act.put, zla, zlb, zlc];have R2 : Hid (Rel WB w1) := hR.out.trans (h0.trans h1);clear h0 h1 bx by' xl yl hgr hgr' c0 e0 c1 e1 c2 e2 c3 e3 c4 e4 c5 e5 c6 e6
                    cases A
                    ·skip
                     have fin : Hid (V = false) := by
                      show _ = _
                      rw [EV5.out, ak_no hlt (by rw [HS.out]; simp)]; (try simp)
                     go_wp2;go_ret;exact ⟨ret_b2 fin.out.symm, R0.out.trans R2.out⟩
                    ·skip
                     have HS2 : Hid (alK (fun i => eqO reS Re[i]? Re'[i]?) (i + 1) = true) := by show _ = _; rw [HS.out]; simp
                     go_wp2
                     go_roundw
                     case rel => exact ⟨i + 1, by omega, by go_num, HS2, R2⟩
                     case measure => simp [intOf]; omega
                  ·have hin : i = nR := by omega
                   have hA2 : Hid (alK (fun i => eqO reS Re[i]? Re'[i]?) nR = true) := by show _ = _; rw [← hin]; exact hA.out
                   have EV6 : Hid (V = true) := by
                    show _ = _
                    rw [EV5.out, hA2.out]
                   have RA := hR;have ni : ¬ (i : Int) < (nR : Int) := by omega
                   clear hA2 hA EV5 ROWR ROQR HR HR' BR BR';clear hR
                   skip
                   have fin : Hid (V = true) := EV6.out;go_wp2;go_ret;exact ⟨ret_b2 fin.out.symm, R0.out.trans RA.out⟩
set_option maxRecDepth 20000 in
theorem rSame2_any (a b : StaM) (w : World) (ha : StaAt w a) (hb : StaAt w b) : Calls Tryz.prog 12 #[a.val, b.val] w (BRes (a.same b) w) := by
 have ES : Hid (a.same b = ((a.nm.toList == b.nm.toList) && ((a.cur == b.cur) && eqL VerM.same a.vs b.vs))) := by show _ = _; rw [str_eqL]; rfl
 obtain ⟨V, hV⟩ : ∃ v, a.same b = v := ⟨_, rfl⟩;rw [hV] at ES ⊢;clear hV;unfold BRes StaM.val;obtain ⟨na, ca, L, aL, pL⟩ := a;obtain ⟨nb, cb, M, aM, pM⟩ := b;dsimp only at ES ⊢;have ROWL : Hid (0 < L.length → ∃ g off, aL = some ⟨g, off, none⟩ ∧ g < w.heap.size ∧ True ∧ ∀ i p, L[i]? = some p → ∀ j u, (verC p)[j]? = some u → w.cell? ⟨g, off + i * 8 + j, none⟩ = some u) := fun h => row_open ha.r verC_len (by decide) h
 have ROWM : Hid (0 < M.length → ∃ g off, aM = some ⟨g, off, none⟩ ∧ g < w.heap.size ∧ True ∧ ∀ i p, M[i]? = some p → ∀ j u, (verC p)[j]? = some u → w.cell? ⟨g, off + i * 8 + j, none⟩ = some u) := fun h => row_open hb.r verC_len (by decide) h
 have BL := Hj ha.b;have BM := Hj hb.b;have h1 : L.length ≤ 100000 := ha.l;have h2 : M.length ≤ 100000 := hb.l;obtain ⟨n, hn⟩ : ∃ n, L.length = n := ⟨_, rfl⟩;obtain ⟨n', hn'⟩ : ∃ n, M.length = n := ⟨_, rfl⟩;rw [hn] at h1 ROWL ⊢;rw [hn'] at h2 ROWM ⊢;have HN := Hj hn;have HN' := Hj hn';clear ha hb hn hn';obtain ⟨WB, hWB⟩ : ∃ X, (w.alloc (.cells #[.string na, .int .i64 ca, .slice aL n pL] 25)).alloc (.cells #[.string nb, .int .i64 cb, .slice aM n' pM] 25) = X := ⟨_, rfl⟩;have R0 : Hid (Rel w WB) := by show Rel _ _; rw [← hWB]; exact ((Rel.refl w).alloc _).alloc _
 have BA : Hid (Blk WB w.heap.size 25 [.string na, .int .i64 ca, .slice aL n pL]) := by show Blk _ _ _ _; rw [← hWB]; exact (Blk.new w _ #[.string na, .int .i64 ca, .slice aL n pL]).alloc _
 have BB : Hid (Blk WB (w.heap.size + 1) 25 [.string nb, .int .i64 cb, .slice aM n' pM]) := by
  show Blk _ _ _ _
  rw [← hWB];have h := Blk.new (w.alloc (.cells #[.string na, .int .i64 ca, .slice aL n pL] 25)) 25 #[.string nb, .int .i64 cb, .slice aM n' pM];rw [World.size_alloc] at h; exact h
 have x0 := (BA.out.rel (Rel.refl _)).c (j := 0) rfl;have y0 := (BB.out.rel (Rel.refl _)).c (j := 0) rfl;have x1 := (BA.out.rel (Rel.refl _)).c (j := 1) rfl;have y1 := (BB.out.rel (Rel.refl _)).c (j := 1) rfl;have x2 := (BA.out.rel (Rel.refl _)).c (j := 2) rfl;have y2 := (BB.out.rel (Rel.refl _)).c (j := 2) rfl;have xl := (BA.out.rel (Rel.refl _)).lt;have yl := (BB.out.rel (Rel.refl _)).lt;obtain ⟨S, hS⟩ : ∃ S, (na.toList == nb.toList) = S := ⟨_, rfl⟩;rw [hS] at ES;cases S
 ·skip
  have fin : Hid (V = false) := by show _ = _; rw [ES.out]; simp
  go_enter Tryz.func12, Tryz.ntmps12;go_wp2;go_ret;exact ⟨ret_b2 fin.out.symm, R0.out⟩
 ·by_cases qc : ¬ ca = cb
  ·have ec : (ca == cb) = false := by rw [zn]; exact qc
   have fin : Hid (V = false) := by show _ = _; rw [ES.out, ec]; simp
   go_enter Tryz.func12, Tryz.ntmps12;go_wp2;go_ret;exact ⟨ret_b2 fin.out.symm, R0.out⟩
  ·have qc' : ca = cb := Classical.not_not.1 qc;subst qc';clear qc;by_cases qn : ¬ n = n'
   ·have en : ((n : Int) == (n' : Int)) = false := by rw [zn]; omega
    have ln : eqL VerM.same L M = false := eqL_len (by rw [HN.out, HN'.out]; exact qn);have fin : Hid (V = false) := by show _ = _; rw [ES.out, ln]; simp
    go_enter Tryz.func12, Tryz.ntmps12;go_wp2;go_ret;exact ⟨ret_b2 fin.out.symm, R0.out⟩
   ·have qn' : n = n' := Classical.not_not.1 qn;obtain ⟨N0, hN0⟩ : ∃ z, z = n' := ⟨_, rfl⟩;subst hN0;subst qn';clear qn
    have EV1 : Hid (V = alK (fun i => eqO VerM.same L[i]? M[i]?) n) := by
     show _ = _
     rw [ES.out, eqL_full (f := VerM.same) (by rw [HN.out, HN'.out]), HN.out]; simp
    clear ES;go_enter Tryz.func12, Tryz.ntmps12;go_wp2_with fail;(try rw [hWB]);clear hWB xl yl x0 x1 x2 y0 y1 y2
    go_loopw [5] (fun z wx => ∃ i : Nat, i ≤ n ∧ z = .int .i64 i ∧ Hid (alK (fun i => eqO VerM.same L[i]? M[i]?) i = true) ∧ Hid (Rel WB wx)) (fun i _ => n - (intOf i).toNat)
    case atStart => exact ⟨0, by omega, rfl, rfl, Rel.refl _⟩
    case round =>
     obtain ⟨i, hi, rfl, hA, hR⟩ := hrel;have bx := (BA.out.rel hR.out).c (j := 2) rfl;have by' := (BB.out.rel hR.out).c (j := 2) rfl
     have xl := (BA.out.rel hR.out).lt;have yl := (BB.out.rel hR.out).lt;by_cases hlt : i < n
     ·skip
      have ki : (i : Int) < (n : Int) := by omega
      obtain ⟨g, off, rfl, hg, -, hc⟩ := ROWL.out (by omega);obtain ⟨g', off', rfl, hg', -, hc'⟩ := ROWM.out (by omega);obtain ⟨m, hp⟩ : ∃ p, L[i]? = some p := get_some (by rw [HN.out]; exact hlt);obtain ⟨m', hq⟩ : ∃ p, M[i]? = some p := get_some (by rw [HN'.out]; exact hlt)
      have HS : Hid (alK (fun i => eqO VerM.same L[i]? M[i]?) (i + 1) = m.same m') := by
       show _ = _
       simp only [alK]; rw [hA.out, eqO_at hp hq]; simp
      have R1 := Hj (R0.out.trans hR.out);have hBp := BL.out m (List.mem_of_getElem? hp);have hBq := BM.out m' (List.mem_of_getElem? hq);have EL := Hj fun w' (r : Rel wr w') => rSameVersion_any m m' w' (VerB.rel hBp (R1.out.trans r)) (VerB.rel hBq (R1.out.trans r))
      have HCp := Hj fun j u h => hc i m hp j u h
      have HCq := Hj fun j u h => hc' i m' hq j u h
      obtain ⟨Z, hZ⟩ : ∃ Z, m.same m' = Z := ⟨_, rfl⟩;rw [hZ] at EL HS;unfold BRes VerM.val at EL;clear hZ hBp hBq hp hq hc hc';have c0 := R1.out.cell (HCp.out 0 _ rfl);have e0 := R1.out.cell (HCq.out 0 _ rfl);have c1 := R1.out.cell (HCp.out 1 _ rfl);have e1 := R1.out.cell (HCq.out 1 _ rfl);have c2 := R1.out.cell (HCp.out 2 _ rfl);have e2 := R1.out.cell (HCq.out 2 _ rfl);have c3 := R1.out.cell (HCp.out 3 _ rfl);have e3 := R1.out.cell (HCq.out 3 _ rfl);have c4 := R1.out.cell (HCp.out 4 _ rfl);have e4 := R1.out.cell (HCq.out 4 _ rfl);have c5 := R1.out.cell (HCp.out 5 _ rfl);have e5 := R1.out.cell (HCq.out 5 _ rfl);have c6 := R1.out.cell (HCp.out 6 _ rfl);have e6 := R1.out.cell (HCq.out 6 _ rfl);have c7 := R1.out.cell (HCp.out 7 _ rfl);have e7 := R1.out.cell (HCq.out 7 _ rfl);simp only [Nat.add_zero] at c0 e0;have hgr := R1.out.lt hg;have hgr' := R1.out.lt hg';go_wp2_with fail;refine wp_region_calm (fun _ w' => Rel wr w') (fun _ => false) [0, 1, 2, 3, 4, 5, 6, 7, 8, 9, 10, 11] 0 (by kernel_rfl) (by kernel_rfl) ?hst ?hS0 (fun w0 h0 => ?_)
      case hst => exact fun _ _ _ h r => h.trans r
      case hS0 => exact Rel.refl _
      iterate 10
       refine wpCalm_go rfl (by kernel_rfl) (fun K hK => ?_);apply Exists.intro;refine ⟨fun M w hM hS => ?_, hK _ ?_⟩
       ·have bx' := hS.cell bx;have by2 := hS.cell by'
        have d0 := hS.cell c0;have f0 := hS.cell e0;have d1 := hS.cell c1;have f1 := hS.cell e1;have d2 := hS.cell c2;have f2 := hS.cell e2;have d3 := hS.cell c3;have f3 := hS.cell e3;have d4 := hS.cell c4;have f4 := hS.cell e4;have d5 := hS.cell c5;have f5 := hS.cell e5;have d6 := hS.cell c6;have f6 := hS.cell e6;have d7 := hS.cell c7;have f7 := hS.cell e7;unfold calmAt;go_simp;exact ⟨rfl, Rel.refl _⟩
       clear hK K
      refine wpCalm_go rfl (by kernel_rfl) (fun K hK => ?_);apply Exists.intro;refine ⟨fun M w hM hS => ?_, hK _ ?_⟩
      ·unfold calmAt;go_simp
       with_reducible refine (EL.out _ hS).mono ?_
       rintro e w1 ⟨rfl, hb⟩;exact ⟨rfl, hb⟩
      clear hK K
      iterate 1
       refine wpCalm_go rfl (by kernel_rfl) (fun K hK => ?_);apply Exists.intro;refine ⟨fun M w hM hS => ?_, hK _ ?_⟩
       ·have bx' := hS.cell bx;have by2 := hS.cell by'
        have d0 := hS.cell c0;have f0 := hS.cell e0;have d1 := hS.cell c1;have f1 := hS.cell e1;have d2 := hS.cell c2;have f2 := hS.cell e2;have d3 := hS.cell c3;have f3 := hS.cell e3;have d4 := hS.cell c4;have f4 := hS.cell e4;have d5 := hS.cell c5;have f5 := hS.cell e5;have d6 := hS.cell c6;have f6 := hS.cell e6;have d7 := hS.cell c7;have f7 := hS.cell e7;unfold calmAt;go_simp;exact ⟨rfl, Rel.refl _⟩
       clear hK K
      refine wpCalm_nil (wpAnyR_end (by kernel_rfl) (fun w1 h1 => ?_));simp only [Act.put, zla, zlb, zlc];have R2 : Hid (Rel WB w1) := hR.out.trans (h0.trans h1);clear h0 h1 bx by' xl yl hgr hgr' c0 e0 c1 e1 c2 e2 c3 e3 c4 e4 c5 e5 c6 e6 c7 e7
      cases Z
      ·have fin : Hid (V = false) := by
        show _ = _
        rw [EV1.out, ak_no hlt HS.out]
       go_wp2;go_ret;exact ⟨ret_b2 fin.out.symm, R0.out.trans R2.out⟩
      ·go_wp2
       go_roundw
       case rel => exact ⟨i + 1, by omega, by go_num, HS, R2⟩
       case measure => simp [intOf]; omega
     ·have hin : i = n := by omega
      have fin : Hid (V = true) := by show _ = _; rw [EV1.out, ← hin]; exact hA.out
      have ni : ¬ (i : Int) < (n : Int) := by omega
      go_wp2;go_ret;exact ⟨ret_b2 fin.out.symm, R0.out.trans hR.out⟩
end Go.Proofs.YtojghojlapgbiaaGreatDoor

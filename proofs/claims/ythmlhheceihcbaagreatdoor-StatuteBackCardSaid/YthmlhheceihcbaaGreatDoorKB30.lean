/- Lemmas, each as it is printed; no conditions but those printed. -/
import Derived.Test.YthmlhheceihcbaaGreatDoorKB29
namespace Go.Proofs.YthmlhheceihcbaaGreatDoor
set_option maxHeartbeats 16000000
open Go.RowKit Cal Str Tok Frac Txt Tree Go.Proofs.Tryz
attribute [local go_sem] calmUpon
set_option linter.unusedVariables false
set_option linter.unusedSimpArgs false
theorem rwordN_any (k : Int) (l : List (List UInt8 × Int)) (n : Int) (s : ByteArray) (w : World) (hk : (k = 1 /\ l = kndL) \/ (k = 2 /\ l = benL)) (hs : (⟨(nmI l n).toArray⟩ : ByteArray) = s) : Calls prog 16 #[.int .i64 n, .int .i64 k] w fun e w' => e = .returned (.string s) /\ Rel w w' := by
 subst hs
 rcases hk with ⟨rfl, rfl⟩ | ⟨rfl, rfl⟩
 ·exact rword1_any n w
 ·exact rword2_any n w
set_option maxRecDepth 20000 in
theorem rvversion_any (m : VerM) (w : World) (hV : VerAt w m) : Calls prog 52 #[m.val] w (BRes m.pl.valid w) := by
 have VV := Hj (verM_valid m);obtain ⟨V, hVV⟩ : ∃ v, m.pl.valid = v := ⟨_, rfl⟩;rw [hVV] at VV |-;clear hVV;obtain ⟨frm, mode, unit, cr, se, le, gr, re, ca, sa, la, ga, ra, cc, sc, lc, gc, rc⟩ := m;have n0 : cr.length <= 100000 := hV.n0;have n1 : se.length <= 100000 := hV.n1;have n2 : le.length <= 100000 := hV.n2;have n3 : gr.length <= 100000 := hV.n3;have n4 : re.length <= 100000 := hV.n4;obtain ⟨WB, hWB⟩ : ∃ X, w.alloc (.cells #[.int .i64 frm, .int .i64 mode, .int .i64 unit, .slice ca cr.length cc, .slice sa se.length sc, .slice la le.length lc, .slice ga gr.length gc, .slice ra re.length rc] 48) = X := ⟨_, rfl⟩;have R0 : Hid (Rel w WB) := by show Rel _ _; rw [<- hWB]; exact (Rel.refl w).alloc _
 have BW : Hid (Blk WB w.heap.size 48 [.int .i64 frm, .int .i64 mode, .int .i64 unit, .slice ca cr.length cc, .slice sa se.length sc, .slice la le.length lc, .slice ga gr.length gc, .slice ra re.length rc]) := by show Blk _ _ _ _; rw [<- hWB]; exact Blk.new w _ #[.int .i64 frm, .int .i64 mode, .int .i64 unit, .slice ca cr.length cc, .slice sa se.length sc, .slice la le.length lc, .slice ga gr.length gc, .slice ra re.length rc]
 have ROWC : Hid (0 < cr.length -> ∃ g off, ca = some ⟨g, off, none⟩ /\ g < WB.heap.size /\ True /\ ∀ i p, cr[i]? = some p -> ∀ j u, (crC p)[j]? = some u -> WB.cell? ⟨g, off + i * 2 + j, none⟩ = some u) := fun h => row_open (hV.r0.keep (Below.size R0.out) (fun q hq hp => ⟨Below.block R0.out q hq, hp⟩)) crC_len (by decide) h
 have ROWS : Hid (0 < se.length -> ∃ g off, sa = some ⟨g, off, none⟩ /\ g < WB.heap.size /\ True /\ ∀ i p, se[i]? = some p -> ∀ j u, (seC p)[j]? = some u -> WB.cell? ⟨g, off + i * 3 + j, none⟩ = some u) := fun h => row_open (hV.r1.keep (Below.size R0.out) (fun q hq hp => ⟨Below.block R0.out q hq, hp⟩)) seC_len (by decide) h
 have ROWL : Hid (0 < le.length -> ∃ g off, la = some ⟨g, off, none⟩ /\ g < WB.heap.size /\ True /\ ∀ i p, le[i]? = some p -> ∀ j u, (leC p)[j]? = some u -> WB.cell? ⟨g, off + i * 7 + j, none⟩ = some u) := fun h => row_open (hV.r2.keep (Below.size R0.out) (fun q hq hp => ⟨Below.block R0.out q hq, hp⟩)) leC_len (by decide) h
 have ROWG : Hid (0 < gr.length -> ∃ g off, ga = some ⟨g, off, none⟩ /\ g < WB.heap.size /\ True /\ ∀ i p, gr[i]? = some p -> ∀ j u, (grC p)[j]? = some u -> WB.cell? ⟨g, off + i * 13 + j, none⟩ = some u) := fun h => row_open (hV.r3.keep (Below.size R0.out) (fun q hq hp => ⟨Below.block R0.out q hq, hp⟩)) grC_len (by decide) h
 have ROWR : Hid (0 < re.length -> ∃ g off, ra = some ⟨g, off, none⟩ /\ g < WB.heap.size /\ True /\ ∀ i p, re[i]? = some p -> ∀ j u, (reC p)[j]? = some u -> WB.cell? ⟨g, off + i * 7 + j, none⟩ = some u) := fun h => row_open (hV.r4.keep (Below.size R0.out) (fun q hq hp => ⟨Below.block R0.out q hq, hp⟩)) reC_len (by decide) h
 have ISB := Hj hV.b1;have TLB : Hid (∀ p ∈ le, LeB (fun _ => True) WB p) := fun p hp => ⟨(hV.b2 p hp).1, (hV.b2 p hp).2.rel R0.out⟩
 have TGB : Hid (∀ p ∈ gr, GrB (fun _ => True) WB p) := fun p hp => ⟨(hV.b3 p hp).1, (hV.b3 p hp).2.1.rel R0.out, (hV.b3 p hp).2.2.rel R0.out⟩
 have TRB : Hid (∀ p ∈ re, ReB (fun _ => True) WB p) := fun p hp => ⟨(hV.b4 p hp).1, (hV.b4 p hp).2.rel R0.out⟩
 unfold VerM.val;dsimp only at VV |-;unfold BRes;obtain ⟨nc, hnc⟩ : ∃ n, cr.length = n := ⟨_, rfl⟩;obtain ⟨ns, hns⟩ : ∃ n, se.length = n := ⟨_, rfl⟩;obtain ⟨nl, hnl⟩ : ∃ n, le.length = n := ⟨_, rfl⟩;obtain ⟨ng, hng⟩ : ∃ n, gr.length = n := ⟨_, rfl⟩;obtain ⟨nr, hnr⟩ : ∃ n, re.length = n := ⟨_, rfl⟩;rw [hnc] at n0 ROWC;rw [hns] at n1 ROWS;rw [hnl] at n2 ROWL;rw [hng] at n3 ROWG;rw [hnr] at n4 ROWR;rw [hnc, hns, hnl, hng, hnr] at hWB BW VV |-;have HNC := Hj hnc;have HNS := Hj hns;have HNL := Hj hnl;have HNG := Hj hng;have HNR := Hj hnr;obtain ⟨D, hD⟩ : ∃ D, bwB 0 73048 frm = D := ⟨_, rfl⟩;have VD := Hj fun w => rvday_any frm w
 rw [hD] at VD VV;unfold BRes at VD;obtain ⟨E, hE⟩ : ∃ E, (bwB 1 4 mode && bwB 1 100000 unit) = E := ⟨_, rfl⟩;have VE := Hj fun w => rround_any mode unit w
 rw [hE] at VE VV;unfold BRes at VE;have b0 := BW.out.c (j := 0) rfl;have b1 := BW.out.c (j := 1) rfl;have b2 := BW.out.c (j := 2) rfl;have b3 := BW.out.c (j := 3) rfl;have b4 := BW.out.c (j := 4) rfl;have b5 := BW.out.c (j := 5) rfl;have b6 := BW.out.c (j := 6) rfl;have b7 := BW.out.c (j := 7) rfl;have bl := BW.out.lt;have IS0 : I64 mode /\ I64 unit := ⟨hV.i1, hV.i2⟩;clear hV hnc hns hnl hng hnr hD hE;go_enter func52, ntmps52;go_wp2_with fail;refine (VD.out _).mono ?_;rintro e wA ⟨rfl, h1⟩;have R1 : Hid (Rel WB wA) := by show Rel _ _; first | exact h1 | (rw [<- hWB]; exact h1)
 clear h1 b0 b1 b2 b3 b4 b5 b6 b7 bl;have b0 := (BW.out.rel R1.out).c (j := 0) rfl;have b1 := (BW.out.rel R1.out).c (j := 1) rfl;have b2 := (BW.out.rel R1.out).c (j := 2) rfl;have b3 := (BW.out.rel R1.out).c (j := 3) rfl;have b4 := (BW.out.rel R1.out).c (j := 4) rfl;have b5 := (BW.out.rel R1.out).c (j := 5) rfl;have b6 := (BW.out.rel R1.out).c (j := 6) rfl;have b7 := (BW.out.rel R1.out).c (j := 7) rfl;have bl := (BW.out.rel R1.out).lt;cases D
 ·have fin : Hid (V = false) := by show _ = _; rw [VV.out]; simp
  go_wp2;go_ret;exact ⟨ret_b2 fin.out.symm, R0.out.trans R1.out⟩
 ·go_wp2_with fail;refine (VE.out _).mono ?_;rintro e w1 ⟨rfl, h1⟩;have R2 : Hid (Rel WB w1) := R1.out.trans h1;clear h1 b0 b1 b2 b3 b4 b5 b6 b7 bl R1;obtain ⟨wA, hwA⟩ : ∃ x, x = w1 := ⟨_, rfl⟩;subst hwA;have R1 := R2;clear R2;have b3 := (BW.out.rel R1.out).c (j := 3) rfl;have b4 := (BW.out.rel R1.out).c (j := 4) rfl;have b5 := (BW.out.rel R1.out).c (j := 5) rfl;have b6 := (BW.out.rel R1.out).c (j := 6) rfl;have b7 := (BW.out.rel R1.out).c (j := 7) rfl;have bl := (BW.out.rel R1.out).lt;cases E
  ·have fin : Hid (V = false) := by show _ = _; rw [VV.out]; simp
   go_wp2;go_ret;exact ⟨ret_b2 fin.out.symm, R0.out.trans R1.out⟩
  ·have VV1 : Hid (V = (((decide (nc <= 6) && decide (ns <= 20)) && (decide (nl <= 10) && (decide (ng <= 5) && decide (nr <= 5)))) && (cr.all crV && (se.all seV && (le.all leW && (gr.all grW && re.all reW)))))) := by
    show _ = _
    rw [VV.out]; simp
   clear VV hWB VD VE;by_cases hnc : 6 < nc
   ·have e1 : decide ((6 : Int) < (nc : Int)) = true := dT (by omega);have e2 : (6 : Int) < (nc : Int) := by omega
    have fin : Hid (V = false) := by
     show _ = _
     rw [VV1.out, dF (show ¬ nc <= 6 by omega)]; simp
    go_wp2;go_ret;exact ⟨ret_b2 fin.out.symm, R0.out.trans R1.out⟩
   ·have e1nc : decide ((6 : Int) < (nc : Int)) = false := dF (by omega);have e2nc : ¬ (6 : Int) < (nc : Int) := by omega
    by_cases hns : 20 < ns
    ·have e1 : decide ((20 : Int) < (ns : Int)) = true := dT (by omega);have e2 : (20 : Int) < (ns : Int) := by omega
     have fin : Hid (V = false) := by
      show _ = _
      rw [VV1.out, dF (show ¬ ns <= 20 by omega)]; simp
     go_wp2;go_ret;exact ⟨ret_b2 fin.out.symm, R0.out.trans R1.out⟩
    ·have e1ns : decide ((20 : Int) < (ns : Int)) = false := dF (by omega);have e2ns : ¬ (20 : Int) < (ns : Int) := by omega
     by_cases hnl : 10 < nl
     ·have e1 : decide ((10 : Int) < (nl : Int)) = true := dT (by omega);have e2 : (10 : Int) < (nl : Int) := by omega
      have fin : Hid (V = false) := by
       show _ = _
       rw [VV1.out, dF (show ¬ nl <= 10 by omega)]; simp
      go_wp2;go_ret;exact ⟨ret_b2 fin.out.symm, R0.out.trans R1.out⟩
     ·have e1nl : decide ((10 : Int) < (nl : Int)) = false := dF (by omega);have e2nl : ¬ (10 : Int) < (nl : Int) := by omega
      by_cases hng : 5 < ng
      ·have e1 : decide ((5 : Int) < (ng : Int)) = true := dT (by omega);have e2 : (5 : Int) < (ng : Int) := by omega
       have fin : Hid (V = false) := by
        show _ = _
        rw [VV1.out, dF (show ¬ ng <= 5 by omega)]; simp
       go_wp2;go_ret;exact ⟨ret_b2 fin.out.symm, R0.out.trans R1.out⟩
      ·have e1ng : decide ((5 : Int) < (ng : Int)) = false := dF (by omega);have e2ng : ¬ (5 : Int) < (ng : Int) := by omega
       by_cases hnr : 5 < nr
       ·have e1 : decide ((5 : Int) < (nr : Int)) = true := dT (by omega);have e2 : (5 : Int) < (nr : Int) := by omega
        have fin : Hid (V = false) := by
         show _ = _
         rw [VV1.out, dF (show ¬ nr <= 5 by omega)]; simp
        go_wp2;go_ret;exact ⟨ret_b2 fin.out.symm, R0.out.trans R1.out⟩
       ·have e1nr : decide ((5 : Int) < (nr : Int)) = false := dF (by omega);have e2nr : ¬ (5 : Int) < (nr : Int) := by omega
        have VV2 : Hid (V = (cr.all crV && (se.all seV && (le.all leW && (gr.all grW && re.all reW))))) := by
         show _ = _
         rw [VV1.out, dT (show nc <= 6 by omega), dT (show ns <= 20 by omega), dT (show nl <= 10 by omega), dT (show ng <= 5 by omega), dT (show nr <= 5 by omega)]; simp
        go_wp2_with fail;clear VV1 b3 b4 b5 b6 b7 bl
        go_loopw [3] (fun i wx => ∃ k : Nat, k <= nc /\ i = .int .i64 k /\ Hid (allK crV cr k = true) /\ Hid (Rel wA wx)) (fun i _ => nc - (intOf i).toNat)
        case atStart => exact ⟨0, by omega, rfl, rfl, Rel.refl _⟩
        case round =>
         obtain ⟨k, hk, rfl, hA, hR⟩ := hrel;by_cases hlt : k < nc
         ·skip
          have ki : (k : Int) < (nc : Int) := by omega
          obtain ⟨g, off, rfl, hg, -, hc⟩ := ROWC.out (by omega);obtain ⟨p, hp⟩ : ∃ p, cr[k]? = some p := get_some (by rw [HNC.out]; exact hlt);obtain ⟨k0, l0⟩ := p;have HP := Hj hp;have CE := Hj fun j u h => hc k _ hp j u h
          clear hp hc;have bb := (BW.out.rel (R1.out.trans hR.out)).c (j := 3) rfl;have bl := (BW.out.rel (R1.out.trans hR.out)).lt;have c0 := (R1.out.trans hR.out).cell (CE.out 0 _ rfl);have c1 := (R1.out.trans hR.out).cell (CE.out 1 _ rfl);simp only [Nat.add_zero] at c0;have hg2 := (R1.out.trans hR.out).lt hg;obtain ⟨s, hs⟩ : ∃ s, (⟨(nmI kndL k0).toArray⟩ : ByteArray) = s := ⟨_, rfl⟩;have hE := Hj (bw_of nm_knd hs);obtain ⟨E, hE2⟩ : ∃ E, s.toList.isEmpty = E := ⟨_, rfl⟩;rw [hE2] at hE;have WO := Hj fun w' => rwordN_any 1 kndL k0 s w' (by first | exact .inl ⟨rfl, rfl⟩ | exact .inr ⟨rfl, rfl⟩) hs
          clear hs;go_wp2_with fail;refine (WO.out _).mono ?_;rintro e w1 ⟨rfl, hw1⟩;have Rw1 : Hid (Rel wA w1) := hR.out.trans hw1;clear hw1;clear bb bl hg2 c0 c1;have bb := (BW.out.rel (R1.out.trans Rw1.out)).c (j := 3) rfl;have bl := (BW.out.rel (R1.out.trans Rw1.out)).lt;have c0 := (R1.out.trans Rw1.out).cell (CE.out 0 _ rfl);have c1 := (R1.out.trans Rw1.out).cell (CE.out 1 _ rfl);simp only [Nat.add_zero] at c0;have hg2 := (R1.out.trans Rw1.out).lt hg;cases E
          ·have hE' : bwB 5 10 k0 = true := hE.out;by_cases hu1 : l0 < 0
           ·have eu1 : decide (l0 < 0) = true := decide_eq_true hu1;have hf : crV (k0, l0) = false := by unfold crV bwB; simp only; rw [dF (show ¬ 0 <= l0 by omega)]; simp
            have fin : Hid (V = false) := by
             show _ = _
             rw [VV2.out, allK_no HP.out hf]; (try simp)
            go_wp2;go_ret;exact ⟨ret_b2 fin.out.symm, R0.out.trans (R1.out.trans Rw1.out)⟩
           ·have eu1 : decide (l0 < 0) = false := decide_eq_false hu1;by_cases hu2 : 73049 < l0
            ·have eu2 : decide (73049 < l0) = true := decide_eq_true hu2;have hf : crV (k0, l0) = false := by unfold crV bwB; simp only; rw [dF (show ¬ l0 <= 73049 by omega)]; simp
             have fin : Hid (V = false) := by
              show _ = _
              rw [VV2.out, allK_no HP.out hf]; (try simp)
             go_wp2;go_ret;exact ⟨ret_b2 fin.out.symm, R0.out.trans (R1.out.trans Rw1.out)⟩
            ·have eu2 : decide (73049 < l0) = false := decide_eq_false hu2;have hf : crV (k0, l0) = true := by unfold crV; simp only; rw [hE']; unfold bwB; rw [dT (show 0 <= l0 by omega), dT (show l0 <= 73049 by omega)]; rfl
             have fin : Hid (allK crV cr (k + 1) = true) := by
              show _ = _
              rw [allK_succ HP.out, hA.out, hf]; rfl
             go_wp2
             go_roundw
             case rel => exact ⟨k + 1, by omega, by go_num, fin, Rw1⟩
             case measure => simp [intOf]; omega
          ·have hE' : bwB 5 10 k0 = false := hE.out;have hf : crV (k0, l0) = false := by unfold crV; simp only; rw [hE']; (try rfl)
           have fin : Hid (V = false) := by
            show _ = _
            rw [VV2.out, allK_no HP.out hf]; (try simp)
           go_wp2;go_ret;exact ⟨ret_b2 fin.out.symm, R0.out.trans (R1.out.trans Rw1.out)⟩
         ·obtain rfl : k = nc := by omega
          have VV3 : Hid (V = (se.all seV && (le.all leW && (gr.all grW && re.all reW)))) := by
           show _ = _
           rw [VV2.out, <- allK_full (f := crV) (L := cr) (Nat.le_of_eq HNC.out), hA.out]; rfl
          have RA := hR;have bb := (BW.out.rel (R1.out.trans RA.out)).c (j := 3) rfl;have bl := (BW.out.rel (R1.out.trans RA.out)).lt;clear hR hA VV2 hlt;go_wp2_with fail
          go_loopw [4] (fun i wx => ∃ k : Nat, k <= ns /\ i = .int .i64 k /\ Hid (allK seV se k = true) /\ Hid (Rel wA wx)) (fun i _ => ns - (intOf i).toNat)
          case atStart => exact ⟨0, by omega, rfl, rfl, RA⟩
          case round =>
           obtain ⟨k, hk, rfl, hA, hR⟩ := hrel;by_cases hlt : k < ns
           ·skip
            have ki : (k : Int) < (ns : Int) := by omega
            obtain ⟨g, off, rfl, hg, -, hc⟩ := ROWS.out (by omega);obtain ⟨p, hp⟩ : ∃ p, se[k]? = some p := get_some (by rw [HNS.out]; exact hlt);obtain ⟨⟨y0, y1⟩, ⟨a0, a1⟩, ⟨m0', m1'⟩⟩ := ISB.out _ (List.mem_of_getElem? hp);obtain ⟨k0, l0, m0⟩ := p;simp only at y0 y1 a0 a1 m0' m1';have HP := Hj hp;have CE := Hj fun j u h => hc k _ hp j u h
            clear hp hc;have bb := (BW.out.rel (R1.out.trans hR.out)).c (j := 4) rfl;have bl := (BW.out.rel (R1.out.trans hR.out)).lt;have c0 := (R1.out.trans hR.out).cell (CE.out 0 _ rfl);have c1 := (R1.out.trans hR.out).cell (CE.out 1 _ rfl);have c2 := (R1.out.trans hR.out).cell (CE.out 2 _ rfl);simp only [Nat.add_zero] at c0;have hg2 := (R1.out.trans hR.out).lt hg;have FD := Hj fun w' => rFormatDecimal_any l0 m0 2 w' a0 a1 m0' m1' (by decide) (by decide)
            obtain ⟨T, hT⟩ : ∃ T, fdT l0 m0 2 = T := ⟨_, rfl⟩;obtain ⟨B, hB⟩ : ∃ B, fdB l0 m0 2 = B := ⟨_, rfl⟩;unfold FdRes at FD;rw [hT, hB] at FD;have HSV : Hid (seV (k0, l0, m0) = (bwB 1900 2099 k0 && (B && decide (1 <= l0)))) := by show _ = _; unfold seV; simp only; rw [hB]
            clear hT hB;go_wp2_with fail;refine (FD.out _).mono ?_;rintro e w1 ⟨rfl, hw1⟩;have Rw1 : Hid (Rel wA w1) := hR.out.trans hw1;clear hw1;clear bb bl hg2 c0 c1 c2;have bb := (BW.out.rel (R1.out.trans Rw1.out)).c (j := 4) rfl;have bl := (BW.out.rel (R1.out.trans Rw1.out)).lt;have c0 := (R1.out.trans Rw1.out).cell (CE.out 0 _ rfl);have c1 := (R1.out.trans Rw1.out).cell (CE.out 1 _ rfl);have c2 := (R1.out.trans Rw1.out).cell (CE.out 2 _ rfl);simp only [Nat.add_zero] at c0;have hg2 := (R1.out.trans Rw1.out).lt hg;by_cases hu1 : k0 < 1900
            ·have eu1 : decide (k0 < 1900) = true := decide_eq_true hu1;have hf : seV (k0, l0, m0) = false := by rw [HSV.out]; unfold bwB; rw [dF (show ¬ 1900 <= k0 by omega)]; rfl
             have fin : Hid (V = false) := by
              show _ = _
              rw [VV3.out, allK_no HP.out hf]; (try simp)
             go_wp2;go_ret;exact ⟨ret_b2 fin.out.symm, R0.out.trans (R1.out.trans Rw1.out)⟩
            ·have eu1 : decide (k0 < 1900) = false := decide_eq_false hu1;by_cases hu2 : 2099 < k0
             ·have eu2 : decide (2099 < k0) = true := decide_eq_true hu2;have hf : seV (k0, l0, m0) = false := by rw [HSV.out]; unfold bwB; rw [dF (show ¬ k0 <= 2099 by omega)]; simp
              have fin : Hid (V = false) := by
               show _ = _
               rw [VV3.out, allK_no HP.out hf]; (try simp)
              go_wp2;go_ret;exact ⟨ret_b2 fin.out.symm, R0.out.trans (R1.out.trans Rw1.out)⟩
             ·have eu2 : decide (2099 < k0) = false := decide_eq_false hu2;cases B
              ·skip
               have hf : seV (k0, l0, m0) = false := by rw [HSV.out]; simp
               have fin : Hid (V = false) := by
                show _ = _
                rw [VV3.out, allK_no HP.out hf]; (try simp)
               go_wp2;go_ret;exact ⟨ret_b2 fin.out.symm, R0.out.trans (R1.out.trans Rw1.out)⟩
              ·by_cases hu3 : l0 < 1
               ·have eu3 : decide (l0 < 1) = true := decide_eq_true hu3;have hf : seV (k0, l0, m0) = false := by rw [HSV.out, dF (show ¬ 1 <= l0 by omega)]; simp
                have fin : Hid (V = false) := by
                 show _ = _
                 rw [VV3.out, allK_no HP.out hf]; (try simp)
                go_wp2;go_ret;exact ⟨ret_b2 fin.out.symm, R0.out.trans (R1.out.trans Rw1.out)⟩
               ·have eu3 : decide (l0 < 1) = false := decide_eq_false hu3;have hf : seV (k0, l0, m0) = true := by rw [HSV.out]; unfold bwB; rw [dT (show 1900 <= k0 by omega), dT (show k0 <= 2099 by omega), dT (show 1 <= l0 by omega)]; rfl
                have fin : Hid (allK seV se (k + 1) = true) := by
                 show _ = _
                 rw [allK_succ HP.out, hA.out, hf]; rfl
                go_wp2
                go_roundw
                case rel => exact ⟨k + 1, by omega, by go_num, fin, Rw1⟩
                case measure => simp [intOf]; omega
           ·obtain rfl : k = ns := by omega
            have VV4 : Hid (V = (le.all leW && (gr.all grW && re.all reW))) := by
             show _ = _
             rw [VV3.out, <- allK_full (f := seV) (L := se) (Nat.le_of_eq HNS.out), hA.out]; rfl
            have RA := hR;have bb := (BW.out.rel (R1.out.trans RA.out)).c (j := 4) rfl;have bl := (BW.out.rel (R1.out.trans RA.out)).lt;clear hR hA VV3 hlt;go_wp2_with fail
            go_loopw [7] (fun i wx => ∃ k : Nat, k <= nl /\ i = .int .i64 k /\ Hid (allK leW le k = true) /\ Hid (Rel wA wx)) (fun i _ => nl - (intOf i).toNat)
            case atStart => exact ⟨0, by omega, rfl, rfl, RA⟩
            case round =>
             obtain ⟨k, hk, rfl, hA, hR⟩ := hrel;by_cases hlt : k < nl
             ·skip
              have ki : (k : Int) < (nl : Int) := by omega
              obtain ⟨g, off, rfl, hg, -, hc⟩ := ROWL.out (by omega);obtain ⟨p, hp⟩ : ∃ p, le[k]? = some p := get_some (by rw [HNL.out]; exact hlt);obtain ⟨s0, ⟨t, x⟩⟩ := p;have hGB := TLB.out _ (List.mem_of_getElem? hp);obtain ⟨xa, xc, e1⟩ := kids_slice (kidsB_to hGB.2.1);simp only at e1;subst e1;have sz : s0.size <= 140737488355328 := hGB.1;have KT := Hj fun X (r : Rel WB X) => kids_rel (kidsB_to hGB.2.1) r
              have zt : t.size <= 1000000000 := hGB.2.2;clear hGB;have HP := Hj hp;have CE := Hj fun j u h => hc k _ hp j u h
              clear hp hc;have bb := (BW.out.rel (R1.out.trans hR.out)).c (j := 5) rfl;have bl := (BW.out.rel (R1.out.trans hR.out)).lt;have c0 := (R1.out.trans hR.out).cell (CE.out 0 _ rfl);have c1 := (R1.out.trans hR.out).cell (CE.out 1 _ rfl);have c2 := (R1.out.trans hR.out).cell (CE.out 2 _ rfl);have c3 := (R1.out.trans hR.out).cell (CE.out 3 _ rfl);have c4 := (R1.out.trans hR.out).cell (CE.out 4 _ rfl);have c5 := (R1.out.trans hR.out).cell (CE.out 5 _ rfl);have c6 := (R1.out.trans hR.out).cell (CE.out 6 _ rfl);simp only [Nat.add_zero] at c0;have hg2 := (R1.out.trans hR.out).lt hg;have VT := Hj fun w' (r : Rel WB w') => rValidExpr_any t _ w' (KT.out w' r) (by omega)
              obtain ⟨YT, hYT⟩ : ∃ b, t.valid = b := ⟨_, rfl⟩;rw [hYT] at VT;unfold BRes at VT;have HYT := Hj hYT;clear hYT;have NA := Hj fun w' => rIsName_any s0 w' sz
              obtain ⟨Q, hQ⟩ : ∃ b, namB s0 = b := ⟨_, rfl⟩;rw [hQ] at NA;have HQ := Hj hQ;clear hQ;cases Q
              ·go_wp2_with fail;refine (NA.out _).mono ?_;rintro e w1 ⟨rfl, rfl⟩;have hf : leW (s0, (t, .slice xa t.cnt xc)) = false := by unfold leW; simp only; rw [HQ.out]; rfl
               have fin : Hid (V = false) := by
                show _ = _
                rw [VV4.out, allK_no HP.out hf]; (try simp)
               go_wp2;go_ret;exact ⟨ret_b2 fin.out.symm, R0.out.trans (R1.out.trans hR.out)⟩
              ·go_wp2_with fail;refine (NA.out _).mono ?_;rintro e w1 ⟨rfl, rfl⟩;go_wp2_with fail;refine (VT.out _ (R1.out.trans hR.out)).mono ?_;rintro e w1 ⟨rfl, hw1⟩;have Rw1 : Hid (Rel wA w1) := hR.out.trans hw1;clear hw1;clear bb bl hg2 c0 c1 c2 c3 c4 c5 c6;have bb := (BW.out.rel (R1.out.trans Rw1.out)).c (j := 5) rfl;have bl := (BW.out.rel (R1.out.trans Rw1.out)).lt;have c0 := (R1.out.trans Rw1.out).cell (CE.out 0 _ rfl);have c1 := (R1.out.trans Rw1.out).cell (CE.out 1 _ rfl);have c2 := (R1.out.trans Rw1.out).cell (CE.out 2 _ rfl);have c3 := (R1.out.trans Rw1.out).cell (CE.out 3 _ rfl);have c4 := (R1.out.trans Rw1.out).cell (CE.out 4 _ rfl);have c5 := (R1.out.trans Rw1.out).cell (CE.out 5 _ rfl);have c6 := (R1.out.trans Rw1.out).cell (CE.out 6 _ rfl);simp only [Nat.add_zero] at c0;have hg2 := (R1.out.trans Rw1.out).lt hg;cases YT
               ·skip
                have hf : leW (s0, (t, .slice xa t.cnt xc)) = false := by unfold leW; simp only; rw [HQ.out, HYT.out]; rfl
                have fin : Hid (V = false) := by
                 show _ = _
                 rw [VV4.out, allK_no HP.out hf]; (try simp)
                go_wp2;go_ret;exact ⟨ret_b2 fin.out.symm, R0.out.trans (R1.out.trans Rw1.out)⟩
               ·skip
                have hf : leW (s0, (t, .slice xa t.cnt xc)) = true := by unfold leW; simp only; rw [HQ.out, HYT.out]; rfl
                have fin : Hid (allK leW le (k + 1) = true) := by
                 show _ = _
                 rw [allK_succ HP.out, hA.out, hf]; rfl
                go_wp2
                go_roundw
                case rel => exact ⟨k + 1, by omega, by go_num, fin, Rw1⟩
                case measure => simp [intOf]; omega
             ·obtain rfl : k = nl := by omega
              have VV5 : Hid (V = (gr.all grW && re.all reW)) := by
               show _ = _
               rw [VV4.out, <- allK_full (f := leW) (L := le) (Nat.le_of_eq HNL.out), hA.out]; rfl
              have RA := hR;have bb := (BW.out.rel (R1.out.trans RA.out)).c (j := 5) rfl;have bl := (BW.out.rel (R1.out.trans RA.out)).lt;clear hR hA VV4 hlt;go_wp2_with fail
              go_loopw [8] (fun i wx => ∃ k : Nat, k <= ng /\ i = .int .i64 k /\ Hid (allK grW gr k = true) /\ Hid (Rel wA wx)) (fun i _ => ng - (intOf i).toNat)
              case atStart => exact ⟨0, by omega, rfl, rfl, RA⟩
              case round =>
               obtain ⟨k, hk, rfl, hA, hR⟩ := hrel;by_cases hlt : k < ng
               ·skip
                have ki : (k : Int) < (ng : Int) := by omega
                obtain ⟨g, off, rfl, hg, -, hc⟩ := ROWG.out (by omega);obtain ⟨p, hp⟩ : ∃ p, gr[k]? = some p := get_some (by rw [HNG.out]; exact hlt);obtain ⟨k0, ⟨t, x⟩, ⟨u, y⟩⟩ := p;have hGB := TGB.out _ (List.mem_of_getElem? hp);obtain ⟨xa, xc, e1⟩ := kids_slice (kidsB_to hGB.2.1.1);obtain ⟨ya, yc, e2⟩ := kids_slice (kidsB_to hGB.2.2.1);simp only at e1 e2;subst e1 e2;have KT := Hj fun X (r : Rel WB X) => kids_rel (kidsB_to hGB.2.1.1) r
                have KU := Hj fun X (r : Rel WB X) => kids_rel (kidsB_to hGB.2.2.1) r
                have zt : t.size <= 1000000000 := hGB.2.1.2;have zu : u.size <= 1000000000 := hGB.2.2.2;clear hGB;have HP := Hj hp;have CE := Hj fun j u h => hc k _ hp j u h
                clear hp hc;have bb := (BW.out.rel (R1.out.trans hR.out)).c (j := 6) rfl;have bl := (BW.out.rel (R1.out.trans hR.out)).lt;have c0 := (R1.out.trans hR.out).cell (CE.out 0 _ rfl);have c1 := (R1.out.trans hR.out).cell (CE.out 1 _ rfl);have c2 := (R1.out.trans hR.out).cell (CE.out 2 _ rfl);have c3 := (R1.out.trans hR.out).cell (CE.out 3 _ rfl);have c4 := (R1.out.trans hR.out).cell (CE.out 4 _ rfl);have c5 := (R1.out.trans hR.out).cell (CE.out 5 _ rfl);have c6 := (R1.out.trans hR.out).cell (CE.out 6 _ rfl);have c7 := (R1.out.trans hR.out).cell (CE.out 7 _ rfl);have c8 := (R1.out.trans hR.out).cell (CE.out 8 _ rfl);have c9 := (R1.out.trans hR.out).cell (CE.out 9 _ rfl);have c10 := (R1.out.trans hR.out).cell (CE.out 10 _ rfl);have c11 := (R1.out.trans hR.out).cell (CE.out 11 _ rfl);have c12 := (R1.out.trans hR.out).cell (CE.out 12 _ rfl);simp only [Nat.add_zero] at c0;have hg2 := (R1.out.trans hR.out).lt hg;obtain ⟨s, hs⟩ : ∃ s, (⟨(nmI benL k0).toArray⟩ : ByteArray) = s := ⟨_, rfl⟩;have hE := Hj (bw_of nm_ben hs);obtain ⟨E, hE2⟩ : ∃ E, s.toList.isEmpty = E := ⟨_, rfl⟩;rw [hE2] at hE;have WO := Hj fun w' => rwordN_any 2 benL k0 s w' (by first | exact .inl ⟨rfl, rfl⟩ | exact .inr ⟨rfl, rfl⟩) hs
                clear hs;have VT := Hj fun w' (r : Rel WB w') => rValidExpr_any t _ w' (KT.out w' r) (by omega)
                obtain ⟨YT, hYT⟩ : ∃ b, t.valid = b := ⟨_, rfl⟩;rw [hYT] at VT;unfold BRes at VT;have HYT := Hj hYT;clear hYT;have VU := Hj fun w' (r : Rel WB w') => rValidExpr_any u _ w' (KU.out w' r) (by omega)
                obtain ⟨YU, hYU⟩ : ∃ b, u.valid = b := ⟨_, rfl⟩;rw [hYU] at VU;unfold BRes at VU;have HYU := Hj hYU;clear hYU;go_wp2_with fail;refine (WO.out _).mono ?_;rintro e w1 ⟨rfl, hw1⟩;have Rw1 : Hid (Rel wA w1) := hR.out.trans hw1;clear hw1;clear bb bl hg2 c0 c1 c2 c3 c4 c5 c6 c7 c8 c9 c10 c11 c12;have bb := (BW.out.rel (R1.out.trans Rw1.out)).c (j := 6) rfl;have bl := (BW.out.rel (R1.out.trans Rw1.out)).lt;have c0 := (R1.out.trans Rw1.out).cell (CE.out 0 _ rfl);have c1 := (R1.out.trans Rw1.out).cell (CE.out 1 _ rfl);have c2 := (R1.out.trans Rw1.out).cell (CE.out 2 _ rfl);have c3 := (R1.out.trans Rw1.out).cell (CE.out 3 _ rfl);have c4 := (R1.out.trans Rw1.out).cell (CE.out 4 _ rfl);have c5 := (R1.out.trans Rw1.out).cell (CE.out 5 _ rfl);have c6 := (R1.out.trans Rw1.out).cell (CE.out 6 _ rfl);have c7 := (R1.out.trans Rw1.out).cell (CE.out 7 _ rfl);have c8 := (R1.out.trans Rw1.out).cell (CE.out 8 _ rfl);have c9 := (R1.out.trans Rw1.out).cell (CE.out 9 _ rfl);have c10 := (R1.out.trans Rw1.out).cell (CE.out 10 _ rfl);have c11 := (R1.out.trans Rw1.out).cell (CE.out 11 _ rfl);have c12 := (R1.out.trans Rw1.out).cell (CE.out 12 _ rfl);simp only [Nat.add_zero] at c0;have hg2 := (R1.out.trans Rw1.out).lt hg;cases E
                ·have hE' : bwB 1 5 k0 = true := hE.out;go_wp2_with fail;refine (VT.out _ (R1.out.trans Rw1.out)).mono ?_;rintro e w2 ⟨rfl, hw2⟩;have Rw2 : Hid (Rel wA w2) := Rw1.out.trans hw2;clear hw2;clear bb bl hg2 c0 c1 c2 c3 c4 c5 c6 c7 c8 c9 c10 c11 c12;have bb := (BW.out.rel (R1.out.trans Rw2.out)).c (j := 6) rfl;have bl := (BW.out.rel (R1.out.trans Rw2.out)).lt;have c0 := (R1.out.trans Rw2.out).cell (CE.out 0 _ rfl);have c1 := (R1.out.trans Rw2.out).cell (CE.out 1 _ rfl);have c2 := (R1.out.trans Rw2.out).cell (CE.out 2 _ rfl);have c3 := (R1.out.trans Rw2.out).cell (CE.out 3 _ rfl);have c4 := (R1.out.trans Rw2.out).cell (CE.out 4 _ rfl);have c5 := (R1.out.trans Rw2.out).cell (CE.out 5 _ rfl);have c6 := (R1.out.trans Rw2.out).cell (CE.out 6 _ rfl);have c7 := (R1.out.trans Rw2.out).cell (CE.out 7 _ rfl);have c8 := (R1.out.trans Rw2.out).cell (CE.out 8 _ rfl);have c9 := (R1.out.trans Rw2.out).cell (CE.out 9 _ rfl);have c10 := (R1.out.trans Rw2.out).cell (CE.out 10 _ rfl);have c11 := (R1.out.trans Rw2.out).cell (CE.out 11 _ rfl);have c12 := (R1.out.trans Rw2.out).cell (CE.out 12 _ rfl);simp only [Nat.add_zero] at c0;have hg2 := (R1.out.trans Rw2.out).lt hg;cases YT
                 ·skip
                  have hf : grW (k0, (t, .slice xa t.cnt xc), (u, .slice ya u.cnt yc)) = false := by unfold grW; simp only; rw [HYT.out]; simp
                  have fin : Hid (V = false) := by
                   show _ = _
                   rw [VV5.out, allK_no HP.out hf]; (try simp)
                  go_wp2;go_ret;exact ⟨ret_b2 fin.out.symm, R0.out.trans (R1.out.trans Rw2.out)⟩
                 ·skip
                  go_wp2_with fail;refine (VU.out _ (R1.out.trans Rw2.out)).mono ?_;rintro e w3 ⟨rfl, hw3⟩;have Rw3 : Hid (Rel wA w3) := Rw2.out.trans hw3;clear hw3;clear bb bl hg2 c0 c1 c2 c3 c4 c5 c6 c7 c8 c9 c10 c11 c12;have bb := (BW.out.rel (R1.out.trans Rw3.out)).c (j := 6) rfl;have bl := (BW.out.rel (R1.out.trans Rw3.out)).lt;have c0 := (R1.out.trans Rw3.out).cell (CE.out 0 _ rfl);have c1 := (R1.out.trans Rw3.out).cell (CE.out 1 _ rfl);have c2 := (R1.out.trans Rw3.out).cell (CE.out 2 _ rfl);have c3 := (R1.out.trans Rw3.out).cell (CE.out 3 _ rfl);have c4 := (R1.out.trans Rw3.out).cell (CE.out 4 _ rfl);have c5 := (R1.out.trans Rw3.out).cell (CE.out 5 _ rfl);have c6 := (R1.out.trans Rw3.out).cell (CE.out 6 _ rfl);have c7 := (R1.out.trans Rw3.out).cell (CE.out 7 _ rfl);have c8 := (R1.out.trans Rw3.out).cell (CE.out 8 _ rfl);have c9 := (R1.out.trans Rw3.out).cell (CE.out 9 _ rfl);have c10 := (R1.out.trans Rw3.out).cell (CE.out 10 _ rfl);have c11 := (R1.out.trans Rw3.out).cell (CE.out 11 _ rfl);have c12 := (R1.out.trans Rw3.out).cell (CE.out 12 _ rfl);simp only [Nat.add_zero] at c0;have hg2 := (R1.out.trans Rw3.out).lt hg;cases YU
                  ·skip
                   have hf : grW (k0, (t, .slice xa t.cnt xc), (u, .slice ya u.cnt yc)) = false := by unfold grW; simp only; rw [HYU.out]; simp
                   have fin : Hid (V = false) := by
                    show _ = _
                    rw [VV5.out, allK_no HP.out hf]; (try simp)
                   go_wp2;go_ret;exact ⟨ret_b2 fin.out.symm, R0.out.trans (R1.out.trans Rw3.out)⟩
                  ·skip
                   have hf : grW (k0, (t, .slice xa t.cnt xc), (u, .slice ya u.cnt yc)) = true := by unfold grW; simp only; rw [hE', HYT.out, HYU.out]; rfl
                   have fin : Hid (allK grW gr (k + 1) = true) := by
                    show _ = _
                    rw [allK_succ HP.out, hA.out, hf]; rfl
                   go_wp2
                   go_roundw
                   case rel => exact ⟨k + 1, by omega, by go_num, fin, Rw3⟩
                   case measure => simp [intOf]; omega
                ·have hE' : bwB 1 5 k0 = false := hE.out;have hf : grW (k0, (t, .slice xa t.cnt xc), (u, .slice ya u.cnt yc)) = false := by unfold grW; simp only; rw [hE']; (try rfl)
                 have fin : Hid (V = false) := by
                  show _ = _
                  rw [VV5.out, allK_no HP.out hf]; (try simp)
                 go_wp2;go_ret;exact ⟨ret_b2 fin.out.symm, R0.out.trans (R1.out.trans Rw1.out)⟩
               ·obtain rfl : k = ng := by omega
                have VV6 : Hid (V = re.all reW) := by
                 show _ = _
                 rw [VV5.out, <- allK_full (f := grW) (L := gr) (Nat.le_of_eq HNG.out), hA.out]; rfl
                have RA := hR;have bb := (BW.out.rel (R1.out.trans RA.out)).c (j := 6) rfl;have bl := (BW.out.rel (R1.out.trans RA.out)).lt;clear hR hA VV5 hlt;go_wp2_with fail
                go_loopw [9] (fun i wx => ∃ k : Nat, k <= nr /\ i = .int .i64 k /\ Hid (allK reW re k = true) /\ Hid (Rel wA wx)) (fun i _ => nr - (intOf i).toNat)
                case atStart => exact ⟨0, by omega, rfl, rfl, RA⟩
                case round =>
                 obtain ⟨k, hk, rfl, hA, hR⟩ := hrel;by_cases hlt : k < nr
                 ·skip
                  have ki : (k : Int) < (nr : Int) := by omega
                  obtain ⟨g, off, rfl, hg, -, hc⟩ := ROWR.out (by omega);obtain ⟨p, hp⟩ : ∃ p, re[k]? = some p := get_some (by rw [HNR.out]; exact hlt);obtain ⟨k0, ⟨t, x⟩⟩ := p;have hGB := TRB.out _ (List.mem_of_getElem? hp);obtain ⟨xa, xc, e1⟩ := kids_slice (kidsB_to hGB.2.1);simp only at e1;subst e1;have KT := Hj fun X (r : Rel WB X) => kids_rel (kidsB_to hGB.2.1) r
                  have zt : t.size <= 1000000000 := hGB.2.2;clear hGB;have HP := Hj hp;have CE := Hj fun j u h => hc k _ hp j u h
                  clear hp hc;have bb := (BW.out.rel (R1.out.trans hR.out)).c (j := 7) rfl;have bl := (BW.out.rel (R1.out.trans hR.out)).lt;have c0 := (R1.out.trans hR.out).cell (CE.out 0 _ rfl);have c1 := (R1.out.trans hR.out).cell (CE.out 1 _ rfl);have c2 := (R1.out.trans hR.out).cell (CE.out 2 _ rfl);have c3 := (R1.out.trans hR.out).cell (CE.out 3 _ rfl);have c4 := (R1.out.trans hR.out).cell (CE.out 4 _ rfl);have c5 := (R1.out.trans hR.out).cell (CE.out 5 _ rfl);have c6 := (R1.out.trans hR.out).cell (CE.out 6 _ rfl);simp only [Nat.add_zero] at c0;have hg2 := (R1.out.trans hR.out).lt hg;obtain ⟨s, hs⟩ : ∃ s, (⟨(nmI benL k0).toArray⟩ : ByteArray) = s := ⟨_, rfl⟩;have hE := Hj (bw_of nm_ben hs);obtain ⟨E, hE2⟩ : ∃ E, s.toList.isEmpty = E := ⟨_, rfl⟩;rw [hE2] at hE;have WO := Hj fun w' => rwordN_any 2 benL k0 s w' (by first | exact .inl ⟨rfl, rfl⟩ | exact .inr ⟨rfl, rfl⟩) hs
                  clear hs;have VT := Hj fun w' (r : Rel WB w') => rValidExpr_any t _ w' (KT.out w' r) (by omega)
                  obtain ⟨YT, hYT⟩ : ∃ b, t.valid = b := ⟨_, rfl⟩;rw [hYT] at VT;unfold BRes at VT;have HYT := Hj hYT;clear hYT;go_wp2_with fail;refine (WO.out _).mono ?_;rintro e w1 ⟨rfl, hw1⟩;have Rw1 : Hid (Rel wA w1) := hR.out.trans hw1;clear hw1;clear bb bl hg2 c0 c1 c2 c3 c4 c5 c6;have bb := (BW.out.rel (R1.out.trans Rw1.out)).c (j := 7) rfl;have bl := (BW.out.rel (R1.out.trans Rw1.out)).lt;have c0 := (R1.out.trans Rw1.out).cell (CE.out 0 _ rfl);have c1 := (R1.out.trans Rw1.out).cell (CE.out 1 _ rfl);have c2 := (R1.out.trans Rw1.out).cell (CE.out 2 _ rfl);have c3 := (R1.out.trans Rw1.out).cell (CE.out 3 _ rfl);have c4 := (R1.out.trans Rw1.out).cell (CE.out 4 _ rfl);have c5 := (R1.out.trans Rw1.out).cell (CE.out 5 _ rfl);have c6 := (R1.out.trans Rw1.out).cell (CE.out 6 _ rfl);simp only [Nat.add_zero] at c0;have hg2 := (R1.out.trans Rw1.out).lt hg;cases E
                  ·have hE' : bwB 1 5 k0 = true := hE.out;go_wp2_with fail;refine (VT.out _ (R1.out.trans Rw1.out)).mono ?_;rintro e w2 ⟨rfl, hw2⟩;have Rw2 : Hid (Rel wA w2) := Rw1.out.trans hw2;clear hw2;clear bb bl hg2 c0 c1 c2 c3 c4 c5 c6;have bb := (BW.out.rel (R1.out.trans Rw2.out)).c (j := 7) rfl;have bl := (BW.out.rel (R1.out.trans Rw2.out)).lt;have c0 := (R1.out.trans Rw2.out).cell (CE.out 0 _ rfl);have c1 := (R1.out.trans Rw2.out).cell (CE.out 1 _ rfl);have c2 := (R1.out.trans Rw2.out).cell (CE.out 2 _ rfl);have c3 := (R1.out.trans Rw2.out).cell (CE.out 3 _ rfl);have c4 := (R1.out.trans Rw2.out).cell (CE.out 4 _ rfl);have c5 := (R1.out.trans Rw2.out).cell (CE.out 5 _ rfl);have c6 := (R1.out.trans Rw2.out).cell (CE.out 6 _ rfl);simp only [Nat.add_zero] at c0;have hg2 := (R1.out.trans Rw2.out).lt hg;cases YT
                   ·skip
                    have hf : reW (k0, (t, .slice xa t.cnt xc)) = false := by unfold reW; simp only; rw [HYT.out]; simp
                    have fin : Hid (V = false) := by
                     show _ = _
                     rw [VV6.out, allK_no HP.out hf]; (try simp)
                    go_wp2;go_ret;exact ⟨ret_b2 fin.out.symm, R0.out.trans (R1.out.trans Rw2.out)⟩
                   ·skip
                    have hf : reW (k0, (t, .slice xa t.cnt xc)) = true := by unfold reW; simp only; rw [hE', HYT.out]; rfl
                    have fin : Hid (allK reW re (k + 1) = true) := by
                     show _ = _
                     rw [allK_succ HP.out, hA.out, hf]; rfl
                    go_wp2
                    go_roundw
                    case rel => exact ⟨k + 1, by omega, by go_num, fin, Rw2⟩
                    case measure => simp [intOf]; omega
                  ·have hE' : bwB 1 5 k0 = false := hE.out;have hf : reW (k0, (t, .slice xa t.cnt xc)) = false := by unfold reW; simp only; rw [hE']; (try rfl)
                   have fin : Hid (V = false) := by
                    show _ = _
                    rw [VV6.out, allK_no HP.out hf]; (try simp)
                   go_wp2;go_ret;exact ⟨ret_b2 fin.out.symm, R0.out.trans (R1.out.trans Rw1.out)⟩
                 ·obtain rfl : k = nr := by omega
                  have VV7 : Hid (V = true) := by
                   show _ = _
                   rw [VV6.out, <- allK_full (f := reW) (L := re) (Nat.le_of_eq HNR.out), hA.out]
                  have RA := hR;have bb := (BW.out.rel (R1.out.trans RA.out)).c (j := 7) rfl;have bl := (BW.out.rel (R1.out.trans RA.out)).lt;clear hR hA VV6 hlt;have fin : Hid (V = true) := VV7.out;go_wp2;go_ret;exact ⟨ret_b2 fin.out.symm, R0.out.trans (R1.out.trans RA.out)⟩
end Go.Proofs.YthmlhheceihcbaaGreatDoor

/- Lemmas, each as it is printed; no conditions but those printed. -/
import Derived.Test.YthmlhheceihcbaaGreatDoorKB30
namespace Go.Proofs.YthmlhheceihcbaaGreatDoor
set_option maxHeartbeats 16000000
open Cal Str Tok Frac Txt Tree
set_option linter.unusedVariables false
theorem sta_valid (s : StaM) : s.pl.valid = (namB s.nm && (bwB 1 999 s.cur && (decide (1 <= s.vs.length) && (decide (s.vs.length <= 6) && s.vs.all fun m => m.pl.valid)))) := by
 unfold Sta.valid StaM.pl;simp only [List.length_map, List.all_map];rfl
end Go.Proofs.YthmlhheceihcbaaGreatDoor
namespace Go.Proofs.YthmlhheceihcbaaGreatDoor
set_option maxHeartbeats 16000000
open Go.RowKit Cal Str Tok Frac Txt Tree Go.Proofs.Tryz
attribute [local go_sem] calmUpon
set_option linter.unusedVariables false
set_option linter.unusedSimpArgs false
set_option maxRecDepth 20000 in
theorem sValid_any (s : StaM) (w : World) (hV : StaAt w s) (ht : TabW w) : Calls prog 29 #[s.val] w (BRes s.pl.valid w) := by
 have VV := Hj (sta_valid s);obtain ⟨V, hVV⟩ : ∃ v, s.pl.valid = v := ⟨_, rfl⟩;rw [hVV] at VV |-;clear hVV;unfold BRes;obtain ⟨nm, cur, vs, ad, cap⟩ := s;have hsz : nm.size <= 140737488355328 := hV.n;have hIc : I64 cur := hV.i;have n0 : vs.length <= 100000 := hV.l;have R0 : Hid (Rel w (w.alloc (.cells #[.string nm, .int .i64 cur, .slice ad vs.length cap] 28))) := (Rel.refl w).alloc _;have BW : Hid (Blk (w.alloc (.cells #[.string nm, .int .i64 cur, .slice ad vs.length cap] 28)) w.heap.size 28 [.string nm, .int .i64 cur, .slice ad vs.length cap]) := Blk.new w _ #[.string nm, .int .i64 cur, .slice ad vs.length cap];have ROW : Hid (0 < vs.length -> ∃ g off, ad = some ⟨g, off, none⟩ /\ g < w.heap.size /\ True /\ ∀ i p, vs[i]? = some p -> ∀ j u, (verC p)[j]? = some u -> w.cell? ⟨g, off + i * 8 + j, none⟩ = some u) := fun h => row_open hV.r verC_len (by decide) h
 have HB : Hid (∀ m ∈ vs, VerAt w m) := fun m hm => hV.b m hm
 unfold StaM.val;dsimp only at VV |-;obtain ⟨nv, hnv⟩ : ∃ n, vs.length = n := ⟨_, rfl⟩;rw [hnv] at n0 ROW VV R0 BW |-;have HNV := Hj hnv
 obtain ⟨WB, hWB⟩ : ∃ X, w.alloc (.cells #[.string nm, .int .i64 cur, .slice ad nv cap] 28) = X := ⟨_, rfl⟩;rw [hWB] at R0 BW;have HT := Hj ht;clear hV hnv ht;have NA := Hj fun w' => isName_any nm w' hsz
 obtain ⟨Q, hQ⟩ : ∃ b, namB nm = b := ⟨_, rfl⟩;rw [hQ] at NA VV;clear hQ;have b0 := BW.out.c (j := 0) rfl;have b1 := BW.out.c (j := 1) rfl;have b2 := BW.out.c (j := 2) rfl;have bl := BW.out.lt;go_enter func29, ntmps29;go_wp2_with fail;refine (NA.out _).mono ?_;rintro e w1 ⟨rfl, rfl⟩;cases Q
 ·skip
  have fin : Hid (V = false) := by show _ = _; rw [VV.out]; simp
  go_wp2;go_ret;exact ⟨ret_b2 fin.out.symm, R0.out⟩
 ·by_cases h1 : cur < 1
  ·have e1 : decide (cur < 1) = true := decide_eq_true h1;have fin : Hid (V = false) := by show _ = _; rw [VV.out]; unfold bwB; rw [dF (show ¬ 1 <= cur by omega)]; simp
   go_wp2;go_ret;exact ⟨ret_b2 fin.out.symm, R0.out⟩
  ·have e1 : decide (cur < 1) = false := decide_eq_false h1;by_cases h2 : 999 < cur
   ·have e2 : decide (999 < cur) = true := decide_eq_true h2;have fin : Hid (V = false) := by show _ = _; rw [VV.out]; unfold bwB; rw [dF (show ¬ cur <= 999 by omega)]; simp
    go_wp2;go_ret;exact ⟨ret_b2 fin.out.symm, R0.out⟩
   ·have e2 : decide (999 < cur) = false := decide_eq_false h2;by_cases h3 : nv < 1
    ·have e3 : decide ((nv : Int) < 1) = true := dT (by omega);have fin : Hid (V = false) := by show _ = _; rw [VV.out]; rw [dF (show ¬ 1 <= nv by omega)]; simp
     go_wp2;go_ret;exact ⟨ret_b2 fin.out.symm, R0.out⟩
    ·have e3 : decide ((nv : Int) < 1) = false := dF (by omega);by_cases h4 : 6 < nv
     ·have e4 : decide ((6 : Int) < (nv : Int)) = true := dT (by omega);have fin : Hid (V = false) := by show _ = _; rw [VV.out]; rw [dF (show ¬ nv <= 6 by omega)]; simp
      go_wp2;go_ret;exact ⟨ret_b2 fin.out.symm, R0.out⟩
     ·have e4 : decide ((6 : Int) < (nv : Int)) = false := dF (by omega)
      have VV1 : Hid (V = vs.all fun m => m.pl.valid) := by
       show _ = _
       rw [VV.out]; unfold bwB; rw [dT (show 1 <= cur by omega), dT (show cur <= 999 by omega), dT (show 1 <= nv by omega), dT (show nv <= 6 by omega)]; simp
      clear VV;go_wp2_with fail;(try rw [hWB]);clear hWB;clear b0 b1 b2 bl
      go_loopw [34] (fun i wx => ∃ k : Nat, k <= nv /\ i = .int .i64 k /\ Hid (allK (fun m => m.pl.valid) vs k = true) /\ Hid (Rel WB wx)) (fun i _ => nv - (intOf i).toNat)
      case atStart => exact ⟨0, by omega, rfl, rfl, Rel.refl _⟩
      case round =>
       obtain ⟨k, hk, rfl, hA, hR⟩ := hrel;by_cases hlt : k < nv
       ·skip
        have ki : (k : Int) < (nv : Int) := by omega
        obtain ⟨g, off, rfl, hg, -, hc⟩ := ROW.out (by omega);obtain ⟨m, hp⟩ : ∃ m, vs[k]? = some m := get_some (by rw [HNV.out]; exact hlt);have HM : Hid (VerAt w m) := HB.out m (List.mem_of_getElem? hp);have HP := Hj hp;have CE := Hj fun j u h => hc k m hp j u h
        have HC := Hj hc;clear hp hc;have VX := Hj fun w' (r : Rel w w') => vversion_any m w' (VerB.rel HM.out r) (HT.out.rel r)
        obtain ⟨Y, hY⟩ : ∃ b, m.pl.valid = b := ⟨_, rfl⟩;rw [hY] at VX;have HY := Hj hY;unfold BRes VerM.val at VX;obtain ⟨frm, mode, unit, cr, se, le, gr, re, ca, sa, la, ga, ra, cc, sc, lc, gc, rc⟩ := m;dsimp only at VX;have R1 := Hj (R0.out.trans hR.out)
        have c0 := R1.out.cell (CE.out 0 _ rfl);have c1 := R1.out.cell (CE.out 1 _ rfl);have c2 := R1.out.cell (CE.out 2 _ rfl);have c3 := R1.out.cell (CE.out 3 _ rfl);have c4 := R1.out.cell (CE.out 4 _ rfl);have c5 := R1.out.cell (CE.out 5 _ rfl);have c6 := R1.out.cell (CE.out 6 _ rfl);have c7 := R1.out.cell (CE.out 7 _ rfl);simp only [Nat.add_zero] at c0;have hg2 := R1.out.lt hg;clear hY;obtain ⟨X, hX⟩ : ∃ X, wr.alloc (.cells #[.int .i64 frm, .int .i64 mode, .int .i64 unit, .slice ca cr.length cc, .slice sa se.length sc, .slice la le.length lc, .slice ga gr.length gc, .slice ra re.length rc] 48) = X := ⟨_, rfl⟩;have RX : Hid (Rel wr X) := by show Rel _ _; rw [<- hX]; exact (Rel.refl wr).alloc _
        have BX : Hid (Blk X wr.heap.size 48 [.int .i64 frm, .int .i64 mode, .int .i64 unit, .slice ca cr.length cc, .slice sa se.length sc, .slice la le.length lc, .slice ga gr.length gc, .slice ra re.length rc]) := by show Blk _ _ _ _; rw [<- hX]; exact Blk.new wr _ #[.int .i64 frm, .int .i64 mode, .int .i64 unit, .slice ca cr.length cc, .slice sa se.length sc, .slice la le.length lc, .slice ga gr.length gc, .slice ra re.length rc]
        have x0 := BX.out.c (j := 0) rfl;have x1 := BX.out.c (j := 1) rfl;have x2 := BX.out.c (j := 2) rfl;have x3 := BX.out.c (j := 3) rfl;have x4 := BX.out.c (j := 4) rfl;have x5 := BX.out.c (j := 5) rfl;have x6 := BX.out.c (j := 6) rfl;have x7 := BX.out.c (j := 7) rfl;have xl := BX.out.lt;go_wp2_with fail;refine (VX.out _ (R1.out.trans RX.out)).mono ?_;rintro e w2 ⟨rfl, h2⟩;have R2 : Hid (Rel WB w2) := Rel.trans (hR.out.trans RX.out) h2;clear h2 VX c0 c1 c2 c3 c4 c5 c6 c7 x0 x1 x2 x3 x4 x5 x6 x7 xl hX;cases Y
        ·have fin : Hid (V = false) := by show _ = _; rw [VV1.out]; exact allK_no HP.out HY.out
         go_wp2;go_ret;exact ⟨ret_b2 fin.out.symm, R0.out.trans R2.out⟩
        ·have fin : Hid (allK (fun m => m.pl.valid) vs (k + 1) = true) := by
          show _ = _
          rw [allK_succ HP.out, hA.out, HY.out]; rfl
         go_wp2
         go_roundw
         case rel => exact ⟨k + 1, by omega, by go_num, fin, R2⟩
         case measure => simp [intOf]; omega
       ·obtain rfl : k = nv := by omega
        have fin : Hid (V = true) := by show _ = _; rw [VV1.out, <- allK_full (f := fun m => m.pl.valid) (L := vs) (Nat.le_of_eq HNV.out), hA.out]
        have bb := (BW.out.rel hR.out).c (j := 2) rfl;have bl := (BW.out.rel hR.out).lt;go_wp2;go_ret;exact ⟨ret_b2 fin.out.symm, R0.out.trans hR.out⟩
set_option maxRecDepth 20000 in
theorem rValid_any (s : StaM) (w : World) (hV : StaAt w s) : Calls prog 13 #[s.val] w (BRes s.pl.valid w) := by
 have VV := Hj (sta_valid s);obtain ⟨V, hVV⟩ : ∃ v, s.pl.valid = v := ⟨_, rfl⟩;rw [hVV] at VV |-;clear hVV;unfold BRes;obtain ⟨nm, cur, vs, ad, cap⟩ := s;have hsz : nm.size <= 140737488355328 := hV.n;have hIc : I64 cur := hV.i;have n0 : vs.length <= 100000 := hV.l;have R0 : Hid (Rel w (w.alloc (.cells #[.string nm, .int .i64 cur, .slice ad vs.length cap] 28))) := (Rel.refl w).alloc _;have BW : Hid (Blk (w.alloc (.cells #[.string nm, .int .i64 cur, .slice ad vs.length cap] 28)) w.heap.size 28 [.string nm, .int .i64 cur, .slice ad vs.length cap]) := Blk.new w _ #[.string nm, .int .i64 cur, .slice ad vs.length cap];have ROW : Hid (0 < vs.length -> ∃ g off, ad = some ⟨g, off, none⟩ /\ g < w.heap.size /\ True /\ ∀ i p, vs[i]? = some p -> ∀ j u, (verC p)[j]? = some u -> w.cell? ⟨g, off + i * 8 + j, none⟩ = some u) := fun h => row_open hV.r verC_len (by decide) h
 have HB : Hid (∀ m ∈ vs, VerAt w m) := fun m hm => hV.b m hm
 unfold StaM.val;dsimp only at VV |-;obtain ⟨nv, hnv⟩ : ∃ n, vs.length = n := ⟨_, rfl⟩;rw [hnv] at n0 ROW VV R0 BW |-;have HNV := Hj hnv
 obtain ⟨WB, hWB⟩ : ∃ X, w.alloc (.cells #[.string nm, .int .i64 cur, .slice ad nv cap] 28) = X := ⟨_, rfl⟩;rw [hWB] at R0 BW;clear hV hnv;have NA := Hj fun w' => rIsName_any nm w' hsz
 obtain ⟨Q, hQ⟩ : ∃ b, namB nm = b := ⟨_, rfl⟩;rw [hQ] at NA VV;clear hQ;have b0 := BW.out.c (j := 0) rfl;have b1 := BW.out.c (j := 1) rfl;have b2 := BW.out.c (j := 2) rfl;have bl := BW.out.lt;go_enter func13, ntmps13;go_wp2_with fail;refine (NA.out _).mono ?_;rintro e w1 ⟨rfl, rfl⟩;cases Q
 ·skip
  have fin : Hid (V = false) := by show _ = _; rw [VV.out]; simp
  go_wp2;go_ret;exact ⟨ret_b2 fin.out.symm, R0.out⟩
 ·by_cases h1 : cur < 1
  ·have e1 : decide (cur < 1) = true := decide_eq_true h1;have fin : Hid (V = false) := by show _ = _; rw [VV.out]; unfold bwB; rw [dF (show ¬ 1 <= cur by omega)]; simp
   go_wp2;go_ret;exact ⟨ret_b2 fin.out.symm, R0.out⟩
  ·have e1 : decide (cur < 1) = false := decide_eq_false h1;by_cases h2 : 999 < cur
   ·have e2 : decide (999 < cur) = true := decide_eq_true h2;have fin : Hid (V = false) := by show _ = _; rw [VV.out]; unfold bwB; rw [dF (show ¬ cur <= 999 by omega)]; simp
    go_wp2;go_ret;exact ⟨ret_b2 fin.out.symm, R0.out⟩
   ·have e2 : decide (999 < cur) = false := decide_eq_false h2;by_cases h3 : nv < 1
    ·have e3 : decide ((nv : Int) < 1) = true := dT (by omega);have fin : Hid (V = false) := by show _ = _; rw [VV.out]; rw [dF (show ¬ 1 <= nv by omega)]; simp
     go_wp2;go_ret;exact ⟨ret_b2 fin.out.symm, R0.out⟩
    ·have e3 : decide ((nv : Int) < 1) = false := dF (by omega);by_cases h4 : 6 < nv
     ·have e4 : decide ((6 : Int) < (nv : Int)) = true := dT (by omega);have fin : Hid (V = false) := by show _ = _; rw [VV.out]; rw [dF (show ¬ nv <= 6 by omega)]; simp
      go_wp2;go_ret;exact ⟨ret_b2 fin.out.symm, R0.out⟩
     ·have e4 : decide ((6 : Int) < (nv : Int)) = false := dF (by omega)
      have VV1 : Hid (V = vs.all fun m => m.pl.valid) := by
       show _ = _
       rw [VV.out]; unfold bwB; rw [dT (show 1 <= cur by omega), dT (show cur <= 999 by omega), dT (show 1 <= nv by omega), dT (show nv <= 6 by omega)]; simp
      clear VV;go_wp2_with fail;(try rw [hWB]);clear hWB;clear b0 b1 b2 bl
      go_loopw [3] (fun i wx => ∃ k : Nat, k <= nv /\ i = .int .i64 k /\ Hid (allK (fun m => m.pl.valid) vs k = true) /\ Hid (Rel WB wx)) (fun i _ => nv - (intOf i).toNat)
      case atStart => exact ⟨0, by omega, rfl, rfl, Rel.refl _⟩
      case round =>
       obtain ⟨k, hk, rfl, hA, hR⟩ := hrel;by_cases hlt : k < nv
       ·skip
        have ki : (k : Int) < (nv : Int) := by omega
        obtain ⟨g, off, rfl, hg, -, hc⟩ := ROW.out (by omega);obtain ⟨m, hp⟩ : ∃ m, vs[k]? = some m := get_some (by rw [HNV.out]; exact hlt);have HM : Hid (VerAt w m) := HB.out m (List.mem_of_getElem? hp);have HP := Hj hp;have CE := Hj fun j u h => hc k m hp j u h
        have HC := Hj hc;clear hp hc;have VX := Hj fun w' (r : Rel w w') => rvversion_any m w' (VerB.rel HM.out r)
        obtain ⟨Y, hY⟩ : ∃ b, m.pl.valid = b := ⟨_, rfl⟩;rw [hY] at VX;have HY := Hj hY;unfold BRes VerM.val at VX;obtain ⟨frm, mode, unit, cr, se, le, gr, re, ca, sa, la, ga, ra, cc, sc, lc, gc, rc⟩ := m;dsimp only at VX;have R1 := Hj (R0.out.trans hR.out)
        have c0 := R1.out.cell (CE.out 0 _ rfl);have c1 := R1.out.cell (CE.out 1 _ rfl);have c2 := R1.out.cell (CE.out 2 _ rfl);have c3 := R1.out.cell (CE.out 3 _ rfl);have c4 := R1.out.cell (CE.out 4 _ rfl);have c5 := R1.out.cell (CE.out 5 _ rfl);have c6 := R1.out.cell (CE.out 6 _ rfl);have c7 := R1.out.cell (CE.out 7 _ rfl);simp only [Nat.add_zero] at c0;have hg2 := R1.out.lt hg;clear hY;have bb := (BW.out.rel hR.out).c (j := 2) rfl;have bl := (BW.out.rel hR.out).lt;go_wp2_with fail;refine (VX.out _ R1.out).mono ?_;rintro e w2 ⟨rfl, h2⟩;have R2 : Hid (Rel WB w2) := Rel.trans hR.out h2;clear h2 VX c0 c1 c2 c3 c4 c5 c6 c7 bb bl;cases Y
        ·have fin : Hid (V = false) := by show _ = _; rw [VV1.out]; exact allK_no HP.out HY.out
         go_wp2;go_ret;exact ⟨ret_b2 fin.out.symm, R0.out.trans R2.out⟩
        ·have fin : Hid (allK (fun m => m.pl.valid) vs (k + 1) = true) := by
          show _ = _
          rw [allK_succ HP.out, hA.out, HY.out]; rfl
         go_wp2
         go_roundw
         case rel => exact ⟨k + 1, by omega, by go_num, fin, R2⟩
         case measure => simp [intOf]; omega
       ·obtain rfl : k = nv := by omega
        have fin : Hid (V = true) := by show _ = _; rw [VV1.out, <- allK_full (f := fun m => m.pl.valid) (L := vs) (Nat.le_of_eq HNV.out), hA.out]
        have bb := (BW.out.rel hR.out).c (j := 2) rfl;have bl := (BW.out.rel hR.out).lt;go_wp2;go_ret;exact ⟨ret_b2 fin.out.symm, R0.out.trans hR.out⟩
end Go.Proofs.YthmlhheceihcbaaGreatDoor

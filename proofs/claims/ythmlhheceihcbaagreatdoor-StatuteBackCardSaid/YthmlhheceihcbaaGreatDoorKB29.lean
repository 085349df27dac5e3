/- Lemmas, each as it is printed; no conditions but those printed. -/
import Derived.Test.YthmlhheceihcbaaGreatDoorKB20
import Derived.Test.YthmlhheceihcbaaGreatDoorKB10
namespace Go.Proofs.YthmlhheceihcbaaGreatDoor
set_option maxHeartbeats 16000000
open Go.RowKit Cal Str Tok Frac Txt Tree Go.Proofs.Tryz
attribute [local go_sem] calmUpon
set_option linter.unusedVariables false
set_option linter.unusedSimpArgs false
theorem bw_of {l : List (List UInt8 × Int)} {lo hi : Int} (H : ∀ z, (nmI l z == []) = !(decide (lo <= z) && decide (z <= hi))) {z : Int} {s : ByteArray} (h : (⟨(nmI l z).toArray⟩ : ByteArray) = s) : bwB lo hi z = !s.toList.isEmpty := by
 subst h;rw [Lib.toList_data];have := H z;unfold bwB
 cases hh : nmI l z with
 | nil => rw [hh] at this; simp at this |-; omega
 | cons a b => rw [hh] at this; simpa using this
def leW (p : ByteArray × (Ex × Value)) : Bool := namB p.1 && p.2.1.valid
def grW (p : Int × (Ex × Value) × (Ex × Value)) : Bool := bwB 1 5 p.1 && (p.2.1.1.valid && p.2.2.1.valid)
def reW (p : Int × (Ex × Value)) : Bool := bwB 1 5 p.1 && p.2.1.valid
theorem verM_valid (m : VerM) : m.pl.valid = ((bwB 0 73048 m.frm && (bwB 1 4 m.mode && bwB 1 100000 m.unit)) &&
 (((decide (m.cr.length <= 6) && decide (m.se.length <= 20)) && (decide (m.le.length <= 10) && (decide (m.gr.length <= 5) && decide (m.re.length <= 5)))) &&
 (m.cr.all crV && (m.se.all seV && (m.le.all leW && (m.gr.all grW && m.re.all reW)))))) := by
 unfold VerM.pl Ver.valid;simp only [List.length_map, List.all_map];rfl
theorem byN_any (l : List (List UInt8 × Int)) (n g c : Nat) (z : Int) (s : ByteArray) (w : World) (hT : TabAt w g l) (hn : l.length = n) (hl : n <= 100) (hs : (⟨(nmI l z).toArray⟩ : ByteArray) = s) :
  Calls prog 44 #[.slice (some ⟨g, 0, none⟩) n c, .int .i64 z] w fun e w' => e = .returned (.string s) /\ Rel w w' := by
 subst hn hs;exact byNumber_any l g c z w hT hl
set_option maxRecDepth 20000 in
theorem vversion_any (m : VerM) (w : World) (hV : VerAt w m) (ht : TabW w) : Calls prog 76 #[m.val] w (BRes m.pl.valid w) := by
 have VV := Hj (verM_valid m);obtain ⟨V, hVV⟩ : ∃ v, m.pl.valid = v := ⟨_, rfl⟩;rw [hVV] at VV |-;clear hVV;have R0 := Hj ((Rel.refl w).alloc (.cells #[.int .i64 m.frm, .int .i64 m.mode, .int .i64 m.unit, .slice m.ca m.cr.length m.cc, .slice m.sa m.se.length m.sc, .slice m.la m.le.length m.lc, .slice m.ga m.gr.length m.gc, .slice m.ra m.re.length m.rc] 48));have BW := Hj (Blk.new w 48 #[.int .i64 m.frm, .int .i64 m.mode, .int .i64 m.unit, .slice m.ca m.cr.length m.cc, .slice m.sa m.se.length m.sc, .slice m.la m.le.length m.lc, .slice m.ga m.gr.length m.gc, .slice m.ra m.re.length m.rc]);obtain ⟨WB, hWB⟩ : ∃ X, w.alloc (.cells #[.int .i64 m.frm, .int .i64 m.mode, .int .i64 m.unit, .slice m.ca m.cr.length m.cc, .slice m.sa m.se.length m.sc, .slice m.la m.le.length m.lc, .slice m.ga m.gr.length m.gc, .slice m.ra m.re.length m.rc] 48) = X := ⟨_, rfl⟩;rw [hWB] at R0 BW;have VB := Hj (VerB.rel hV R0.out);have HT := Hj (ht.rel R0.out);have out : Hid (∀ {b : Bool} {W : World}, V = b -> Rel WB W -> Ending.returned (.bool b) = .returned (.bool V) /\ Rel w W) := fun e r => ⟨by rw [e], R0.out.trans r⟩
 unfold VerM.val BRes;have b0 := BW.out.c (j := 0) rfl;have b1 := BW.out.c (j := 1) rfl;have b2 := BW.out.c (j := 2) rfl;have bl := BW.out.lt;obtain ⟨s, hs⟩ : ∃ s, (⟨(nmI modL m.mode).toArray⟩ : ByteArray) = s := ⟨_, rfl⟩;have hE := Hj (bw_of nm_mod hs);have HS := Hj hs;have C5 := Hj fun w => vday_any m.frm w
 unfold BRes at C5;clear hV ht hs;go_enter func76, ntmps76;go_upto_region 1 with (fail);(try rw [hWB]);clear hWB
 cases hD : bwB 0 73048 m.frm
 ·rw [hD] at C5;have fin : Hid (V = false) := by show _ = _; rw [VV.out, hD]; rfl
  clear hE hD;refine wrd (fun Z h1 => ?_);go_wp2;go_ret;exact out.out fin.out h1
 rw [hD] at C5;have VV0 := VV.out;rw [hD] at VV0;have VV1 := Hj VV0;clear hD VV VV0
 rcases (show s.toList.isEmpty = true \/ s.toList.isEmpty = false /\ ((m.unit < 1 /\ decide (m.unit < 1) = true) \/ (¬ m.unit < 1 /\ decide (m.unit < 1) = false) /\ ((100000 < m.unit /\ decide (100000 < m.unit) = true) \/ (¬ 100000 < m.unit /\ decide (100000 < m.unit) = false))) by cases s.toList.isEmpty <;> by_cases h : m.unit < 1 <;> by_cases h' : 100000 < m.unit <;> simp [h, h']) with he | ⟨he, ⟨hu, du⟩ | ⟨⟨hu, du⟩, ⟨hx, dx⟩ | ⟨hx, dx⟩⟩⟩
 all_goals
  have hm := hE.out;rw [he] at hm;have fin := VV1.out;rw [hm] at fin;have FIN := Hj fin;clear hm fin VV1;refine wrq [0, 1, 2, 3, 4, 6, 7, 8] 16 23 (fun w0 h0 => ?_);refine ao 5 (fun w1 h1 K' hK' => ?_);go_simp;refine (modes_any w1).mono ?_;rintro e w2 ⟨gt, rfl, hT, h2⟩;have r2 := (h0.trans h1).trans h2;refine hK'.out _ _ (fun _ => r2) ?_;clear hK' K';refine ao 9 (fun w3 h3 K' hK' => ?_);go_simp;refine (byN_any modL 4 gt 4 m.mode s w3 (hT.rel h3) rfl (by decide) HS.out).mono ?_;rintro e w4 ⟨rfl, h4⟩;have r4 := (r2.trans h3).trans h4;refine hK'.out _ _ (fun _ => r4) ?_;clear hK' K' h0 h1 h2 h3 h4 hT r2;refine wrm [10, 11, 12, 13, 14, 15, 16, 17, 18, 19, 20, 21, 22] 1 23 (fun _ => r4) ?_;refine ao 23 (fun w5 h5 K' hK' => ?_);go_simp;refine hK'.out _ _ (mkd (by kernel_rfl)) ?_;clear hK' K';refine ae (fun Z h6 => ?_);have R1 := Hj ((r4.trans h5).trans h6);clear r4 h5 h6 b0 b1 b2 bl
  first
   | (go_wp2; go_ret; exact out.out (by rw [FIN.out]; unfold bwB; simp <;> omega) R1.out)
   | skip
 have VV1 : Hid (V = (((decide (m.cr.length <= 6) && decide (m.se.length <= 20)) && (decide (m.le.length <= 10) && (decide (m.gr.length <= 5) && decide (m.re.length <= 5)))) && (m.cr.all crV && (m.se.all seV && (m.le.all leW && (m.gr.all grW && m.re.all reW)))))) := by
  show _ = _
  rw [FIN.out]; unfold bwB; simp [show 1 <= m.unit by omega, show m.unit <= 100000 by omega]
 have b3 := (BW.out.rel R1.out).c (j := 3) rfl;have b4 := (BW.out.rel R1.out).c (j := 4) rfl;have b5 := (BW.out.rel R1.out).c (j := 5) rfl;have b6 := (BW.out.rel R1.out).c (j := 6) rfl;have b7 := (BW.out.rel R1.out).c (j := 7) rfl;have bl := (BW.out.rel R1.out).lt;clear FIN hE he HS C5 hu hx du dx
 rcases (show (6 : Int) < m.cr.length \/ ¬ (6 : Int) < m.cr.length /\ ((20 : Int) < m.se.length \/ ¬ (20 : Int) < m.se.length /\ ((10 : Int) < m.le.length \/ ¬ (10 : Int) < m.le.length /\ ((5 : Int) < m.gr.length \/ ¬ (5 : Int) < m.gr.length /\ ((5 : Int) < m.re.length \/ ¬ (5 : Int) < m.re.length)))) by omega) with h0 | ⟨h0, h1 | ⟨h1, h2 | ⟨h2, h3 | ⟨h3, h4 | h4⟩⟩⟩⟩
 all_goals first
  | (go_wp2; go_ret; exact out.out (by rw [VV1.out]; simp <;> omega) R1.out)
  | skip
 have VX : Hid (V = (m.cr.all crV && (m.se.all seV && (m.le.all leW && (m.gr.all grW && m.re.all reW))))) := by
  show _ = _
  rw [VV1.out]; simp [show m.cr.length <= 6 by omega, show m.se.length <= 20 by omega, show m.le.length <= 10 by omega, show m.gr.length <= 5 by omega, show m.re.length <= 5 by omega]
 clear VV1;have RA : Hid (Rel WB Z) := R1;clear R1;go_wp2_with fail;clear b3 b4 b5 b6 b7 bl
 go_loopw [68] (fun i wx => ∃ k : Nat, k <= m.cr.length /\ i = .int .i64 k /\ Hid (allK crV m.cr k = true) /\ Hid (Rel WB wx)) (fun i _ => m.cr.length - (intOf i).toNat)
 case atStart => exact ⟨0, by omega, rfl, rfl, RA⟩
 case round =>
  obtain ⟨k, hk, rfl, hA, hR⟩ := hrel;by_cases hlt : k < m.cr.length
  ·have ki : (k : Int) < (m.cr.length : Int) := by omega
   obtain ⟨p, g, off, hp, hm, ha, hg, hc⟩ := row_k VB.out.r0 crC_len (by decide) hR.out hlt;have yes : Hid (crV p = true -> Hid (allK crV m.cr (k + 1) = true)) := fun h => by show _ = _; rw [allK_succ hp, hA.out, h]; rfl
   have no : Hid (crV p = false -> V = false) := fun h => by rw [VX.out, allK_no hp h]; (try rfl)
   rw [ha];obtain ⟨k0, l0⟩ := p;have c0 := hc 0 _ rfl;have c1 := hc 1 _ rfl;simp only [Nat.add_zero] at c0
   have RX := Hj (hR.out.alloc (.cells #[.int .i64 k0, .int .i64 l0] 51));have BB := Hj (Blk.new wr 51 #[.int .i64 k0, .int .i64 l0]);obtain ⟨X, hX⟩ : ∃ X, wr.alloc (.cells #[.int .i64 k0, .int .i64 l0] 51) = X := ⟨_, rfl⟩;rw [hX] at RX BB;have x0 := BB.out.c (j := 0) rfl;have x1 := BB.out.c (j := 1) rfl;have xl := BB.out.lt
   obtain ⟨s, hs⟩ : ∃ s, (⟨(nmI kndL k0).toArray⟩ : ByteArray) = s := ⟨_, rfl⟩;have hE := bw_of nm_knd hs;have HS := Hj hs;clear hs
   clear hp hc hm ha
   rcases (show s.toList.isEmpty = true \/ s.toList.isEmpty = false /\ ((l0 < 0 /\ decide (l0 < 0) = true) \/ (¬ l0 < 0 /\ decide (l0 < 0) = false) /\ ((73049 < l0 /\ decide (73049 < l0) = true) \/ (¬ 73049 < l0 /\ decide (73049 < l0) = false))) by cases s.toList.isEmpty <;> by_cases h : l0 < 0 <;> by_cases h' : 73049 < l0 <;> simp [h, h']) with he | ⟨he, ⟨hu, du⟩ | ⟨⟨hu, du⟩, ⟨hx, dx⟩ | ⟨hx, dx⟩⟩⟩
   all_goals
    rw [he] at hE;have HE := Hj hE;clear hE;go_wp2_with fail;(try rw [hX]);refine wrq [1, 2] 13 14 (fun w0 h0 => ?_);refine ao 0 (fun w1 h1 K' hK' => ?_);go_simp;refine (kinds_any w1).mono ?_;rintro e w2 ⟨gt, rfl, hT, h2⟩;have r2 := (h0.trans h1).trans h2;refine hK'.out _ _ (fun _ => r2) ?_;clear hK' K';refine ao 3 (fun w3 h3 K' hK' => ?_);go_simp;refine (byN_any kndL 6 gt 6 k0 s w3 (hT.rel h3) rfl (by decide) HS.out).mono ?_;rintro e w4 ⟨rfl, h4⟩;have r4 := (r2.trans h3).trans h4;refine hK'.out _ _ (fun _ => r4) ?_;clear hK' K' h0 h1 h2 h3 h4 hT r2;refine wrm [4, 5, 6, 7, 8, 9, 10, 11, 12, 13] 1 14 (fun _ => r4) ?_;refine ao 14 (fun w5 h5 K' hK' => ?_);go_simp;refine hK'.out _ _ (mkd (by kernel_rfl)) ?_;clear hK' K';refine ae (fun Z h6 => ?_);have RZ := Hj (RX.out.trans ((r4.trans h5).trans h6));clear r4 h5 h6
    first
     | (go_wp2; go_ret; exact out.out (no.out (by unfold crV; simp only [HE.out]; unfold bwB; simp <;> omega)) RZ.out)
     | skip
   go_wp2
   go_roundw
   case rel => exact ⟨k + 1, by omega, by go_num, yes.out (by unfold crV; simp only [HE.out]; unfold bwB; simp <;> omega), RZ⟩
   case measure => simp [intOf]; omega
  ·have ki : ¬ (k : Int) < (m.cr.length : Int) := by omega
   have VY : Hid (V = (m.se.all seV && (m.le.all leW && (m.gr.all grW && m.re.all reW)))) := by show _ = _; rw [VX.out, <- allK_full (f := crV) (L := m.cr) (k := k) (by omega), hA.out]; (try rfl)
   have RA := hR;clear VX;have VX := VY;have b3 := (BW.out.rel RA.out).c (j := 3) rfl;have b4 := (BW.out.rel RA.out).c (j := 4) rfl;have b5 := (BW.out.rel RA.out).c (j := 5) rfl;have b6 := (BW.out.rel RA.out).c (j := 6) rfl;have b7 := (BW.out.rel RA.out).c (j := 7) rfl;have bl := (BW.out.rel RA.out).lt;clear hR hA hlt hk VY;go_wp2_with fail;clear b3 b4 b5 b6 b7 bl
   go_loopw [91] (fun i wx => ∃ k : Nat, k <= m.se.length /\ i = .int .i64 k /\ Hid (allK seV m.se k = true) /\ Hid (Rel WB wx)) (fun i _ => m.se.length - (intOf i).toNat)
   case atStart => exact ⟨0, by omega, rfl, rfl, RA⟩
   case round =>
    obtain ⟨k, hk, rfl, hA, hR⟩ := hrel;by_cases hlt : k < m.se.length
    ·have ki : (k : Int) < (m.se.length : Int) := by omega
     obtain ⟨p, g, off, hp, hm, ha, hg, hc⟩ := row_k VB.out.r1 seC_len (by decide) hR.out hlt;have yes : Hid (seV p = true -> Hid (allK seV m.se (k + 1) = true)) := fun h => by show _ = _; rw [allK_succ hp, hA.out, h]; rfl
     have no : Hid (seV p = false -> V = false) := fun h => by rw [VX.out, allK_no hp h]; (try rfl)
     rw [ha];obtain ⟨k0, l0, m0⟩ := p;obtain ⟨i0, i1, i2⟩ := VB.out.b1 _ hm;simp only at i0 i1 i2;have c0 := hc 0 _ rfl;have c1 := hc 1 _ rfl;have c2 := hc 2 _ rfl;simp only [Nat.add_zero] at c0
     have RX := Hj (hR.out.alloc (.cells #[.int .i64 k0, .int .i64 l0, .int .i64 m0] 56));have BB := Hj (Blk.new wr 56 #[.int .i64 k0, .int .i64 l0, .int .i64 m0]);obtain ⟨X, hX⟩ : ∃ X, wr.alloc (.cells #[.int .i64 k0, .int .i64 l0, .int .i64 m0] 56) = X := ⟨_, rfl⟩;rw [hX] at RX BB;have x0 := BB.out.c (j := 0) rfl;have x1 := BB.out.c (j := 1) rfl;have x2 := BB.out.c (j := 2) rfl;have xl := BB.out.lt
     have CI := Hj (vindex_any k0 l0 m0 X (HT.out.rel RX.out) i1.1 i1.2 i2.1 i2.2);unfold BRes at CI;clear hp hc hm ha
     cases hb : seV (k0, l0, m0)
     all_goals
      rw [hb] at CI;have HB := Hj hb;clear hb;go_wp2_with fail;(try rw [hX]);refine CI.out.mono ?_;rintro e Z ⟨rfl, h6⟩;have RZ := Hj (RX.out.trans h6);clear h6
     ·go_wp2;go_ret;exact out.out (no.out HB.out) RZ.out
     go_wp2
     go_roundw
     case rel => exact ⟨k + 1, by omega, by go_num, yes.out (HB.out), RZ⟩
     case measure => simp [intOf]; omega
    ·have ki : ¬ (k : Int) < (m.se.length : Int) := by omega
     have VY : Hid (V = (m.le.all leW && (m.gr.all grW && m.re.all reW))) := by show _ = _; rw [VX.out, <- allK_full (f := seV) (L := m.se) (k := k) (by omega), hA.out]; (try rfl)
     have RA := hR;clear VX;have VX := VY;have b3 := (BW.out.rel RA.out).c (j := 3) rfl;have b4 := (BW.out.rel RA.out).c (j := 4) rfl;have b5 := (BW.out.rel RA.out).c (j := 5) rfl;have b6 := (BW.out.rel RA.out).c (j := 6) rfl;have b7 := (BW.out.rel RA.out).c (j := 7) rfl;have bl := (BW.out.rel RA.out).lt;clear hR hA hlt hk VY;go_wp2_with fail;clear b3 b4 b5 b6 b7 bl
     go_loopw [102] (fun i wx => ∃ k : Nat, k <= m.le.length /\ i = .int .i64 k /\ Hid (allK leW m.le k = true) /\ Hid (Rel WB wx)) (fun i _ => m.le.length - (intOf i).toNat)
     case atStart => exact ⟨0, by omega, rfl, rfl, RA⟩
     case round =>
      obtain ⟨k, hk, rfl, hA, hR⟩ := hrel;by_cases hlt : k < m.le.length
      ·have ki : (k : Int) < (m.le.length : Int) := by omega
       obtain ⟨p, g, off, hp, hm, ha, hg, hc⟩ := row_k VB.out.r2 leC_len (by decide) hR.out hlt;have yes : Hid (leW p = true -> Hid (allK leW m.le (k + 1) = true)) := fun h => by show _ = _; rw [allK_succ hp, hA.out, h]; rfl
       have no : Hid (leW p = false -> V = false) := fun h => by rw [VX.out, allK_no hp h]; (try rfl)
       rw [ha];obtain ⟨s0, t, x⟩ := p;have hB := VB.out.b2 _ hm;obtain ⟨xa0, xc0, e0⟩ := kids_slice (kidsB_to hB.2.1);simp only at e0;subst e0;have c0 := hc 0 _ rfl;have c1 := hc 1 _ rfl;have c2 := hc 2 _ rfl;have c3 := hc 3 _ rfl;have c4 := hc 4 _ rfl;have c5 := hc 5 _ rfl;have c6 := hc 6 _ rfl;simp only [Nat.add_zero] at c0
       have RX := Hj (hR.out.alloc (.cells #[.string s0, .int .i64 t.op, .int .i64 t.va, .int .i64 t.vb, .int .i64 t.dm, .string t.nm, .slice xa0 t.cnt xc0] 61));have BB := Hj (Blk.new wr 61 #[.string s0, .int .i64 t.op, .int .i64 t.va, .int .i64 t.vb, .int .i64 t.dm, .string t.nm, .slice xa0 t.cnt xc0]);obtain ⟨X, hX⟩ : ∃ X, wr.alloc (.cells #[.string s0, .int .i64 t.op, .int .i64 t.va, .int .i64 t.vb, .int .i64 t.dm, .string t.nm, .slice xa0 t.cnt xc0] 61) = X := ⟨_, rfl⟩;rw [hX] at RX BB;have x0 := BB.out.c (j := 0) rfl;have x1 := BB.out.c (j := 1) rfl;have x2 := BB.out.c (j := 2) rfl;have x3 := BB.out.c (j := 3) rfl;have x4 := BB.out.c (j := 4) rfl;have x5 := BB.out.c (j := 5) rfl;have x6 := BB.out.c (j := 6) rfl;have xl := BB.out.lt
       have C0 := Hj fun w' (r : Rel X w') => ValidExpr_any t _ w' (kids_rel (kidsB_to hB.2.1) (RX.out.trans r)) (by have := hB.2.2; simp only at this; omega) (Hj (HT.out.rel (RX.out.trans r)))
       obtain ⟨Y0, hY0⟩ : ∃ b, t.valid = b := ⟨_, rfl⟩;rw [hY0] at C0;unfold BRes at C0;(try dsimp only at C0);have HY0 := Hj hY0;clear hY0
       have NA := Hj fun w' => isName_any s0 w' hB.1
       obtain ⟨Q, hQ⟩ : ∃ b, namB s0 = b := ⟨_, rfl⟩;rw [hQ] at NA;have HQ := Hj hQ;clear hQ hp hc hm ha hB;cases Q
       ·go_wp2_with fail;refine (NA.out _).mono ?_;rintro e w1 ⟨rfl, rfl⟩;go_wp2;go_ret;exact out.out (no.out (by unfold leW; simp only [HQ.out]; rfl)) RX.out
       go_wp2_with fail;refine (NA.out _).mono ?_;rintro e w1 ⟨rfl, rfl⟩;go_wp2_with fail;(try rw [hX]);refine (C0.out _ (Rel.refl _)).mono ?_;rintro e Z ⟨rfl, h6⟩;have RZ := Hj (RX.out.trans h6);clear h6;cases Y0
       ·go_wp2;go_ret;exact out.out (no.out (by unfold leW; simp only [HQ.out, HY0.out]; rfl)) RZ.out
       go_wp2
       go_roundw
       case rel => exact ⟨k + 1, by omega, by go_num, yes.out (by unfold leW; simp only [HQ.out, HY0.out]; rfl), RZ⟩
       case measure => simp [intOf]; omega
      ·have ki : ¬ (k : Int) < (m.le.length : Int) := by omega
       have VY : Hid (V = (m.gr.all grW && m.re.all reW)) := by show _ = _; rw [VX.out, <- allK_full (f := leW) (L := m.le) (k := k) (by omega), hA.out]; (try rfl)
       have RA := hR;clear VX;have VX := VY;have b3 := (BW.out.rel RA.out).c (j := 3) rfl;have b4 := (BW.out.rel RA.out).c (j := 4) rfl;have b5 := (BW.out.rel RA.out).c (j := 5) rfl;have b6 := (BW.out.rel RA.out).c (j := 6) rfl;have b7 := (BW.out.rel RA.out).c (j := 7) rfl;have bl := (BW.out.rel RA.out).lt;clear hR hA hlt hk VY;go_wp2_with fail;clear b3 b4 b5 b6 b7 bl
       go_loopw [120] (fun i wx => ∃ k : Nat, k <= m.gr.length /\ i = .int .i64 k /\ Hid (allK grW m.gr k = true) /\ Hid (Rel WB wx)) (fun i _ => m.gr.length - (intOf i).toNat)
       case atStart => exact ⟨0, by omega, rfl, rfl, RA⟩
       case round =>
        obtain ⟨k, hk, rfl, hA, hR⟩ := hrel;by_cases hlt : k < m.gr.length
        ·have ki : (k : Int) < (m.gr.length : Int) := by omega
         obtain ⟨p, g, off, hp, hm, ha, hg, hc⟩ := row_k VB.out.r3 grC_len (by decide) hR.out hlt;have yes : Hid (grW p = true -> Hid (allK grW m.gr (k + 1) = true)) := fun h => by show _ = _; rw [allK_succ hp, hA.out, h]; rfl
         have no : Hid (grW p = false -> V = false) := fun h => by rw [VX.out, allK_no hp h]; (try rfl)
         rw [ha];obtain ⟨k0, ⟨t, x⟩, u, y⟩ := p;have hB := VB.out.b3 _ hm;obtain ⟨xa0, xc0, e0⟩ := kids_slice (kidsB_to hB.2.1.1);simp only at e0;subst e0;obtain ⟨xa1, xc1, e1⟩ := kids_slice (kidsB_to hB.2.2.1);simp only at e1;subst e1;have c0 := hc 0 _ rfl;have c1 := hc 1 _ rfl;have c2 := hc 2 _ rfl;have c3 := hc 3 _ rfl;have c4 := hc 4 _ rfl;have c5 := hc 5 _ rfl;have c6 := hc 6 _ rfl;have c7 := hc 7 _ rfl;have c8 := hc 8 _ rfl;have c9 := hc 9 _ rfl;have c10 := hc 10 _ rfl;have c11 := hc 11 _ rfl;have c12 := hc 12 _ rfl;simp only [Nat.add_zero] at c0
         have RX := Hj (hR.out.alloc (.cells #[.int .i64 k0, .int .i64 t.op, .int .i64 t.va, .int .i64 t.vb, .int .i64 t.dm, .string t.nm, .slice xa0 t.cnt xc0, .int .i64 u.op, .int .i64 u.va, .int .i64 u.vb, .int .i64 u.dm, .string u.nm, .slice xa1 u.cnt xc1] 64));have BB := Hj (Blk.new wr 64 #[.int .i64 k0, .int .i64 t.op, .int .i64 t.va, .int .i64 t.vb, .int .i64 t.dm, .string t.nm, .slice xa0 t.cnt xc0, .int .i64 u.op, .int .i64 u.va, .int .i64 u.vb, .int .i64 u.dm, .string u.nm, .slice xa1 u.cnt xc1]);obtain ⟨X, hX⟩ : ∃ X, wr.alloc (.cells #[.int .i64 k0, .int .i64 t.op, .int .i64 t.va, .int .i64 t.vb, .int .i64 t.dm, .string t.nm, .slice xa0 t.cnt xc0, .int .i64 u.op, .int .i64 u.va, .int .i64 u.vb, .int .i64 u.dm, .string u.nm, .slice xa1 u.cnt xc1] 64) = X := ⟨_, rfl⟩;rw [hX] at RX BB;have x0 := BB.out.c (j := 0) rfl;have x1 := BB.out.c (j := 1) rfl;have x2 := BB.out.c (j := 2) rfl;have x3 := BB.out.c (j := 3) rfl;have x4 := BB.out.c (j := 4) rfl;have x5 := BB.out.c (j := 5) rfl;have x6 := BB.out.c (j := 6) rfl;have x7 := BB.out.c (j := 7) rfl;have x8 := BB.out.c (j := 8) rfl;have x9 := BB.out.c (j := 9) rfl;have x10 := BB.out.c (j := 10) rfl;have x11 := BB.out.c (j := 11) rfl;have x12 := BB.out.c (j := 12) rfl;have xl := BB.out.lt
         have C0 := Hj fun w' (r : Rel X w') => ValidExpr_any t _ w' (kids_rel (kidsB_to hB.2.1.1) (RX.out.trans r)) (by have := hB.2.1.2; simp only at this; omega) (Hj (HT.out.rel (RX.out.trans r)))
         obtain ⟨Y0, hY0⟩ : ∃ b, t.valid = b := ⟨_, rfl⟩;rw [hY0] at C0;unfold BRes at C0;(try dsimp only at C0);have HY0 := Hj hY0;clear hY0
         have C1 := Hj fun w' (r : Rel X w') => ValidExpr_any u _ w' (kids_rel (kidsB_to hB.2.2.1) (RX.out.trans r)) (by have := hB.2.2.2; simp only at this; omega) (Hj (HT.out.rel (RX.out.trans r)))
         obtain ⟨Y1, hY1⟩ : ∃ b, u.valid = b := ⟨_, rfl⟩;rw [hY1] at C1;unfold BRes at C1;(try dsimp only at C1);have HY1 := Hj hY1;clear hY1
         obtain ⟨s, hs⟩ : ∃ s, (⟨(nmI benL k0).toArray⟩ : ByteArray) = s := ⟨_, rfl⟩;have hE := bw_of nm_ben hs;have HS := Hj hs;clear hs
         clear hp hc hm ha hB
         rcases (show s.toList.isEmpty = true \/ s.toList.isEmpty = false /\ (Y0 = false \/ Y0 = true /\ (Y1 = false \/ Y1 = true)) by cases s.toList.isEmpty <;> cases Y0 <;> cases Y1 <;> simp) with he | ⟨he, rfl | ⟨rfl, rfl | rfl⟩⟩
         all_goals
          rw [he] at hE;have HE := Hj hE;clear hE;go_wp2_with fail;(try rw [hX]);refine wrq [1, 2] 15 16 (fun w0 h0 => ?_);refine ao 0 (fun w1 h1 K' hK' => ?_);go_simp;refine (benefits_any w1).mono ?_;rintro e w2 ⟨gt, rfl, hT, h2⟩;have r2 := (h0.trans h1).trans h2;refine hK'.out _ _ (fun _ => r2) ?_;clear hK' K';refine ao 3 (fun w3 h3 K' hK' => ?_);go_simp;refine (byN_any benL 5 gt 5 k0 s w3 (hT.rel h3) rfl (by decide) HS.out).mono ?_;rintro e w4 ⟨rfl, h4⟩;have r4 := (r2.trans h3).trans h4;refine hK'.out _ _ (fun _ => r4) ?_;clear hK' K' h0 h1 h2 h3 h4 hT r2;refine wrm [4, 5, 6, 7, 8, 9, 10, 11, 12, 13, 14, 15] 1 16 (fun _ => r4) ?_;refine ao 16 (fun w5 h5 K' hK' => ?_);go_simp;refine hK'.out _ _ (mkd (by kernel_rfl)) ?_;clear hK' K';refine ae (fun Z h6 => ?_);have RZ := Hj (RX.out.trans ((r4.trans h5).trans h6));clear r4 h5 h6
          first
           | (go_wp2; go_ret; exact out.out (no.out (by unfold grW; simp only [HE.out, HY0.out, HY1.out]; (try simp))) RZ.out)
           | skip
         go_wp2
         go_roundw
         case rel => exact ⟨k + 1, by omega, by go_num, yes.out (by unfold grW; simp only [HE.out, HY0.out, HY1.out]; rfl), RZ⟩
         case measure => simp [intOf]; omega
        ·have ki : ¬ (k : Int) < (m.gr.length : Int) := by omega
         have VY : Hid (V = m.re.all reW) := by show _ = _; rw [VX.out, <- allK_full (f := grW) (L := m.gr) (k := k) (by omega), hA.out]; (try rfl)
         have RA := hR;clear VX;have VX := VY;have b3 := (BW.out.rel RA.out).c (j := 3) rfl;have b4 := (BW.out.rel RA.out).c (j := 4) rfl;have b5 := (BW.out.rel RA.out).c (j := 5) rfl;have b6 := (BW.out.rel RA.out).c (j := 6) rfl;have b7 := (BW.out.rel RA.out).c (j := 7) rfl;have bl := (BW.out.rel RA.out).lt;clear hR hA hlt hk VY;go_wp2_with fail;clear b3 b4 b5 b6 b7 bl
         go_loopw [145] (fun i wx => ∃ k : Nat, k <= m.re.length /\ i = .int .i64 k /\ Hid (allK reW m.re k = true) /\ Hid (Rel WB wx)) (fun i _ => m.re.length - (intOf i).toNat)
         case atStart => exact ⟨0, by omega, rfl, rfl, RA⟩
         case round =>
          obtain ⟨k, hk, rfl, hA, hR⟩ := hrel;by_cases hlt : k < m.re.length
          ·have ki : (k : Int) < (m.re.length : Int) := by omega
           obtain ⟨p, g, off, hp, hm, ha, hg, hc⟩ := row_k VB.out.r4 reC_len (by decide) hR.out hlt;have yes : Hid (reW p = true -> Hid (allK reW m.re (k + 1) = true)) := fun h => by show _ = _; rw [allK_succ hp, hA.out, h]; rfl
           have no : Hid (reW p = false -> V = false) := fun h => by rw [VX.out, allK_no hp h]; (try rfl)
           rw [ha];obtain ⟨k0, t, x⟩ := p;have hB := VB.out.b4 _ hm;obtain ⟨xa0, xc0, e0⟩ := kids_slice (kidsB_to hB.2.1);simp only at e0;subst e0;have c0 := hc 0 _ rfl;have c1 := hc 1 _ rfl;have c2 := hc 2 _ rfl;have c3 := hc 3 _ rfl;have c4 := hc 4 _ rfl;have c5 := hc 5 _ rfl;have c6 := hc 6 _ rfl;simp only [Nat.add_zero] at c0
           have RX := Hj (hR.out.alloc (.cells #[.int .i64 k0, .int .i64 t.op, .int .i64 t.va, .int .i64 t.vb, .int .i64 t.dm, .string t.nm, .slice xa0 t.cnt xc0] 66));have BB := Hj (Blk.new wr 66 #[.int .i64 k0, .int .i64 t.op, .int .i64 t.va, .int .i64 t.vb, .int .i64 t.dm, .string t.nm, .slice xa0 t.cnt xc0]);obtain ⟨X, hX⟩ : ∃ X, wr.alloc (.cells #[.int .i64 k0, .int .i64 t.op, .int .i64 t.va, .int .i64 t.vb, .int .i64 t.dm, .string t.nm, .slice xa0 t.cnt xc0] 66) = X := ⟨_, rfl⟩;rw [hX] at RX BB;have x0 := BB.out.c (j := 0) rfl;have x1 := BB.out.c (j := 1) rfl;have x2 := BB.out.c (j := 2) rfl;have x3 := BB.out.c (j := 3) rfl;have x4 := BB.out.c (j := 4) rfl;have x5 := BB.out.c (j := 5) rfl;have x6 := BB.out.c (j := 6) rfl;have xl := BB.out.lt
           have C0 := Hj fun w' (r : Rel X w') => ValidExpr_any t _ w' (kids_rel (kidsB_to hB.2.1) (RX.out.trans r)) (by have := hB.2.2; simp only at this; omega) (Hj (HT.out.rel (RX.out.trans r)))
           obtain ⟨Y0, hY0⟩ : ∃ b, t.valid = b := ⟨_, rfl⟩;rw [hY0] at C0;unfold BRes at C0;(try dsimp only at C0);have HY0 := Hj hY0;clear hY0
           obtain ⟨s, hs⟩ : ∃ s, (⟨(nmI benL k0).toArray⟩ : ByteArray) = s := ⟨_, rfl⟩;have hE := bw_of nm_ben hs;have HS := Hj hs;clear hs
           clear hp hc hm ha hB
           rcases (show s.toList.isEmpty = true \/ s.toList.isEmpty = false /\ (Y0 = false \/ Y0 = true) by cases s.toList.isEmpty <;> cases Y0 <;> simp) with he | ⟨he, rfl | rfl⟩
           all_goals
            rw [he] at hE;have HE := Hj hE;clear hE;go_wp2_with fail;(try rw [hX]);refine wrq [1, 2] 9 10 (fun w0 h0 => ?_);refine ao 0 (fun w1 h1 K' hK' => ?_);go_simp;refine (benefits_any w1).mono ?_;rintro e w2 ⟨gt, rfl, hT, h2⟩;have r2 := (h0.trans h1).trans h2;refine hK'.out _ _ (fun _ => r2) ?_;clear hK' K';refine ao 3 (fun w3 h3 K' hK' => ?_);go_simp;refine (byN_any benL 5 gt 5 k0 s w3 (hT.rel h3) rfl (by decide) HS.out).mono ?_;rintro e w4 ⟨rfl, h4⟩;have r4 := (r2.trans h3).trans h4;refine hK'.out _ _ (fun _ => r4) ?_;clear hK' K' h0 h1 h2 h3 h4 hT r2;refine wrm [4, 5, 6, 7, 8, 9] 1 10 (fun _ => r4) ?_;refine ao 10 (fun w5 h5 K' hK' => ?_);go_simp;refine hK'.out _ _ (mkd (by kernel_rfl)) ?_;clear hK' K';refine ae (fun Z h6 => ?_);have RZ := Hj (RX.out.trans ((r4.trans h5).trans h6));clear r4 h5 h6
            first
             | (go_wp2; go_ret; exact out.out (no.out (by unfold reW; simp only [HE.out, HY0.out]; (try simp))) RZ.out)
             | skip
           go_wp2
           go_roundw
           case rel => exact ⟨k + 1, by omega, by go_num, yes.out (by unfold reW; simp only [HE.out, HY0.out]; rfl), RZ⟩
           case measure => simp [intOf]; omega
          ·have ki : ¬ (k : Int) < (m.re.length : Int) := by omega
           have VY : Hid (V = true) := by show _ = _; rw [VX.out, <- allK_full (f := reW) (L := m.re) (k := k) (by omega), hA.out]; (try rfl)
           have RA := hR;clear VX;have VX := VY;have b3 := (BW.out.rel RA.out).c (j := 3) rfl;have b4 := (BW.out.rel RA.out).c (j := 4) rfl;have b5 := (BW.out.rel RA.out).c (j := 5) rfl;have b6 := (BW.out.rel RA.out).c (j := 6) rfl;have b7 := (BW.out.rel RA.out).c (j := 7) rfl;have bl := (BW.out.rel RA.out).lt;clear hR hA hlt hk VY;go_wp2;go_ret;exact out.out VX.out RA.out
end Go.Proofs.YthmlhheceihcbaaGreatDoor

/- Lemmas, each as it is printed; no conditions but those printed. -/
import Derived.Test.YtojghojlapgbiaaGreatDoorWB26
import Derived.Test.YtojghojlapgbiaaGreatDoorWB21
namespace Go.Proofs.YtojghojlapgbiaaGreatDoor
set_option maxHeartbeats 16000000
open Go.RowKit Cal Str Tok Frac Txt Tree
attribute [local go_sem] calmUpon
set_option linter.unusedVariables false
set_option linter.unusedSimpArgs false
theorem bw_of {l : List (List UInt8 × Int)} {lo hi : Int} (H : ∀ z, (nmI l z == []) = !(decide (lo ≤ z) && decide (z ≤ hi))) {z : Int} {s : ByteArray} (h : (⟨(nmI l z).toArray⟩ : ByteArray) = s) : bwB lo hi z = !s.toList.isEmpty := by
 subst h;rw [Lib.toList_data];have := H z;unfold bwB
 cases hh : nmI l z with
 | nil => rw [hh] at this; simp at this ⊢; omega
 | cons a b => rw [hh] at this; simpa using this
def leW (p : ByteArray × (Ex × Value)) : Bool := namB p.1 && p.2.1.valid
def grW (p : Int × (Ex × Value) × (Ex × Value)) : Bool := bwB 1 5 p.1 && (p.2.1.1.valid && p.2.2.1.valid)
def reW (p : Int × (Ex × Value)) : Bool := bwB 1 5 p.1 && p.2.1.valid
theorem verM_valid (m : VerM) : m.pl.valid = ((bwB 0 73048 m.frm && (bwB 1 4 m.mode && bwB 1 100000 m.unit)) &&
 (((decide (m.cr.length ≤ 6) && decide (m.se.length ≤ 20)) && (decide (m.le.length ≤ 10) && (decide (m.gr.length ≤ 5) && decide (m.re.length ≤ 5)))) &&
 (m.cr.all crV && (m.se.all seV && (m.le.all leW && (m.gr.all grW && m.re.all reW)))))) := by
 unfold VerM.pl Ver.valid;simp only [List.length_map, List.all_map];rfl
theorem byN_any (l : List (List UInt8 × Int)) (n g c : Nat) (z : Int) (s : ByteArray) (w : World) (hT : TabAt w g l) (hn : l.length = n) (hl : n ≤ 100) (hs : (⟨(nmI l z).toArray⟩ : ByteArray) = s) :
  Calls Tryz.prog 52 #[.slice (some ⟨g, 0, none⟩) n c, .int .i64 z] w fun e w' => e = .returned (.string s) ∧ Rel w w' := by
 subst hn hs;exact byNumber_any l g c z w hT hl
set_option maxRecDepth 20000 in
theorem vversion_any (m : VerM) (w : World) (hV : VerAt w m) (ht : TabW w) : Calls Tryz.prog 21 #[m.val] w (BRes m.pl.valid w) := by
 have VV := Hj (verM_valid m);obtain ⟨V, hVV⟩ : ∃ v, m.pl.valid = v := ⟨_, rfl⟩;rw [hVV] at VV ⊢;clear hVV;obtain ⟨frm, mode, unit, cr, se, le, gr, re, ca, sa, la, ga, ra, cc, sc, lc, gc, rc⟩ := m;have n0 : cr.length ≤ 100000 := hV.n0;have n1 : se.length ≤ 100000 := hV.n1;have n2 : le.length ≤ 100000 := hV.n2;have n3 : gr.length ≤ 100000 := hV.n3;have n4 : re.length ≤ 100000 := hV.n4;obtain ⟨WB, hWB⟩ : ∃ X, w.alloc (.cells #[.int .i64 frm, .int .i64 mode, .int .i64 unit, .slice ca cr.length cc, .slice sa se.length sc, .slice la le.length lc, .slice ga gr.length gc, .slice ra re.length rc] 36) = X := ⟨_, rfl⟩;have R0 : Hid (Rel w WB) := by show Rel _ _; rw [← hWB]; exact (Rel.refl w).alloc _
 have BW : Hid (Blk WB w.heap.size 36 [.int .i64 frm, .int .i64 mode, .int .i64 unit, .slice ca cr.length cc, .slice sa se.length sc, .slice la le.length lc, .slice ga gr.length gc, .slice ra re.length rc]) := by show Blk _ _ _ _; rw [← hWB]; exact Blk.new w _ #[.int .i64 frm, .int .i64 mode, .int .i64 unit, .slice ca cr.length cc, .slice sa se.length sc, .slice la le.length lc, .slice ga gr.length gc, .slice ra re.length rc]
 have ROWC : Hid (0 < cr.length → ∃ g off, ca = some ⟨g, off, none⟩ ∧ g < WB.heap.size ∧ True ∧ ∀ i p, cr[i]? = some p → ∀ j u, (crC p)[j]? = some u → WB.cell? ⟨g, off + i * 2 + j, none⟩ = some u) := fun h => row_open (hV.r0.keep (Below.size R0.out) (fun q hq hp => ⟨Below.block R0.out q hq, hp⟩)) crC_len (by decide) h
 have ROWS : Hid (0 < se.length → ∃ g off, sa = some ⟨g, off, none⟩ ∧ g < WB.heap.size ∧ True ∧ ∀ i p, se[i]? = some p → ∀ j u, (seC p)[j]? = some u → WB.cell? ⟨g, off + i * 3 + j, none⟩ = some u) := fun h => row_open (hV.r1.keep (Below.size R0.out) (fun q hq hp => ⟨Below.block R0.out q hq, hp⟩)) seC_len (by decide) h
 have ROWL : Hid (0 < le.length → ∃ g off, la = some ⟨g, off, none⟩ ∧ g < WB.heap.size ∧ True ∧ ∀ i p, le[i]? = some p → ∀ j u, (leC p)[j]? = some u → WB.cell? ⟨g, off + i * 7 + j, none⟩ = some u) := fun h => row_open (hV.r2.keep (Below.size R0.out) (fun q hq hp => ⟨Below.block R0.out q hq, hp⟩)) leC_len (by decide) h
 have ROWG : Hid (0 < gr.length → ∃ g off, ga = some ⟨g, off, none⟩ ∧ g < WB.heap.size ∧ True ∧ ∀ i p, gr[i]? = some p → ∀ j u, (grC p)[j]? = some u → WB.cell? ⟨g, off + i * 13 + j, none⟩ = some u) := fun h => row_open (hV.r3.keep (Below.size R0.out) (fun q hq hp => ⟨Below.block R0.out q hq, hp⟩)) grC_len (by decide) h
 have ROWR : Hid (0 < re.length → ∃ g off, ra = some ⟨g, off, none⟩ ∧ g < WB.heap.size ∧ True ∧ ∀ i p, re[i]? = some p → ∀ j u, (reC p)[j]? = some u → WB.cell? ⟨g, off + i * 7 + j, none⟩ = some u) := fun h => row_open (hV.r4.keep (Below.size R0.out) (fun q hq hp => ⟨Below.block R0.out q hq, hp⟩)) reC_len (by decide) h
 have ISB := Hj hV.b1;have TLB : Hid (∀ p ∈ le, LeB (fun _ => True) WB p) := fun p hp => ⟨(hV.b2 p hp).1, (hV.b2 p hp).2.rel R0.out⟩
 have TGB : Hid (∀ p ∈ gr, GrB (fun _ => True) WB p) := fun p hp => ⟨(hV.b3 p hp).1, (hV.b3 p hp).2.1.rel R0.out, (hV.b3 p hp).2.2.rel R0.out⟩
 have TRB : Hid (∀ p ∈ re, ReB (fun _ => True) WB p) := fun p hp => ⟨(hV.b4 p hp).1, (hV.b4 p hp).2.rel R0.out⟩
 have HT := Hj (ht.rel R0.out);unfold VerM.val;dsimp only at VV ⊢;unfold BRes;obtain ⟨nc, hnc⟩ : ∃ n, cr.length = n := ⟨_, rfl⟩;obtain ⟨ns, hns⟩ : ∃ n, se.length = n := ⟨_, rfl⟩;obtain ⟨nl, hnl⟩ : ∃ n, le.length = n := ⟨_, rfl⟩;obtain ⟨ng, hng⟩ : ∃ n, gr.length = n := ⟨_, rfl⟩;obtain ⟨nr, hnr⟩ : ∃ n, re.length = n := ⟨_, rfl⟩;rw [hnc] at n0 ROWC;rw [hns] at n1 ROWS;rw [hnl] at n2 ROWL;rw [hng] at n3 ROWG;rw [hnr] at n4 ROWR;rw [hnc, hns, hnl, hng, hnr] at hWB BW VV ⊢;have HNC := Hj hnc;have HNS := Hj hns;have HNL := Hj hnl;have HNG := Hj hng;have HNR := Hj hnr;obtain ⟨D, hD⟩ : ∃ D, bwB 0 73048 frm = D := ⟨_, rfl⟩;have VD := Hj fun w => vday_any frm w
 rw [hD] at VD VV;unfold BRes at VD;obtain ⟨s, hs⟩ : ∃ s, (⟨(nmI modL mode).toArray⟩ : ByteArray) = s := ⟨_, rfl⟩;have hE := bw_of nm_mod hs;obtain ⟨E, hE2⟩ : ∃ E, s.toList.isEmpty = E := ⟨_, rfl⟩;rw [hE2] at hE;rw [hE] at VV;have HSm := Hj hs;have b0 := BW.out.c (j := 0) rfl;have b1 := BW.out.c (j := 1) rfl;have b2 := BW.out.c (j := 2) rfl;have b3 := BW.out.c (j := 3) rfl;have b4 := BW.out.c (j := 4) rfl;have b5 := BW.out.c (j := 5) rfl;have b6 := BW.out.c (j := 6) rfl;have b7 := BW.out.c (j := 7) rfl;have bl := BW.out.lt;clear hV hnc hns hnl hng hnr ht hD hs hE;go_enter Tryz.func21, Tryz.ntmps21;go_upto_region 1 with (fail);(try rw [hWB]);cases D
 ·have fin : Hid (V = false) := by show _ = _; rw [VV.out]; simp
  clear hE2;refine wp_region_calm (fun _ w' => w'.cell? ⟨w.heap.size, 0, none⟩ = some (.int .i64 frm) ∧ w'.cell? ⟨w.heap.size, 1, none⟩ = some (.int .i64 mode) ∧ w'.cell? ⟨w.heap.size, 2, none⟩ = some (.int .i64 unit)) (fun _ => false) [0, 1, 2, 3, 4, 5, 6, 7, 8, 9, 10, 11, 12, 13, 14, 15, 16, 17, 18, 19, 20, 21, 22, 23] 0 (by kernel_rfl) (by kernel_rfl) ?hst ?hS0 (fun w0 h0 => ?_)
  case hst => exact fun _ _ _ h r => ⟨r.cell h.1, r.cell h.2.1, r.cell h.2.2⟩
  case hS0 => exact ⟨b0, b1, b2⟩
  iterate 2
   refine wpCalm_go rfl (by kernel_rfl) (fun K hK => ?_);apply Exists.intro;refine ⟨fun M w hM hS => ?_, hK _ ?_⟩
   ·have d0 := hS.1;have d1 := hS.2.1;have d2 := hS.2.2;unfold calmAt;go_simp;exact ⟨rfl, Rel.refl _⟩
   clear hK K
  refine wpCalm_go rfl (by kernel_rfl) (fun K hK => ?_);apply Exists.intro;refine ⟨fun M w hM hS => ?_, hK _ ?_⟩
  ·unfold calmAt;go_simp
   with_reducible refine (VD.out _).mono ?_
   rintro e w1 ⟨rfl, hb⟩;exact ⟨rfl, hb⟩
  clear hK K
  iterate 2
   refine wpCalm_go rfl (by kernel_rfl) (fun K hK => ?_);apply Exists.intro;refine ⟨fun M w hM hS => ?_, hK _ ?_⟩
   ·have d0 := hS.1;have d1 := hS.2.1;have d2 := hS.2.2;unfold calmAt;go_simp;exact ⟨rfl, Rel.refl _⟩
   clear hK K
  iterate 6 (refine wpCalm_no rfl (by kernel_rfl) (fun K hK => hK _ ?_); clear hK K)
  iterate 2
   refine wpCalm_go rfl (by kernel_rfl) (fun K hK => ?_);apply Exists.intro;refine ⟨fun M w hM hS => ?_, hK _ ?_⟩
   ·have d0 := hS.1;have d1 := hS.2.1;have d2 := hS.2.2;unfold calmAt;go_simp;exact ⟨rfl, Rel.refl _⟩
   clear hK K
  iterate 4 (refine wpCalm_no rfl (by kernel_rfl) (fun K hK => hK _ ?_); clear hK K)
  iterate 2
   refine wpCalm_go rfl (by kernel_rfl) (fun K hK => ?_);apply Exists.intro;refine ⟨fun M w hM hS => ?_, hK _ ?_⟩
   ·have d0 := hS.1;have d1 := hS.2.1;have d2 := hS.2.2;unfold calmAt;go_simp;exact ⟨rfl, Rel.refl _⟩
   clear hK K
  iterate 4 (refine wpCalm_no rfl (by kernel_rfl) (fun K hK => hK _ ?_); clear hK K)
  iterate 1
   refine wpCalm_go rfl (by kernel_rfl) (fun K hK => ?_);apply Exists.intro;refine ⟨fun M w hM hS => ?_, hK _ ?_⟩
   ·have d0 := hS.1;have d1 := hS.2.1;have d2 := hS.2.2;unfold calmAt;go_simp;exact ⟨rfl, Rel.refl _⟩
   clear hK K
  refine wpCalm_nil (wpAnyR_end (by kernel_rfl) (fun w1 h1 => ?_));simp only [Act.put, zla, zlb, zlc];have R2 : Hid (Rel WB w1) := h0.trans h1;clear h1;go_wp2;go_ret;exact ⟨ret_b2 fin.out.symm, R0.out.trans R2.out⟩
 ·cases E
  ·have SB := Hj fun z w => vday_any z w
   by_cases hu1 : unit < 1
   ·have eu1 : decide (unit < 1) = true := decide_eq_true hu1
    have fin : Hid (V = false) := by
     show _ = _
     rw [VV.out]; unfold bwB; rw [dF (show ¬ 1 ≤ unit by omega)]; simp
    refine wp_region_calm (fun _ w' => w'.cell? ⟨w.heap.size, 0, none⟩ = some (.int .i64 frm) ∧ w'.cell? ⟨w.heap.size, 1, none⟩ = some (.int .i64 mode) ∧ w'.cell? ⟨w.heap.size, 2, none⟩ = some (.int .i64 unit)) (fun _ => false) [0, 1, 2, 3, 4, 6, 7, 8] 16 (by kernel_rfl) (by kernel_rfl) ?hst ?hS0 (fun w0 h0 => ?_)
    case hst => exact fun _ _ _ h r => ⟨r.cell h.1, r.cell h.2.1, r.cell h.2.2⟩
    case hS0 => exact ⟨b0, b1, b2⟩
    iterate 2
     refine wpCalm_go rfl (by kernel_rfl) (fun K hK => ?_);apply Exists.intro;refine ⟨fun M w hM hS => ?_, hK _ ?_⟩
     ·have d0 := hS.1;have d1 := hS.2.1;have d2 := hS.2.2;unfold calmAt;go_simp;exact ⟨rfl, Rel.refl _⟩
     clear hK K
    refine wpCalm_go rfl (by kernel_rfl) (fun K hK => ?_);apply Exists.intro;refine ⟨fun M w hM hS => ?_, hK _ ?_⟩
    ·unfold calmAt;go_simp
     with_reducible refine (VD.out _).mono ?_
     rintro e w1 ⟨rfl, hb⟩;exact ⟨rfl, hb⟩
    clear hK K
    iterate 5
     refine wpCalm_go rfl (by kernel_rfl) (fun K hK => ?_);apply Exists.intro;refine ⟨fun M w hM hS => ?_, hK _ ?_⟩
     ·have d0 := hS.1;have d1 := hS.2.1;have d2 := hS.2.2;unfold calmAt;go_simp;exact ⟨rfl, Rel.refl _⟩
     clear hK K
    refine wpCalm_nil ?_;have H0 := Hj h0;clear h0;refine wpAnyR_ready (rs := [5]) (by kernel_rfl) (by simp) (AllR.cons rfl (fun w6 h6 K' hK' => ?_) AllR.nil);go_simp;refine (modes_any w6).mono ?_;rintro e w7 ⟨gt, rfl, hT, h7⟩;have R7 := Hj ((H0.out.trans h6).trans h7);have HTt := Hj hT;clear h6 h7 hT;refine hK'.out _ _ ⟨R7.out.cell b0, R7.out.cell b1, R7.out.cell b2⟩ ?_;clear hK' K';refine wpAnyR_ready (rs := [9]) (by kernel_rfl) (by simp) (AllR.cons rfl (fun w8 h8 K' hK' => ?_) AllR.nil);go_simp;refine (byN_any modL 4 gt 4 mode _ w8 (HTt.out.rel h8) rfl (by decide) HSm.out).mono ?_;rintro e w9 ⟨rfl, h9⟩;have R9 := Hj ((R7.out.trans h8).trans h9);clear h8 h9 HTt;refine hK'.out _ _ ⟨R9.out.cell b0, R9.out.cell b1, R9.out.cell b2⟩ ?_;clear hK' K';refine wpAnyR_more [10, 11, 12, 13, 14, 15, 16, 17, 18, 19, 20, 21, 22, 23] 0 (by kernel_rfl) (fun _ _ _ h r => ⟨r.cell h.1, r.cell h.2.1, r.cell h.2.2⟩) ⟨R9.out.cell b0, R9.out.cell b1, R9.out.cell b2⟩ ?_
    iterate 9
     refine wpCalm_go rfl (by kernel_rfl) (fun K hK => ?_);apply Exists.intro;refine ⟨fun M w hM hS => ?_, hK _ ?_⟩
     ·have d0 := hS.1;have d1 := hS.2.1;have d2 := hS.2.2;unfold calmAt;go_simp;exact ⟨rfl, Rel.refl _⟩
     clear hK K
    iterate 4 (refine wpCalm_no rfl (by kernel_rfl) (fun K hK => hK _ ?_); clear hK K)
    iterate 1
     refine wpCalm_go rfl (by kernel_rfl) (fun K hK => ?_);apply Exists.intro;refine ⟨fun M w hM hS => ?_, hK _ ?_⟩
     ·have d0 := hS.1;have d1 := hS.2.1;have d2 := hS.2.2;unfold calmAt;go_simp;exact ⟨rfl, Rel.refl _⟩
     clear hK K
    refine wpCalm_nil (wpAnyR_end (by kernel_rfl) (fun w1 h1 => ?_));simp only [Act.put, zla, zlb, zlc];have R2 : Hid (Rel WB w1) := R9.out.trans h1;clear h1;go_wp2;go_ret;exact ⟨ret_b2 fin.out.symm, R0.out.trans R2.out⟩
   ·have eu1 : decide (unit < 1) = false := decide_eq_false hu1;by_cases hu2 : 100000 < unit
    ·have eu2 : decide (100000 < unit) = true := decide_eq_true hu2
     have fin : Hid (V = false) := by
      show _ = _
      rw [VV.out]; unfold bwB; rw [dF (show ¬ unit ≤ 100000 by omega)]; simp
     refine wp_region_calm (fun _ w' => w'.cell? ⟨w.heap.size, 0, none⟩ = some (.int .i64 frm) ∧ w'.cell? ⟨w.heap.size, 1, none⟩ = some (.int .i64 mode) ∧ w'.cell? ⟨w.heap.size, 2, none⟩ = some (.int .i64 unit)) (fun _ => false) [0, 1, 2, 3, 4, 6, 7, 8] 16 (by kernel_rfl) (by kernel_rfl) ?hst ?hS0 (fun w0 h0 => ?_)
     case hst => exact fun _ _ _ h r => ⟨r.cell h.1, r.cell h.2.1, r.cell h.2.2⟩
     case hS0 => exact ⟨b0, b1, b2⟩
     iterate 2
      refine wpCalm_go rfl (by kernel_rfl) (fun K hK => ?_);apply Exists.intro;refine ⟨fun M w hM hS => ?_, hK _ ?_⟩
      ·have d0 := hS.1;have d1 := hS.2.1;have d2 := hS.2.2;unfold calmAt;go_simp;exact ⟨rfl, Rel.refl _⟩
      clear hK K
     refine wpCalm_go rfl (by kernel_rfl) (fun K hK => ?_);apply Exists.intro;refine ⟨fun M w hM hS => ?_, hK _ ?_⟩
     ·unfold calmAt;go_simp
      with_reducible refine (VD.out _).mono ?_
      rintro e w1 ⟨rfl, hb⟩;exact ⟨rfl, hb⟩
     clear hK K
     iterate 5
      refine wpCalm_go rfl (by kernel_rfl) (fun K hK => ?_);apply Exists.intro;refine ⟨fun M w hM hS => ?_, hK _ ?_⟩
      ·have d0 := hS.1;have d1 := hS.2.1;have d2 := hS.2.2;unfold calmAt;go_simp;exact ⟨rfl, Rel.refl _⟩
      clear hK K
     refine wpCalm_nil ?_;have H0 := Hj h0;clear h0;refine wpAnyR_ready (rs := [5]) (by kernel_rfl) (by simp) (AllR.cons rfl (fun w6 h6 K' hK' => ?_) AllR.nil);go_simp;refine (modes_any w6).mono ?_;rintro e w7 ⟨gt, rfl, hT, h7⟩;have R7 := Hj ((H0.out.trans h6).trans h7);have HTt := Hj hT;clear h6 h7 hT;refine hK'.out _ _ ⟨R7.out.cell b0, R7.out.cell b1, R7.out.cell b2⟩ ?_;clear hK' K';refine wpAnyR_ready (rs := [9]) (by kernel_rfl) (by simp) (AllR.cons rfl (fun w8 h8 K' hK' => ?_) AllR.nil);go_simp;refine (byN_any modL 4 gt 4 mode _ w8 (HTt.out.rel h8) rfl (by decide) HSm.out).mono ?_;rintro e w9 ⟨rfl, h9⟩;have R9 := Hj ((R7.out.trans h8).trans h9);clear h8 h9 HTt;refine hK'.out _ _ ⟨R9.out.cell b0, R9.out.cell b1, R9.out.cell b2⟩ ?_;clear hK' K';refine wpAnyR_more [10, 11, 12, 13, 14, 15, 16, 17, 18, 19, 20, 21, 22, 23] 0 (by kernel_rfl) (fun _ _ _ h r => ⟨r.cell h.1, r.cell h.2.1, r.cell h.2.2⟩) ⟨R9.out.cell b0, R9.out.cell b1, R9.out.cell b2⟩ ?_
     iterate 14
      refine wpCalm_go rfl (by kernel_rfl) (fun K hK => ?_);apply Exists.intro;refine ⟨fun M w hM hS => ?_, hK _ ?_⟩
      ·have d0 := hS.1;have d1 := hS.2.1;have d2 := hS.2.2;unfold calmAt;go_simp;exact ⟨rfl, Rel.refl _⟩
      clear hK K
     refine wpCalm_nil (wpAnyR_end (by kernel_rfl) (fun w1 h1 => ?_));simp only [Act.put, zla, zlb, zlc];have R2 : Hid (Rel WB w1) := R9.out.trans h1;clear h1;go_wp2;go_ret;exact ⟨ret_b2 fin.out.symm, R0.out.trans R2.out⟩
    ·have eu2 : decide (100000 < unit) = false := decide_eq_false hu2
     have VV1 : Hid (V = (((decide (nc ≤ 6) && decide (ns ≤ 20)) && (decide (nl ≤ 10) && (decide (ng ≤ 5) && decide (nr ≤ 5)))) && (cr.all crV && (se.all seV && (le.all leW && (gr.all grW && re.all reW)))))) := by
      show _ = _
      rw [VV.out]; unfold bwB; rw [dT (show 1 ≤ unit by omega), dT (show unit ≤ 100000 by omega)]; simp
     refine wp_region_calm (fun _ w' => w'.cell? ⟨w.heap.size, 0, none⟩ = some (.int .i64 frm) ∧ w'.cell? ⟨w.heap.size, 1, none⟩ = some (.int .i64 mode) ∧ w'.cell? ⟨w.heap.size, 2, none⟩ = some (.int .i64 unit)) (fun _ => false) [0, 1, 2, 3, 4, 6, 7, 8] 16 (by kernel_rfl) (by kernel_rfl) ?hst ?hS0 (fun w0 h0 => ?_)
     case hst => exact fun _ _ _ h r => ⟨r.cell h.1, r.cell h.2.1, r.cell h.2.2⟩
     case hS0 => exact ⟨b0, b1, b2⟩
     iterate 2
      refine wpCalm_go rfl (by kernel_rfl) (fun K hK => ?_);apply Exists.intro;refine ⟨fun M w hM hS => ?_, hK _ ?_⟩
      ·have d0 := hS.1;have d1 := hS.2.1;have d2 := hS.2.2;unfold calmAt;go_simp;exact ⟨rfl, Rel.refl _⟩
      clear hK K
     refine wpCalm_go rfl (by kernel_rfl) (fun K hK => ?_);apply Exists.intro;refine ⟨fun M w hM hS => ?_, hK _ ?_⟩
     ·unfold calmAt;go_simp
      with_reducible refine (VD.out _).mono ?_
      rintro e w1 ⟨rfl, hb⟩;exact ⟨rfl, hb⟩
     clear hK K
     iterate 5
      refine wpCalm_go rfl (by kernel_rfl) (fun K hK => ?_);apply Exists.intro;refine ⟨fun M w hM hS => ?_, hK _ ?_⟩
      ·have d0 := hS.1;have d1 := hS.2.1;have d2 := hS.2.2;unfold calmAt;go_simp;exact ⟨rfl, Rel.refl _⟩
      clear hK K
     refine wpCalm_nil ?_;have H0 := Hj h0;clear h0;refine wpAnyR_ready (rs := [5]) (by kernel_rfl) (by simp) (AllR.cons rfl (fun w6 h6 K' hK' => ?_) AllR.nil);go_simp;refine (modes_any w6).mono ?_;rintro e w7 ⟨gt, rfl, hT, h7⟩;have R7 := Hj ((H0.out.trans h6).trans h7);have HTt := Hj hT;clear h6 h7 hT;refine hK'.out _ _ ⟨R7.out.cell b0, R7.out.cell b1, R7.out.cell b2⟩ ?_;clear hK' K';refine wpAnyR_ready (rs := [9]) (by kernel_rfl) (by simp) (AllR.cons rfl (fun w8 h8 K' hK' => ?_) AllR.nil);go_simp;refine (byN_any modL 4 gt 4 mode _ w8 (HTt.out.rel h8) rfl (by decide) HSm.out).mono ?_;rintro e w9 ⟨rfl, h9⟩;have R9 := Hj ((R7.out.trans h8).trans h9);clear h8 h9 HTt;refine hK'.out _ _ ⟨R9.out.cell b0, R9.out.cell b1, R9.out.cell b2⟩ ?_;clear hK' K';refine wpAnyR_more [10, 11, 12, 13, 14, 15, 16, 17, 18, 19, 20, 21, 22, 23] 0 (by kernel_rfl) (fun _ _ _ h r => ⟨r.cell h.1, r.cell h.2.1, r.cell h.2.2⟩) ⟨R9.out.cell b0, R9.out.cell b1, R9.out.cell b2⟩ ?_
     iterate 14
      refine wpCalm_go rfl (by kernel_rfl) (fun K hK => ?_);apply Exists.intro;refine ⟨fun M w hM hS => ?_, hK _ ?_⟩
      ·have d0 := hS.1;have d1 := hS.2.1;have d2 := hS.2.2;unfold calmAt;go_simp;exact ⟨rfl, Rel.refl _⟩
      clear hK K
     refine wpCalm_nil (wpAnyR_end (by kernel_rfl) (fun w1 h1 => ?_));simp only [Act.put, zla, zlb, zlc];have R2 : Hid (Rel WB w1) := R9.out.trans h1;clear h1;clear VV hu1 hu2 eu1 eu2 R9 R7 b0 b1 b2 b3 b4 b5 b6 b7 bl hWB hE2 HSm VD;obtain ⟨wA, hwA⟩ : ∃ x, x = w1 := ⟨_, rfl⟩;subst hwA;have R1 := R2;clear R2;have b3 := (BW.out.rel R1.out).c (j := 3) rfl;have b4 := (BW.out.rel R1.out).c (j := 4) rfl;have b5 := (BW.out.rel R1.out).c (j := 5) rfl;have b6 := (BW.out.rel R1.out).c (j := 6) rfl;have b7 := (BW.out.rel R1.out).c (j := 7) rfl;have bl := (BW.out.rel R1.out).lt;by_cases hnc : 6 < nc
     ·have e1 : decide ((6 : Int) < (nc : Int)) = true := dT (by omega);have e2 : (6 : Int) < (nc : Int) := by omega
      have fin : Hid (V = false) := by
       show _ = _
       rw [VV1.out, dF (show ¬ nc ≤ 6 by omega)]; simp
      go_wp2;go_ret;exact ⟨ret_b2 fin.out.symm, R0.out.trans R1.out⟩
     ·have e1nc : decide ((6 : Int) < (nc : Int)) = false := dF (by omega);have e2nc : ¬ (6 : Int) < (nc : Int) := by omega
      by_cases hns : 20 < ns
      ·have e1 : decide ((20 : Int) < (ns : Int)) = true := dT (by omega);have e2 : (20 : Int) < (ns : Int) := by omega
       have fin : Hid (V = false) := by
        show _ = _
        rw [VV1.out, dF (show ¬ ns ≤ 20 by omega)]; simp
       go_wp2;go_ret;exact ⟨ret_b2 fin.out.symm, R0.out.trans R1.out⟩
      ·have e1ns : decide ((20 : Int) < (ns : Int)) = false := dF (by omega);have e2ns : ¬ (20 : Int) < (ns : Int) := by omega
       by_cases hnl : 10 < nl
       ·have e1 : decide ((10 : Int) < (nl : Int)) = true := dT (by omega);have e2 : (10 : Int) < (nl : Int) := by omega
        have fin : Hid (V = false) := by
         show _ = _
         rw [VV1.out, dF (show ¬ nl ≤ 10 by omega)]; simp
        go_wp2;go_ret;exact ⟨ret_b2 fin.out.symm, R0.out.trans R1.out⟩
       ·have e1nl : decide ((10 : Int) < (nl : Int)) = false := dF (by omega);have e2nl : ¬ (10 : Int) < (nl : Int) := by omega
        by_cases hng : 5 < ng
        ·have e1 : decide ((5 : Int) < (ng : Int)) = true := dT (by omega);have e2 : (5 : Int) < (ng : Int) := by omega
         have fin : Hid (V = false) := by
          show _ = _
          rw [VV1.out, dF (show ¬ ng ≤ 5 by omega)]; simp
         go_wp2;go_ret;exact ⟨ret_b2 fin.out.symm, R0.out.trans R1.out⟩
        ·have e1ng : decide ((5 : Int) < (ng : Int)) = false := dF (by omega);have e2ng : ¬ (5 : Int) < (ng : Int) := by omega
         by_cases hnr : 5 < nr
         ·have e1 : decide ((5 : Int) < (nr : Int)) = true := dT (by omega);have e2 : (5 : Int) < (nr : Int) := by omega
          have fin : Hid (V = false) := by
           show _ = _
           rw [VV1.out, dF (show ¬ nr ≤ 5 by omega)]; simp
          go_wp2;go_ret;exact ⟨ret_b2 fin.out.symm, R0.out.trans R1.out⟩
         ·have e1nr : decide ((5 : Int) < (nr : Int)) = false := dF (by omega);have e2nr : ¬ (5 : Int) < (nr : Int) := by omega
          have VV2 : Hid (V = (cr.all crV && (se.all seV && (le.all leW && (gr.all grW && re.all reW))))) := by
           show _ = _
           rw [VV1.out, dT (show nc ≤ 6 by omega), dT (show ns ≤ 20 by omega), dT (show nl ≤ 10 by omega), dT (show ng ≤ 5 by omega), dT (show nr ≤ 5 by omega)]; simp
          clear VV1;go_wp2_with fail
          go_loopw [68] (fun i wx => ∃ k : Nat, k ≤ nc ∧ i = .int .i64 k ∧ Hid (allK crV cr k = true) ∧ Hid (Rel wA wx)) (fun i _ => nc - (intOf i).toNat)
          case atStart => exact ⟨0, by omega, rfl, rfl, Rel.refl _⟩
          case round =>
           obtain ⟨k, hk, rfl, hA, hR⟩ := hrel;by_cases hlt : k < nc
           ·skip
            have ki : (k : Int) < (nc : Int) := by omega
            obtain ⟨g, off, rfl, hg, -, hc⟩ := ROWC.out (by omega);obtain ⟨p, hp⟩ : ∃ p, cr[k]? = some p := get_some (by rw [HNC.out]; exact hlt);obtain ⟨k0, l0⟩ := p;have HP := Hj hp;have c0 := (R1.out.trans hR.out).cell (hc k _ hp 0 _ rfl);have c1 := (R1.out.trans hR.out).cell (hc k _ hp 1 _ rfl);simp only [Nat.add_zero] at c0;have hg2 := (R1.out.trans hR.out).lt hg;obtain ⟨X, hX⟩ : ∃ X, wr.alloc (.cells #[.int .i64 k0, .int .i64 l0] 38) = X := ⟨_, rfl⟩;have RX : Hid (Rel wr X) := by show Rel _ _; rw [← hX]; exact (Rel.refl wr).alloc _
            have BX : Hid (Blk X wr.heap.size 38 [.int .i64 k0, .int .i64 l0]) := by show Blk _ _ _ _; rw [← hX]; exact Blk.new wr _ #[.int .i64 k0, .int .i64 l0]
            clear hp hc;have x0 := BX.out.c (j := 0) rfl;have x1 := BX.out.c (j := 1) rfl;have xl := BX.out.lt;obtain ⟨s, hs⟩ : ∃ s, (⟨(nmI kndL k0).toArray⟩ : ByteArray) = s := ⟨_, rfl⟩;have hE := Hj (bw_of nm_knd hs);obtain ⟨E, hE2⟩ : ∃ E, s.toList.isEmpty = E := ⟨_, rfl⟩;rw [hE2] at hE;have HSm := Hj hs;clear hs;go_upto_region 8 with (fail);(try rw [hX]);cases E
            ·have hE' : bwB 5 10 k0 = true := hE.out;by_cases hu1 : l0 < 0
             ·have eu1 : decide (l0 < 0) = true := decide_eq_true hu1;refine wp_region_calm (fun _ w' => Rel X w') (fun _ => false) [1, 2] 13 (by kernel_rfl) (by kernel_rfl) ?hst ?hS0 (fun w0 h0 => ?_)
              case hst => exact fun _ _ _ h r => h.trans r
              case hS0 => exact Rel.refl _
              iterate 2
               refine wpCalm_go rfl (by kernel_rfl) (fun K hK => ?_);apply Exists.intro;refine ⟨fun M w hM hS => ?_, hK _ ?_⟩
               ·have d0 := hS.cell x0;have d1 := hS.cell x1;unfold calmAt;go_simp;exact ⟨rfl, Rel.refl _⟩
               clear hK K
              refine wpCalm_nil ?_;have H0 := Hj h0;clear h0;refine wpAnyR_ready (rs := [0]) (by kernel_rfl) (by simp) (AllR.cons rfl (fun w6 h6 K' hK' => ?_) AllR.nil);go_simp;refine (kinds_any w6).mono ?_;rintro e w7 ⟨gt, rfl, hT, h7⟩;have R7 := Hj ((H0.out.trans h6).trans h7);have HTt := Hj hT;clear h6 h7 hT;refine hK'.out _ _ R7.out ?_;clear hK' K';refine wpAnyR_ready (rs := [3]) (by kernel_rfl) (by simp) (AllR.cons rfl (fun w8 h8 K' hK' => ?_) AllR.nil);go_simp;refine (byN_any kndL 6 gt 6 k0 _ w8 (HTt.out.rel h8) rfl (by decide) HSm.out).mono ?_;rintro e w9 ⟨rfl, h9⟩;have R9 := Hj ((R7.out.trans h8).trans h9);clear h8 h9 HTt;refine hK'.out _ _ R9.out ?_;clear hK' K';refine wpAnyR_more [4, 5, 6, 7, 8, 9, 10, 11, 12, 13, 14] 0 (by kernel_rfl) (fun _ _ _ h r => h.trans r) R9.out ?_
              iterate 7
               refine wpCalm_go rfl (by kernel_rfl) (fun K hK => ?_);apply Exists.intro;refine ⟨fun M w hM hS => ?_, hK _ ?_⟩
               ·have d0 := hS.cell x0;have d1 := hS.cell x1;unfold calmAt;go_simp;exact ⟨rfl, Rel.refl _⟩
               clear hK K
              iterate 3 (refine wpCalm_no rfl (by kernel_rfl) (fun K hK => hK _ ?_); clear hK K)
              iterate 1
               refine wpCalm_go rfl (by kernel_rfl) (fun K hK => ?_);apply Exists.intro;refine ⟨fun M w hM hS => ?_, hK _ ?_⟩
               ·have d0 := hS.cell x0;have d1 := hS.cell x1;unfold calmAt;go_simp;exact ⟨rfl, Rel.refl _⟩
               clear hK K
              refine wpCalm_nil (wpAnyR_end (by kernel_rfl) (fun w1 h1 => ?_));simp only [Act.put, zla, zlb, zlc];have R2 : Hid (Rel wA w1) := hR.out.trans (RX.out.trans (R9.out.trans h1));clear h1 R9 R7;have hf : crV (k0, l0) = false := by unfold crV bwB; simp only; rw [dF (show ¬ 0 ≤ l0 by omega)]; simp
              have fin : Hid (V = false) := by
               show _ = _
               rw [VV2.out, allK_no HP.out hf]; (try simp)
              go_wp2;go_ret;exact ⟨ret_b2 fin.out.symm, R0.out.trans (R1.out.trans R2.out)⟩
             ·have eu1 : decide (l0 < 0) = false := decide_eq_false hu1;by_cases hu2 : 73049 < l0
              ·have eu2 : decide (73049 < l0) = true := decide_eq_true hu2;refine wp_region_calm (fun _ w' => Rel X w') (fun _ => false) [1, 2] 13 (by kernel_rfl) (by kernel_rfl) ?hst ?hS0 (fun w0 h0 => ?_)
               case hst => exact fun _ _ _ h r => h.trans r
               case hS0 => exact Rel.refl _
               iterate 2
                refine wpCalm_go rfl (by kernel_rfl) (fun K hK => ?_);apply Exists.intro;refine ⟨fun M w hM hS => ?_, hK _ ?_⟩
                ·have d0 := hS.cell x0;have d1 := hS.cell x1;unfold calmAt;go_simp;exact ⟨rfl, Rel.refl _⟩
                clear hK K
               refine wpCalm_nil ?_;have H0 := Hj h0;clear h0;refine wpAnyR_ready (rs := [0]) (by kernel_rfl) (by simp) (AllR.cons rfl (fun w6 h6 K' hK' => ?_) AllR.nil);go_simp;refine (kinds_any w6).mono ?_;rintro e w7 ⟨gt, rfl, hT, h7⟩;have R7 := Hj ((H0.out.trans h6).trans h7);have HTt := Hj hT;clear h6 h7 hT;refine hK'.out _ _ R7.out ?_;clear hK' K';refine wpAnyR_ready (rs := [3]) (by kernel_rfl) (by simp) (AllR.cons rfl (fun w8 h8 K' hK' => ?_) AllR.nil);go_simp;refine (byN_any kndL 6 gt 6 k0 _ w8 (HTt.out.rel h8) rfl (by decide) HSm.out).mono ?_;rintro e w9 ⟨rfl, h9⟩;have R9 := Hj ((R7.out.trans h8).trans h9);clear h8 h9 HTt;refine hK'.out _ _ R9.out ?_;clear hK' K';refine wpAnyR_more [4, 5, 6, 7, 8, 9, 10, 11, 12, 13, 14] 0 (by kernel_rfl) (fun _ _ _ h r => h.trans r) R9.out ?_
               iterate 11
                refine wpCalm_go rfl (by kernel_rfl) (fun K hK => ?_);apply Exists.intro;refine ⟨fun M w hM hS => ?_, hK _ ?_⟩
                ·have d0 := hS.cell x0;have d1 := hS.cell x1;unfold calmAt;go_simp;exact ⟨rfl, Rel.refl _⟩
                clear hK K
               refine wpCalm_nil (wpAnyR_end (by kernel_rfl) (fun w1 h1 => ?_));simp only [Act.put, zla, zlb, zlc];have R2 : Hid (Rel wA w1) := hR.out.trans (RX.out.trans (R9.out.trans h1));clear h1 R9 R7;have hf : crV (k0, l0) = false := by unfold crV bwB; simp only; rw [dF (show ¬ l0 ≤ 73049 by omega)]; simp
               have fin : Hid (V = false) := by
                show _ = _
                rw [VV2.out, allK_no HP.out hf]; (try simp)
               go_wp2;go_ret;exact ⟨ret_b2 fin.out.symm, R0.out.trans (R1.out.trans R2.out)⟩
              ·have eu2 : decide (73049 < l0) = false := decide_eq_false hu2;refine wp_region_calm (fun _ w' => Rel X w') (fun _ => false) [1, 2] 13 (by kernel_rfl) (by kernel_rfl) ?hst ?hS0 (fun w0 h0 => ?_)
               case hst => exact fun _ _ _ h r => h.trans r
               case hS0 => exact Rel.refl _
               iterate 2
                refine wpCalm_go rfl (by kernel_rfl) (fun K hK => ?_);apply Exists.intro;refine ⟨fun M w hM hS => ?_, hK _ ?_⟩
                ·have d0 := hS.cell x0;have d1 := hS.cell x1;unfold calmAt;go_simp;exact ⟨rfl, Rel.refl _⟩
                clear hK K
               refine wpCalm_nil ?_;have H0 := Hj h0;clear h0;refine wpAnyR_ready (rs := [0]) (by kernel_rfl) (by simp) (AllR.cons rfl (fun w6 h6 K' hK' => ?_) AllR.nil);go_simp;refine (kinds_any w6).mono ?_;rintro e w7 ⟨gt, rfl, hT, h7⟩;have R7 := Hj ((H0.out.trans h6).trans h7);have HTt := Hj hT;clear h6 h7 hT;refine hK'.out _ _ R7.out ?_;clear hK' K';refine wpAnyR_ready (rs := [3]) (by kernel_rfl) (by simp) (AllR.cons rfl (fun w8 h8 K' hK' => ?_) AllR.nil);go_simp;refine (byN_any kndL 6 gt 6 k0 _ w8 (HTt.out.rel h8) rfl (by decide) HSm.out).mono ?_;rintro e w9 ⟨rfl, h9⟩;have R9 := Hj ((R7.out.trans h8).trans h9);clear h8 h9 HTt;refine hK'.out _ _ R9.out ?_;clear hK' K';refine wpAnyR_more [4, 5, 6, 7, 8, 9, 10, 11, 12, 13, 14] 0 (by kernel_rfl) (fun _ _ _ h r => h.trans r) R9.out ?_
               iterate 11
                refine wpCalm_go rfl (by kernel_rfl) (fun K hK => ?_);apply Exists.intro;refine ⟨fun M w hM hS => ?_, hK _ ?_⟩
                ·have d0 := hS.cell x0;have d1 := hS.cell x1;unfold calmAt;go_simp;exact ⟨rfl, Rel.refl _⟩
                clear hK K
               refine wpCalm_nil (wpAnyR_end (by kernel_rfl) (fun w1 h1 => ?_));simp only [Act.put, zla, zlb, zlc];have R2 : Hid (Rel wA w1) := hR.out.trans (RX.out.trans (R9.out.trans h1));clear h1 R9 R7;have hf : crV (k0, l0) = true := by unfold crV; simp only; rw [hE']; unfold bwB; rw [dT (show 0 ≤ l0 by omega), dT (show l0 ≤ 73049 by omega)]; rfl
               have fin : Hid (allK crV cr (k + 1) = true) := by
                show _ = _
                rw [allK_succ HP.out, hA.out, hf]; rfl
               go_wp2
               go_roundw
               case rel => exact ⟨k + 1, by omega, by go_num, fin, R2⟩
               case measure => simp [intOf]; omega
            ·have hE' : bwB 5 10 k0 = false := hE.out;refine wp_region_calm (fun _ w' => Rel X w') (fun _ => false) [1, 2] 13 (by kernel_rfl) (by kernel_rfl) ?hst ?hS0 (fun w0 h0 => ?_)
             case hst => exact fun _ _ _ h r => h.trans r
             case hS0 => exact Rel.refl _
             iterate 2
              refine wpCalm_go rfl (by kernel_rfl) (fun K hK => ?_);apply Exists.intro;refine ⟨fun M w hM hS => ?_, hK _ ?_⟩
              ·have d0 := hS.cell x0;have d1 := hS.cell x1;unfold calmAt;go_simp;exact ⟨rfl, Rel.refl _⟩
              clear hK K
             refine wpCalm_nil ?_;have H0 := Hj h0;clear h0;refine wpAnyR_ready (rs := [0]) (by kernel_rfl) (by simp) (AllR.cons rfl (fun w6 h6 K' hK' => ?_) AllR.nil);go_simp;refine (kinds_any w6).mono ?_;rintro e w7 ⟨gt, rfl, hT, h7⟩;have R7 := Hj ((H0.out.trans h6).trans h7);have HTt := Hj hT;clear h6 h7 hT;refine hK'.out _ _ R7.out ?_;clear hK' K';refine wpAnyR_ready (rs := [3]) (by kernel_rfl) (by simp) (AllR.cons rfl (fun w8 h8 K' hK' => ?_) AllR.nil);go_simp;refine (byN_any kndL 6 gt 6 k0 _ w8 (HTt.out.rel h8) rfl (by decide) HSm.out).mono ?_;rintro e w9 ⟨rfl, h9⟩;have R9 := Hj ((R7.out.trans h8).trans h9);clear h8 h9 HTt;refine hK'.out _ _ R9.out ?_;clear hK' K';refine wpAnyR_more [4, 5, 6, 7, 8, 9, 10, 11, 12, 13, 14] 0 (by kernel_rfl) (fun _ _ _ h r => h.trans r) R9.out ?_
             iterate 2
              refine wpCalm_go rfl (by kernel_rfl) (fun K hK => ?_);apply Exists.intro;refine ⟨fun M w hM hS => ?_, hK _ ?_⟩
              ·have d0 := hS.cell x0;have d1 := hS.cell x1;unfold calmAt;go_simp;exact ⟨rfl, Rel.refl _⟩
              clear hK K
             iterate 3 (refine wpCalm_no rfl (by kernel_rfl) (fun K hK => hK _ ?_); clear hK K)
             iterate 2
              refine wpCalm_go rfl (by kernel_rfl) (fun K hK => ?_);apply Exists.intro;refine ⟨fun M w hM hS => ?_, hK _ ?_⟩
              ·have d0 := hS.cell x0;have d1 := hS.cell x1;unfold calmAt;go_simp;exact ⟨rfl, Rel.refl _⟩
              clear hK K
             iterate 3 (refine wpCalm_no rfl (by kernel_rfl) (fun K hK => hK _ ?_); clear hK K)
             iterate 1
              refine wpCalm_go rfl (by kernel_rfl) (fun K hK => ?_);apply Exists.intro;refine ⟨fun M w hM hS => ?_, hK _ ?_⟩
              ·have d0 := hS.cell x0;have d1 := hS.cell x1;unfold calmAt;go_simp;exact ⟨rfl, Rel.refl _⟩
              clear hK K
             refine wpCalm_nil (wpAnyR_end (by kernel_rfl) (fun w1 h1 => ?_));simp only [Act.put, zla, zlb, zlc];have R2 : Hid (Rel wA w1) := hR.out.trans (RX.out.trans (R9.out.trans h1));clear h1 R9 R7;have hf : crV (k0, l0) = false := by unfold crV; simp only; rw [hE']; (try rfl)
             have fin : Hid (V = false) := by
              show _ = _
              rw [VV2.out, allK_no HP.out hf]; (try simp)
             go_wp2;go_ret;exact ⟨ret_b2 fin.out.symm, R0.out.trans (R1.out.trans R2.out)⟩
           ·obtain rfl : k = nc := by omega
            have VV3 : Hid (V = (se.all seV && (le.all leW && (gr.all grW && re.all reW)))) := by
             show _ = _
             rw [VV2.out, ← allK_full (f := crV) (L := cr) (Nat.le_of_eq HNC.out), hA.out]; rfl
            have RA := hR;clear hR hA VV2 hlt;have bb := (BW.out.rel (R1.out.trans RA.out)).c (j := 4) rfl;have bl := (BW.out.rel (R1.out.trans RA.out)).lt;go_wp2_with fail
            go_loopw [91] (fun i wx => ∃ k : Nat, k ≤ ns ∧ i = .int .i64 k ∧ Hid (allK seV se k = true) ∧ Hid (Rel wA wx)) (fun i _ => ns - (intOf i).toNat)
            case atStart => exact ⟨0, by omega, rfl, rfl, RA⟩
            case round =>
             obtain ⟨k, hk, rfl, hA, hR⟩ := hrel;by_cases hlt : k < ns
             ·skip
              have ki : (k : Int) < (ns : Int) := by omega
              obtain ⟨g, off, rfl, hg, -, hc⟩ := ROWS.out (by omega);obtain ⟨p, hp⟩ : ∃ p, se[k]? = some p := get_some (by rw [HNS.out]; exact hlt);obtain ⟨⟨y0, y1⟩, ⟨a0, a1⟩, ⟨m0', m1'⟩⟩ := ISB.out _ (List.mem_of_getElem? hp);obtain ⟨k0, l0, m0⟩ := p;simp only at y0 y1 a0 a1 m0' m1';have HP := Hj hp;have c0 := (R1.out.trans hR.out).cell (hc k _ hp 0 _ rfl);have c1 := (R1.out.trans hR.out).cell (hc k _ hp 1 _ rfl);have c2 := (R1.out.trans hR.out).cell (hc k _ hp 2 _ rfl);simp only [Nat.add_zero] at c0;have hg2 := (R1.out.trans hR.out).lt hg;obtain ⟨X, hX⟩ : ∃ X, wr.alloc (.cells #[.int .i64 k0, .int .i64 l0, .int .i64 m0] 42) = X := ⟨_, rfl⟩;have RX : Hid (Rel wr X) := by show Rel _ _; rw [← hX]; exact (Rel.refl wr).alloc _
              have BX : Hid (Blk X wr.heap.size 42 [.int .i64 k0, .int .i64 l0, .int .i64 m0]) := by show Blk _ _ _ _; rw [← hX]; exact Blk.new wr _ #[.int .i64 k0, .int .i64 l0, .int .i64 m0]
              clear hp hc;have x0 := BX.out.c (j := 0) rfl;have x1 := BX.out.c (j := 1) rfl;have x2 := BX.out.c (j := 2) rfl;have xl := BX.out.lt;have VI := Hj fun w' (r : Rel X w') => vindex_any k0 l0 m0 w' (HT.out.rel ((R1.out.trans (hR.out.trans RX.out)).trans r)) a0 a1 m0' m1'
              obtain ⟨Q, hQ⟩ : ∃ b, seV (k0, l0, m0) = b := ⟨_, rfl⟩;rw [hQ] at VI;unfold BRes at VI;have HQ := Hj hQ;clear hQ;go_wp2_with fail;refine (VI.out _ (by show Rel _ _; first | exact Rel.refl _ | (rw [← hX]; exact Rel.refl _))).mono ?_;rintro e w1 ⟨rfl, h1⟩;have R2 : Hid (Rel wA w1) := hR.out.trans (RX.out.trans h1);clear h1;cases Q
              ·skip
               have hf : seV (k0, l0, m0) = false := by exact HQ.out
               have fin : Hid (V = false) := by
                show _ = _
                rw [VV3.out, allK_no HP.out hf]; (try simp)
               go_wp2;go_ret;exact ⟨ret_b2 fin.out.symm, R0.out.trans (R1.out.trans R2.out)⟩
              ·skip
               have hf : seV (k0, l0, m0) = true := by exact HQ.out
               have fin : Hid (allK seV se (k + 1) = true) := by
                show _ = _
                rw [allK_succ HP.out, hA.out, hf]; rfl
               go_wp2
               go_roundw
               case rel => exact ⟨k + 1, by omega, by go_num, fin, R2⟩
               case measure => simp [intOf]; omega
             ·obtain rfl : k = ns := by omega
              have VV4 : Hid (V = (le.all leW && (gr.all grW && re.all reW))) := by
               show _ = _
               rw [VV3.out, ← allK_full (f := seV) (L := se) (Nat.le_of_eq HNS.out), hA.out]; rfl
              have RA := hR;clear hR hA VV3 hlt;have bb := (BW.out.rel (R1.out.trans RA.out)).c (j := 5) rfl;have bl := (BW.out.rel (R1.out.trans RA.out)).lt;go_wp2_with fail
              go_loopw [102] (fun i wx => ∃ k : Nat, k ≤ nl ∧ i = .int .i64 k ∧ Hid (allK leW le k = true) ∧ Hid (Rel wA wx)) (fun i _ => nl - (intOf i).toNat)
              case atStart => exact ⟨0, by omega, rfl, rfl, RA⟩
              case round =>
               obtain ⟨k, hk, rfl, hA, hR⟩ := hrel;by_cases hlt : k < nl
               ·skip
                have ki : (k : Int) < (nl : Int) := by omega
                obtain ⟨g, off, rfl, hg, -, hc⟩ := ROWL.out (by omega);obtain ⟨p, hp⟩ : ∃ p, le[k]? = some p := get_some (by rw [HNL.out]; exact hlt);obtain ⟨s0, ⟨t, x⟩⟩ := p;have hGB := TLB.out _ (List.mem_of_getElem? hp);obtain ⟨xa, xc, e1⟩ := kids_slice (kidsB_to hGB.2.1);simp only at e1;subst e1;have sz : s0.size ≤ 140737488355328 := hGB.1;have KT := Hj fun X (r : Rel WB X) => kids_rel (kidsB_to hGB.2.1) r
                have zt : t.size ≤ 1000000000 := hGB.2.2;clear hGB;have HP := Hj hp;have c0 := (R1.out.trans hR.out).cell (hc k _ hp 0 _ rfl);have c1 := (R1.out.trans hR.out).cell (hc k _ hp 1 _ rfl);have c2 := (R1.out.trans hR.out).cell (hc k _ hp 2 _ rfl);have c3 := (R1.out.trans hR.out).cell (hc k _ hp 3 _ rfl);have c4 := (R1.out.trans hR.out).cell (hc k _ hp 4 _ rfl);have c5 := (R1.out.trans hR.out).cell (hc k _ hp 5 _ rfl);have c6 := (R1.out.trans hR.out).cell (hc k _ hp 6 _ rfl);simp only [Nat.add_zero] at c0;have hg2 := (R1.out.trans hR.out).lt hg;obtain ⟨X, hX⟩ : ∃ X, wr.alloc (.cells #[.string s0, .int .i64 t.op, .int .i64 t.va, .int .i64 t.vb, .int .i64 t.dm, .string t.nm, .slice xa t.cnt xc] 74) = X := ⟨_, rfl⟩;have RX : Hid (Rel wr X) := by show Rel _ _; rw [← hX]; exact (Rel.refl wr).alloc _
                have BX : Hid (Blk X wr.heap.size 74 [.string s0, .int .i64 t.op, .int .i64 t.va, .int .i64 t.vb, .int .i64 t.dm, .string t.nm, .slice xa t.cnt xc]) := by show Blk _ _ _ _; rw [← hX]; exact Blk.new wr _ #[.string s0, .int .i64 t.op, .int .i64 t.va, .int .i64 t.vb, .int .i64 t.dm, .string t.nm, .slice xa t.cnt xc]
                clear hp hc;have x0 := BX.out.c (j := 0) rfl;have x1 := BX.out.c (j := 1) rfl;have x2 := BX.out.c (j := 2) rfl;have x3 := BX.out.c (j := 3) rfl;have x4 := BX.out.c (j := 4) rfl;have x5 := BX.out.c (j := 5) rfl;have x6 := BX.out.c (j := 6) rfl;have xl := BX.out.lt;have VT := Hj fun w' (r : Rel X w') => ValidExpr_any t _ w' (KT.out w' ((R1.out.trans (hR.out.trans RX.out)).trans r)) (by omega) (Hj (HT.out.rel ((R1.out.trans (hR.out.trans RX.out)).trans r)))
                obtain ⟨YT, hYT⟩ : ∃ b, t.valid = b := ⟨_, rfl⟩;rw [hYT] at VT;unfold BRes at VT;have HYT := Hj hYT;clear hYT;have NA := Hj fun w' => isName_any s0 w' sz
                obtain ⟨Q, hQ⟩ : ∃ b, namB s0 = b := ⟨_, rfl⟩;rw [hQ] at NA;have HQ := Hj hQ;clear hQ;cases Q
                ·go_wp2_with fail;refine (NA.out _).mono ?_;rintro e w1 ⟨rfl, rfl⟩;have R2 : Hid (Rel wA X) := hR.out.trans RX.out;have hf : leW (s0, (t, .slice xa t.cnt xc)) = false := by unfold leW; simp only; rw [HQ.out]; rfl
                 have fin : Hid (V = false) := by
                  show _ = _
                  rw [VV4.out, allK_no HP.out hf]; (try simp)
                 go_wp2;go_ret;exact ⟨ret_b2 fin.out.symm, R0.out.trans (R1.out.trans R2.out)⟩
                ·go_wp2_with fail;refine (NA.out _).mono ?_;rintro e w1 ⟨rfl, rfl⟩;go_wp2_with fail;refine (VT.out _ (by show Rel _ _; first | exact Rel.refl _ | (rw [← hX]; exact Rel.refl _))).mono ?_;rintro e w1 ⟨rfl, h1⟩;have R2 : Hid (Rel wA w1) := hR.out.trans (RX.out.trans h1);clear h1;cases YT
                 ·skip
                  have hf : leW (s0, (t, .slice xa t.cnt xc)) = false := by unfold leW; simp only; rw [HQ.out, HYT.out]; rfl
                  have fin : Hid (V = false) := by
                   show _ = _
                   rw [VV4.out, allK_no HP.out hf]; (try simp)
                  go_wp2;go_ret;exact ⟨ret_b2 fin.out.symm, R0.out.trans (R1.out.trans R2.out)⟩
                 ·skip
                  have hf : leW (s0, (t, .slice xa t.cnt xc)) = true := by unfold leW; simp only; rw [HQ.out, HYT.out]; rfl
                  have fin : Hid (allK leW le (k + 1) = true) := by
                   show _ = _
                   rw [allK_succ HP.out, hA.out, hf]; rfl
                  go_wp2
                  go_roundw
                  case rel => exact ⟨k + 1, by omega, by go_num, fin, R2⟩
                  case measure => simp [intOf]; omega
               ·obtain rfl : k = nl := by omega
                have VV5 : Hid (V = (gr.all grW && re.all reW)) := by
                 show _ = _
                 rw [VV4.out, ← allK_full (f := leW) (L := le) (Nat.le_of_eq HNL.out), hA.out]; rfl
                have RA := hR;clear hR hA VV4 hlt;have bb := (BW.out.rel (R1.out.trans RA.out)).c (j := 6) rfl;have bl := (BW.out.rel (R1.out.trans RA.out)).lt;go_wp2_with fail
                go_loopw [120] (fun i wx => ∃ k : Nat, k ≤ ng ∧ i = .int .i64 k ∧ Hid (allK grW gr k = true) ∧ Hid (Rel wA wx)) (fun i _ => ng - (intOf i).toNat)
                case atStart => exact ⟨0, by omega, rfl, rfl, RA⟩
                case round =>
                 obtain ⟨k, hk, rfl, hA, hR⟩ := hrel;by_cases hlt : k < ng
                 ·skip
                  have ki : (k : Int) < (ng : Int) := by omega
                  obtain ⟨g, off, rfl, hg, -, hc⟩ := ROWG.out (by omega);obtain ⟨p, hp⟩ : ∃ p, gr[k]? = some p := get_some (by rw [HNG.out]; exact hlt);obtain ⟨k0, ⟨t, x⟩, ⟨u, y⟩⟩ := p;have hGB := TGB.out _ (List.mem_of_getElem? hp);obtain ⟨xa, xc, e1⟩ := kids_slice (kidsB_to hGB.2.1.1);obtain ⟨ya, yc, e2⟩ := kids_slice (kidsB_to hGB.2.2.1);simp only at e1 e2;subst e1 e2;have KT := Hj fun X (r : Rel WB X) => kids_rel (kidsB_to hGB.2.1.1) r
                  have KU := Hj fun X (r : Rel WB X) => kids_rel (kidsB_to hGB.2.2.1) r
                  have zt : t.size ≤ 1000000000 := hGB.2.1.2;have zu : u.size ≤ 1000000000 := hGB.2.2.2;clear hGB;have HP := Hj hp;have c0 := (R1.out.trans hR.out).cell (hc k _ hp 0 _ rfl);have c1 := (R1.out.trans hR.out).cell (hc k _ hp 1 _ rfl);have c2 := (R1.out.trans hR.out).cell (hc k _ hp 2 _ rfl);have c3 := (R1.out.trans hR.out).cell (hc k _ hp 3 _ rfl);have c4 := (R1.out.trans hR.out).cell (hc k _ hp 4 _ rfl);have c5 := (R1.out.trans hR.out).cell (hc k _ hp 5 _ rfl);have c6 := (R1.out.trans hR.out).cell (hc k _ hp 6 _ rfl);have c7 := (R1.out.trans hR.out).cell (hc k _ hp 7 _ rfl);have c8 := (R1.out.trans hR.out).cell (hc k _ hp 8 _ rfl);have c9 := (R1.out.trans hR.out).cell (hc k _ hp 9 _ rfl);have c10 := (R1.out.trans hR.out).cell (hc k _ hp 10 _ rfl);have c11 := (R1.out.trans hR.out).cell (hc k _ hp 11 _ rfl);have c12 := (R1.out.trans hR.out).cell (hc k _ hp 12 _ rfl);simp only [Nat.add_zero] at c0;have hg2 := (R1.out.trans hR.out).lt hg;obtain ⟨X, hX⟩ : ∃ X, wr.alloc (.cells #[.int .i64 k0, .int .i64 t.op, .int .i64 t.va, .int .i64 t.vb, .int .i64 t.dm, .string t.nm, .slice xa t.cnt xc, .int .i64 u.op, .int .i64 u.va, .int .i64 u.vb, .int .i64 u.dm, .string u.nm, .slice ya u.cnt yc] 77) = X := ⟨_, rfl⟩;have RX : Hid (Rel wr X) := by show Rel _ _; rw [← hX]; exact (Rel.refl wr).alloc _
                  have BX : Hid (Blk X wr.heap.size 77 [.int .i64 k0, .int .i64 t.op, .int .i64 t.va, .int .i64 t.vb, .int .i64 t.dm, .string t.nm, .slice xa t.cnt xc, .int .i64 u.op, .int .i64 u.va, .int .i64 u.vb, .int .i64 u.dm, .string u.nm, .slice ya u.cnt yc]) := by show Blk _ _ _ _; rw [← hX]; exact Blk.new wr _ #[.int .i64 k0, .int .i64 t.op, .int .i64 t.va, .int .i64 t.vb, .int .i64 t.dm, .string t.nm, .slice xa t.cnt xc, .int .i64 u.op, .int .i64 u.va, .int .i64 u.vb, .int .i64 u.dm, .string u.nm, .slice ya u.cnt yc]
                  clear hp hc;have x0 := BX.out.c (j := 0) rfl;have x1 := BX.out.c (j := 1) rfl;have x2 := BX.out.c (j := 2) rfl;have x3 := BX.out.c (j := 3) rfl;have x4 := BX.out.c (j := 4) rfl;have x5 := BX.out.c (j := 5) rfl;have x6 := BX.out.c (j := 6) rfl;have x7 := BX.out.c (j := 7) rfl;have x8 := BX.out.c (j := 8) rfl;have x9 := BX.out.c (j := 9) rfl;have x10 := BX.out.c (j := 10) rfl;have x11 := BX.out.c (j := 11) rfl;have x12 := BX.out.c (j := 12) rfl;have xl := BX.out.lt;obtain ⟨s, hs⟩ : ∃ s, (⟨(nmI benL k0).toArray⟩ : ByteArray) = s := ⟨_, rfl⟩;have hE := Hj (bw_of nm_ben hs);obtain ⟨E, hE2⟩ : ∃ E, s.toList.isEmpty = E := ⟨_, rfl⟩;rw [hE2] at hE;have HSm := Hj hs;clear hs;have VT := Hj fun w' (r : Rel X w') => ValidExpr_any t _ w' (KT.out w' ((R1.out.trans (hR.out.trans RX.out)).trans r)) (by omega) (Hj (HT.out.rel ((R1.out.trans (hR.out.trans RX.out)).trans r)))
                  obtain ⟨YT, hYT⟩ : ∃ b, t.valid = b := ⟨_, rfl⟩;rw [hYT] at VT;unfold BRes at VT;have HYT := Hj hYT;clear hYT;have VU := Hj fun w' (r : Rel X w') => ValidExpr_any u _ w' (KU.out w' ((R1.out.trans (hR.out.trans RX.out)).trans r)) (by omega) (Hj (HT.out.rel ((R1.out.trans (hR.out.trans RX.out)).trans r)))
                  obtain ⟨YU, hYU⟩ : ∃ b, u.valid = b := ⟨_, rfl⟩;rw [hYU] at VU;unfold BRes at VU;have HYU := Hj hYU;clear hYU;go_upto_region 26 with (fail);(try rw [hX]);cases E
                  ·have hE' : bwB 1 5 k0 = true := hE.out;cases YT
                   ·skip
                    refine wp_region_calm (fun _ w' => Rel X w') (fun _ => false) [1, 2] 15 (by kernel_rfl) (by kernel_rfl) ?hst ?hS0 (fun w0 h0 => ?_)
                    case hst => exact fun _ _ _ h r => h.trans r
                    case hS0 => exact Rel.refl _
                    iterate 2
                     refine wpCalm_go rfl (by kernel_rfl) (fun K hK => ?_);apply Exists.intro;refine ⟨fun M w hM hS => ?_, hK _ ?_⟩
                     ·have d0 := hS.cell x0;have d1 := hS.cell x1;have d2 := hS.cell x2;have d3 := hS.cell x3;have d4 := hS.cell x4;have d5 := hS.cell x5;have d6 := hS.cell x6;have d7 := hS.cell x7;have d8 := hS.cell x8;have d9 := hS.cell x9;have d10 := hS.cell x10;have d11 := hS.cell x11;have d12 := hS.cell x12;unfold calmAt;go_simp;exact ⟨rfl, Rel.refl _⟩
                     clear hK K
                    refine wpCalm_nil ?_;have H0 := Hj h0;clear h0;refine wpAnyR_ready (rs := [0]) (by kernel_rfl) (by simp) (AllR.cons rfl (fun w6 h6 K' hK' => ?_) AllR.nil);go_simp;refine (benefits_any w6).mono ?_;rintro e w7 ⟨gt, rfl, hT, h7⟩;have R7 := Hj ((H0.out.trans h6).trans h7);have HTt := Hj hT;clear h6 h7 hT;refine hK'.out _ _ R7.out ?_;clear hK' K';refine wpAnyR_ready (rs := [3]) (by kernel_rfl) (by simp) (AllR.cons rfl (fun w8 h8 K' hK' => ?_) AllR.nil);go_simp;refine (byN_any benL 5 gt 5 k0 _ w8 (HTt.out.rel h8) rfl (by decide) HSm.out).mono ?_;rintro e w9 ⟨rfl, h9⟩;have R9 := Hj ((R7.out.trans h8).trans h9);clear h8 h9 HTt;refine hK'.out _ _ R9.out ?_;clear hK' K';refine wpAnyR_more [4, 5, 6, 7, 8, 9, 10, 11, 12, 13, 14, 15, 16] 0 (by kernel_rfl) (fun _ _ _ h r => h.trans r) R9.out ?_
                    iterate 4
                     refine wpCalm_go rfl (by kernel_rfl) (fun K hK => ?_);apply Exists.intro;refine ⟨fun M w hM hS => ?_, hK _ ?_⟩
                     ·have d0 := hS.cell x0;have d1 := hS.cell x1;have d2 := hS.cell x2;have d3 := hS.cell x3;have d4 := hS.cell x4;have d5 := hS.cell x5;have d6 := hS.cell x6;have d7 := hS.cell x7;have d8 := hS.cell x8;have d9 := hS.cell x9;have d10 := hS.cell x10;have d11 := hS.cell x11;have d12 := hS.cell x12;unfold calmAt;go_simp;exact ⟨rfl, Rel.refl _⟩
                     clear hK K
                    refine wpCalm_go rfl (by kernel_rfl) (fun K hK => ?_);apply Exists.intro;refine ⟨fun M w hM hS => ?_, hK _ ?_⟩
                    ·unfold calmAt;go_simp
                     with_reducible refine (VT.out _ hS).mono ?_
                     rintro e w1 ⟨rfl, hb⟩;exact ⟨rfl, hb⟩
                    clear hK K
                    iterate 3
                     refine wpCalm_go rfl (by kernel_rfl) (fun K hK => ?_);apply Exists.intro;refine ⟨fun M w hM hS => ?_, hK _ ?_⟩
                     ·have d0 := hS.cell x0;have d1 := hS.cell x1;have d2 := hS.cell x2;have d3 := hS.cell x3;have d4 := hS.cell x4;have d5 := hS.cell x5;have d6 := hS.cell x6;have d7 := hS.cell x7;have d8 := hS.cell x8;have d9 := hS.cell x9;have d10 := hS.cell x10;have d11 := hS.cell x11;have d12 := hS.cell x12;unfold calmAt;go_simp;exact ⟨rfl, Rel.refl _⟩
                     clear hK K
                    iterate 4 (refine wpCalm_no rfl (by kernel_rfl) (fun K hK => hK _ ?_); clear hK K)
                    iterate 1
                     refine wpCalm_go rfl (by kernel_rfl) (fun K hK => ?_);apply Exists.intro;refine ⟨fun M w hM hS => ?_, hK _ ?_⟩
                     ·have d0 := hS.cell x0;have d1 := hS.cell x1;have d2 := hS.cell x2;have d3 := hS.cell x3;have d4 := hS.cell x4;have d5 := hS.cell x5;have d6 := hS.cell x6;have d7 := hS.cell x7;have d8 := hS.cell x8;have d9 := hS.cell x9;have d10 := hS.cell x10;have d11 := hS.cell x11;have d12 := hS.cell x12;unfold calmAt;go_simp;exact ⟨rfl, Rel.refl _⟩
                     clear hK K
                    refine wpCalm_nil (wpAnyR_end (by kernel_rfl) (fun w1 h1 => ?_));simp only [Act.put, zla, zlb, zlc];have R2 : Hid (Rel wA w1) := hR.out.trans (RX.out.trans (R9.out.trans h1));clear h1 R9 R7;have hf : grW (k0, (t, .slice xa t.cnt xc), (u, .slice ya u.cnt yc)) = false := by unfold grW; simp only; rw [HYT.out]; simp
                    have fin : Hid (V = false) := by
                     show _ = _
                     rw [VV5.out, allK_no HP.out hf]; (try simp)
                    go_wp2;go_ret;exact ⟨ret_b2 fin.out.symm, R0.out.trans (R1.out.trans R2.out)⟩
                   ·cases YU
                    ·skip
                     refine wp_region_calm (fun _ w' => Rel X w') (fun _ => false) [1, 2] 15 (by kernel_rfl) (by kernel_rfl) ?hst ?hS0 (fun w0 h0 => ?_)
                     case hst => exact fun _ _ _ h r => h.trans r
                     case hS0 => exact Rel.refl _
                     iterate 2
                      refine wpCalm_go rfl (by kernel_rfl) (fun K hK => ?_);apply Exists.intro;refine ⟨fun M w hM hS => ?_, hK _ ?_⟩
                      ·have d0 := hS.cell x0;have d1 := hS.cell x1;have d2 := hS.cell x2;have d3 := hS.cell x3;have d4 := hS.cell x4;have d5 := hS.cell x5;have d6 := hS.cell x6;have d7 := hS.cell x7;have d8 := hS.cell x8;have d9 := hS.cell x9;have d10 := hS.cell x10;have d11 := hS.cell x11;have d12 := hS.cell x12;unfold calmAt;go_simp;exact ⟨rfl, Rel.refl _⟩
                      clear hK K
                     refine wpCalm_nil ?_;have H0 := Hj h0;clear h0;refine wpAnyR_ready (rs := [0]) (by kernel_rfl) (by simp) (AllR.cons rfl (fun w6 h6 K' hK' => ?_) AllR.nil);go_simp;refine (benefits_any w6).mono ?_;rintro e w7 ⟨gt, rfl, hT, h7⟩;have R7 := Hj ((H0.out.trans h6).trans h7);have HTt := Hj hT;clear h6 h7 hT;refine hK'.out _ _ R7.out ?_;clear hK' K';refine wpAnyR_ready (rs := [3]) (by kernel_rfl) (by simp) (AllR.cons rfl (fun w8 h8 K' hK' => ?_) AllR.nil);go_simp;refine (byN_any benL 5 gt 5 k0 _ w8 (HTt.out.rel h8) rfl (by decide) HSm.out).mono ?_;rintro e w9 ⟨rfl, h9⟩;have R9 := Hj ((R7.out.trans h8).trans h9);clear h8 h9 HTt;refine hK'.out _ _ R9.out ?_;clear hK' K';refine wpAnyR_more [4, 5, 6, 7, 8, 9, 10, 11, 12, 13, 14, 15, 16] 0 (by kernel_rfl) (fun _ _ _ h r => h.trans r) R9.out ?_
                     iterate 4
                      refine wpCalm_go rfl (by kernel_rfl) (fun K hK => ?_);apply Exists.intro;refine ⟨fun M w hM hS => ?_, hK _ ?_⟩
                      ·have d0 := hS.cell x0;have d1 := hS.cell x1;have d2 := hS.cell x2;have d3 := hS.cell x3;have d4 := hS.cell x4;have d5 := hS.cell x5;have d6 := hS.cell x6;have d7 := hS.cell x7;have d8 := hS.cell x8;have d9 := hS.cell x9;have d10 := hS.cell x10;have d11 := hS.cell x11;have d12 := hS.cell x12;unfold calmAt;go_simp;exact ⟨rfl, Rel.refl _⟩
                      clear hK K
                     refine wpCalm_go rfl (by kernel_rfl) (fun K hK => ?_);apply Exists.intro;refine ⟨fun M w hM hS => ?_, hK _ ?_⟩
                     ·unfold calmAt;go_simp
                      with_reducible refine (VT.out _ hS).mono ?_
                      rintro e w1 ⟨rfl, hb⟩;exact ⟨rfl, hb⟩
                     clear hK K
                     iterate 5
                      refine wpCalm_go rfl (by kernel_rfl) (fun K hK => ?_);apply Exists.intro;refine ⟨fun M w hM hS => ?_, hK _ ?_⟩
                      ·have d0 := hS.cell x0;have d1 := hS.cell x1;have d2 := hS.cell x2;have d3 := hS.cell x3;have d4 := hS.cell x4;have d5 := hS.cell x5;have d6 := hS.cell x6;have d7 := hS.cell x7;have d8 := hS.cell x8;have d9 := hS.cell x9;have d10 := hS.cell x10;have d11 := hS.cell x11;have d12 := hS.cell x12;unfold calmAt;go_simp;exact ⟨rfl, Rel.refl _⟩
                      clear hK K
                     refine wpCalm_go rfl (by kernel_rfl) (fun K hK => ?_);apply Exists.intro;refine ⟨fun M w hM hS => ?_, hK _ ?_⟩
                     ·unfold calmAt;go_simp
                      with_reducible refine (VU.out _ hS).mono ?_
                      rintro e w1 ⟨rfl, hb⟩;exact ⟨rfl, hb⟩
                     clear hK K
                     iterate 2
                      refine wpCalm_go rfl (by kernel_rfl) (fun K hK => ?_);apply Exists.intro;refine ⟨fun M w hM hS => ?_, hK _ ?_⟩
                      ·have d0 := hS.cell x0;have d1 := hS.cell x1;have d2 := hS.cell x2;have d3 := hS.cell x3;have d4 := hS.cell x4;have d5 := hS.cell x5;have d6 := hS.cell x6;have d7 := hS.cell x7;have d8 := hS.cell x8;have d9 := hS.cell x9;have d10 := hS.cell x10;have d11 := hS.cell x11;have d12 := hS.cell x12;unfold calmAt;go_simp;exact ⟨rfl, Rel.refl _⟩
                      clear hK K
                     refine wpCalm_nil (wpAnyR_end (by kernel_rfl) (fun w1 h1 => ?_));simp only [Act.put, zla, zlb, zlc];have R2 : Hid (Rel wA w1) := hR.out.trans (RX.out.trans (R9.out.trans h1));clear h1 R9 R7;have hf : grW (k0, (t, .slice xa t.cnt xc), (u, .slice ya u.cnt yc)) = false := by unfold grW; simp only; rw [HYU.out]; simp
                     have fin : Hid (V = false) := by
                      show _ = _
                      rw [VV5.out, allK_no HP.out hf]; (try simp)
                     go_wp2;go_ret;exact ⟨ret_b2 fin.out.symm, R0.out.trans (R1.out.trans R2.out)⟩
                    ·skip
                     refine wp_region_calm (fun _ w' => Rel X w') (fun _ => false) [1, 2] 15 (by kernel_rfl) (by kernel_rfl) ?hst ?hS0 (fun w0 h0 => ?_)
                     case hst => exact fun _ _ _ h r => h.trans r
                     case hS0 => exact Rel.refl _
                     iterate 2
                      refine wpCalm_go rfl (by kernel_rfl) (fun K hK => ?_);apply Exists.intro;refine ⟨fun M w hM hS => ?_, hK _ ?_⟩
                      ·have d0 := hS.cell x0;have d1 := hS.cell x1;have d2 := hS.cell x2;have d3 := hS.cell x3;have d4 := hS.cell x4;have d5 := hS.cell x5;have d6 := hS.cell x6;have d7 := hS.cell x7;have d8 := hS.cell x8;have d9 := hS.cell x9;have d10 := hS.cell x10;have d11 := hS.cell x11;have d12 := hS.cell x12;unfold calmAt;go_simp;exact ⟨rfl, Rel.refl _⟩
                      clear hK K
                     refine wpCalm_nil ?_;have H0 := Hj h0;clear h0;refine wpAnyR_ready (rs := [0]) (by kernel_rfl) (by simp) (AllR.cons rfl (fun w6 h6 K' hK' => ?_) AllR.nil);go_simp;refine (benefits_any w6).mono ?_;rintro e w7 ⟨gt, rfl, hT, h7⟩;have R7 := Hj ((H0.out.trans h6).trans h7);have HTt := Hj hT;clear h6 h7 hT;refine hK'.out _ _ R7.out ?_;clear hK' K';refine wpAnyR_ready (rs := [3]) (by kernel_rfl) (by simp) (AllR.cons rfl (fun w8 h8 K' hK' => ?_) AllR.nil);go_simp;refine (byN_any benL 5 gt 5 k0 _ w8 (HTt.out.rel h8) rfl (by decide) HSm.out).mono ?_;rintro e w9 ⟨rfl, h9⟩;have R9 := Hj ((R7.out.trans h8).trans h9);clear h8 h9 HTt;refine hK'.out _ _ R9.out ?_;clear hK' K';refine wpAnyR_more [4, 5, 6, 7, 8, 9, 10, 11, 12, 13, 14, 15, 16] 0 (by kernel_rfl) (fun _ _ _ h r => h.trans r) R9.out ?_
                     iterate 4
                      refine wpCalm_go rfl (by kernel_rfl) (fun K hK => ?_);apply Exists.intro;refine ⟨fun M w hM hS => ?_, hK _ ?_⟩
                      ·have d0 := hS.cell x0;have d1 := hS.cell x1;have d2 := hS.cell x2;have d3 := hS.cell x3;have d4 := hS.cell x4;have d5 := hS.cell x5;have d6 := hS.cell x6;have d7 := hS.cell x7;have d8 := hS.cell x8;have d9 := hS.cell x9;have d10 := hS.cell x10;have d11 := hS.cell x11;have d12 := hS.cell x12;unfold calmAt;go_simp;exact ⟨rfl, Rel.refl _⟩
                      clear hK K
                     refine wpCalm_go rfl (by kernel_rfl) (fun K hK => ?_);apply Exists.intro;refine ⟨fun M w hM hS => ?_, hK _ ?_⟩
                     ·unfold calmAt;go_simp
                      with_reducible refine (VT.out _ hS).mono ?_
                      rintro e w1 ⟨rfl, hb⟩;exact ⟨rfl, hb⟩
                     clear hK K
                     iterate 5
                      refine wpCalm_go rfl (by kernel_rfl) (fun K hK => ?_);apply Exists.intro;refine ⟨fun M w hM hS => ?_, hK _ ?_⟩
                      ·have d0 := hS.cell x0;have d1 := hS.cell x1;have d2 := hS.cell x2;have d3 := hS.cell x3;have d4 := hS.cell x4;have d5 := hS.cell x5;have d6 := hS.cell x6;have d7 := hS.cell x7;have d8 := hS.cell x8;have d9 := hS.cell x9;have d10 := hS.cell x10;have d11 := hS.cell x11;have d12 := hS.cell x12;unfold calmAt;go_simp;exact ⟨rfl, Rel.refl _⟩
                      clear hK K
                     refine wpCalm_go rfl (by kernel_rfl) (fun K hK => ?_);apply Exists.intro;refine ⟨fun M w hM hS => ?_, hK _ ?_⟩
                     ·unfold calmAt;go_simp
                      with_reducible refine (VU.out _ hS).mono ?_
                      rintro e w1 ⟨rfl, hb⟩;exact ⟨rfl, hb⟩
                     clear hK K
                     iterate 2
                      refine wpCalm_go rfl (by kernel_rfl) (fun K hK => ?_);apply Exists.intro;refine ⟨fun M w hM hS => ?_, hK _ ?_⟩
                      ·have d0 := hS.cell x0;have d1 := hS.cell x1;have d2 := hS.cell x2;have d3 := hS.cell x3;have d4 := hS.cell x4;have d5 := hS.cell x5;have d6 := hS.cell x6;have d7 := hS.cell x7;have d8 := hS.cell x8;have d9 := hS.cell x9;have d10 := hS.cell x10;have d11 := hS.cell x11;have d12 := hS.cell x12;unfold calmAt;go_simp;exact ⟨rfl, Rel.refl _⟩
                      clear hK K
                     refine wpCalm_nil (wpAnyR_end (by kernel_rfl) (fun w1 h1 => ?_));simp only [Act.put, zla, zlb, zlc];have R2 : Hid (Rel wA w1) := hR.out.trans (RX.out.trans (R9.out.trans h1));clear h1 R9 R7;have hf : grW (k0, (t, .slice xa t.cnt xc), (u, .slice ya u.cnt yc)) = true := by unfold grW; simp only; rw [hE', HYT.out, HYU.out]; rfl
                     have fin : Hid (allK grW gr (k + 1) = true) := by
                      show _ = _
                      rw [allK_succ HP.out, hA.out, hf]; rfl
                     go_wp2
                     go_roundw
                     case rel => exact ⟨k + 1, by omega, by go_num, fin, R2⟩
                     case measure => simp [intOf]; omega
                  ·have hE' : bwB 1 5 k0 = false := hE.out;refine wp_region_calm (fun _ w' => Rel X w') (fun _ => false) [1, 2] 15 (by kernel_rfl) (by kernel_rfl) ?hst ?hS0 (fun w0 h0 => ?_)
                   case hst => exact fun _ _ _ h r => h.trans r
                   case hS0 => exact Rel.refl _
                   iterate 2
                    refine wpCalm_go rfl (by kernel_rfl) (fun K hK => ?_);apply Exists.intro;refine ⟨fun M w hM hS => ?_, hK _ ?_⟩
                    ·have d0 := hS.cell x0;have d1 := hS.cell x1;have d2 := hS.cell x2;have d3 := hS.cell x3;have d4 := hS.cell x4;have d5 := hS.cell x5;have d6 := hS.cell x6;have d7 := hS.cell x7;have d8 := hS.cell x8;have d9 := hS.cell x9;have d10 := hS.cell x10;have d11 := hS.cell x11;have d12 := hS.cell x12;unfold calmAt;go_simp;exact ⟨rfl, Rel.refl _⟩
                    clear hK K
                   refine wpCalm_nil ?_;have H0 := Hj h0;clear h0;refine wpAnyR_ready (rs := [0]) (by kernel_rfl) (by simp) (AllR.cons rfl (fun w6 h6 K' hK' => ?_) AllR.nil);go_simp;refine (benefits_any w6).mono ?_;rintro e w7 ⟨gt, rfl, hT, h7⟩;have R7 := Hj ((H0.out.trans h6).trans h7);have HTt := Hj hT;clear h6 h7 hT;refine hK'.out _ _ R7.out ?_;clear hK' K';refine wpAnyR_ready (rs := [3]) (by kernel_rfl) (by simp) (AllR.cons rfl (fun w8 h8 K' hK' => ?_) AllR.nil);go_simp;refine (byN_any benL 5 gt 5 k0 _ w8 (HTt.out.rel h8) rfl (by decide) HSm.out).mono ?_;rintro e w9 ⟨rfl, h9⟩;have R9 := Hj ((R7.out.trans h8).trans h9);clear h8 h9 HTt;refine hK'.out _ _ R9.out ?_;clear hK' K';refine wpAnyR_more [4, 5, 6, 7, 8, 9, 10, 11, 12, 13, 14, 15, 16] 0 (by kernel_rfl) (fun _ _ _ h r => h.trans r) R9.out ?_
                   iterate 2
                    refine wpCalm_go rfl (by kernel_rfl) (fun K hK => ?_);apply Exists.intro;refine ⟨fun M w hM hS => ?_, hK _ ?_⟩
                    ·have d0 := hS.cell x0;have d1 := hS.cell x1;have d2 := hS.cell x2;have d3 := hS.cell x3;have d4 := hS.cell x4;have d5 := hS.cell x5;have d6 := hS.cell x6;have d7 := hS.cell x7;have d8 := hS.cell x8;have d9 := hS.cell x9;have d10 := hS.cell x10;have d11 := hS.cell x11;have d12 := hS.cell x12;unfold calmAt;go_simp;exact ⟨rfl, Rel.refl _⟩
                    clear hK K
                   iterate 4 (refine wpCalm_no rfl (by kernel_rfl) (fun K hK => hK _ ?_); clear hK K)
                   iterate 2
                    refine wpCalm_go rfl (by kernel_rfl) (fun K hK => ?_);apply Exists.intro;refine ⟨fun M w hM hS => ?_, hK _ ?_⟩
                    ·have d0 := hS.cell x0;have d1 := hS.cell x1;have d2 := hS.cell x2;have d3 := hS.cell x3;have d4 := hS.cell x4;have d5 := hS.cell x5;have d6 := hS.cell x6;have d7 := hS.cell x7;have d8 := hS.cell x8;have d9 := hS.cell x9;have d10 := hS.cell x10;have d11 := hS.cell x11;have d12 := hS.cell x12;unfold calmAt;go_simp;exact ⟨rfl, Rel.refl _⟩
                    clear hK K
                   iterate 4 (refine wpCalm_no rfl (by kernel_rfl) (fun K hK => hK _ ?_); clear hK K)
                   iterate 1
                    refine wpCalm_go rfl (by kernel_rfl) (fun K hK => ?_);apply Exists.intro;refine ⟨fun M w hM hS => ?_, hK _ ?_⟩
                    ·have d0 := hS.cell x0;have d1 := hS.cell x1;have d2 := hS.cell x2;have d3 := hS.cell x3;have d4 := hS.cell x4;have d5 := hS.cell x5;have d6 := hS.cell x6;have d7 := hS.cell x7;have d8 := hS.cell x8;have d9 := hS.cell x9;have d10 := hS.cell x10;have d11 := hS.cell x11;have d12 := hS.cell x12;unfold calmAt;go_simp;exact ⟨rfl, Rel.refl _⟩
                    clear hK K
                   refine wpCalm_nil (wpAnyR_end (by kernel_rfl) (fun w1 h1 => ?_));simp only [Act.put, zla, zlb, zlc];have R2 : Hid (Rel wA w1) := hR.out.trans (RX.out.trans (R9.out.trans h1));clear h1 R9 R7;have hf : grW (k0, (t, .slice xa t.cnt xc), (u, .slice ya u.cnt yc)) = false := by unfold grW; simp only; rw [hE']; (try rfl)
                   have fin : Hid (V = false) := by
                    show _ = _
                    rw [VV5.out, allK_no HP.out hf]; (try simp)
                   go_wp2;go_ret;exact ⟨ret_b2 fin.out.symm, R0.out.trans (R1.out.trans R2.out)⟩
                 ·obtain rfl : k = ng := by omega
                  have VV6 : Hid (V = re.all reW) := by
                   show _ = _
                   rw [VV5.out, ← allK_full (f := grW) (L := gr) (Nat.le_of_eq HNG.out), hA.out]; rfl
                  have RA := hR;clear hR hA VV5 hlt;have bb := (BW.out.rel (R1.out.trans RA.out)).c (j := 7) rfl;have bl := (BW.out.rel (R1.out.trans RA.out)).lt;go_wp2_with fail
                  go_loopw [145] (fun i wx => ∃ k : Nat, k ≤ nr ∧ i = .int .i64 k ∧ Hid (allK reW re k = true) ∧ Hid (Rel wA wx)) (fun i _ => nr - (intOf i).toNat)
                  case atStart => exact ⟨0, by omega, rfl, rfl, RA⟩
                  case round =>
                   obtain ⟨k, hk, rfl, hA, hR⟩ := hrel;by_cases hlt : k < nr
                   ·skip
                    have ki : (k : Int) < (nr : Int) := by omega
                    obtain ⟨g, off, rfl, hg, -, hc⟩ := ROWR.out (by omega);obtain ⟨p, hp⟩ : ∃ p, re[k]? = some p := get_some (by rw [HNR.out]; exact hlt);obtain ⟨k0, ⟨t, x⟩⟩ := p;have hGB := TRB.out _ (List.mem_of_getElem? hp);obtain ⟨xa, xc, e1⟩ := kids_slice (kidsB_to hGB.2.1);simp only at e1;subst e1;have KT := Hj fun X (r : Rel WB X) => kids_rel (kidsB_to hGB.2.1) r
                    have zt : t.size ≤ 1000000000 := hGB.2.2;clear hGB;have HP := Hj hp;have c0 := (R1.out.trans hR.out).cell (hc k _ hp 0 _ rfl);have c1 := (R1.out.trans hR.out).cell (hc k _ hp 1 _ rfl);have c2 := (R1.out.trans hR.out).cell (hc k _ hp 2 _ rfl);have c3 := (R1.out.trans hR.out).cell (hc k _ hp 3 _ rfl);have c4 := (R1.out.trans hR.out).cell (hc k _ hp 4 _ rfl);have c5 := (R1.out.trans hR.out).cell (hc k _ hp 5 _ rfl);have c6 := (R1.out.trans hR.out).cell (hc k _ hp 6 _ rfl);simp only [Nat.add_zero] at c0;have hg2 := (R1.out.trans hR.out).lt hg;obtain ⟨X, hX⟩ : ∃ X, wr.alloc (.cells #[.int .i64 k0, .int .i64 t.op, .int .i64 t.va, .int .i64 t.vb, .int .i64 t.dm, .string t.nm, .slice xa t.cnt xc] 79) = X := ⟨_, rfl⟩;have RX : Hid (Rel wr X) := by show Rel _ _; rw [← hX]; exact (Rel.refl wr).alloc _
                    have BX : Hid (Blk X wr.heap.size 79 [.int .i64 k0, .int .i64 t.op, .int .i64 t.va, .int .i64 t.vb, .int .i64 t.dm, .string t.nm, .slice xa t.cnt xc]) := by show Blk _ _ _ _; rw [← hX]; exact Blk.new wr _ #[.int .i64 k0, .int .i64 t.op, .int .i64 t.va, .int .i64 t.vb, .int .i64 t.dm, .string t.nm, .slice xa t.cnt xc]
                    clear hp hc;have x0 := BX.out.c (j := 0) rfl;have x1 := BX.out.c (j := 1) rfl;have x2 := BX.out.c (j := 2) rfl;have x3 := BX.out.c (j := 3) rfl;have x4 := BX.out.c (j := 4) rfl;have x5 := BX.out.c (j := 5) rfl;have x6 := BX.out.c (j := 6) rfl;have xl := BX.out.lt;obtain ⟨s, hs⟩ : ∃ s, (⟨(nmI benL k0).toArray⟩ : ByteArray) = s := ⟨_, rfl⟩;have hE := Hj (bw_of nm_ben hs);obtain ⟨E, hE2⟩ : ∃ E, s.toList.isEmpty = E := ⟨_, rfl⟩;rw [hE2] at hE;have HSm := Hj hs;clear hs;have VT := Hj fun w' (r : Rel X w') => ValidExpr_any t _ w' (KT.out w' ((R1.out.trans (hR.out.trans RX.out)).trans r)) (by omega) (Hj (HT.out.rel ((R1.out.trans (hR.out.trans RX.out)).trans r)))
                    obtain ⟨YT, hYT⟩ : ∃ b, t.valid = b := ⟨_, rfl⟩;rw [hYT] at VT;unfold BRes at VT;have HYT := Hj hYT;clear hYT;go_upto_region 32 with (fail);(try rw [hX]);cases E
                    ·have hE' : bwB 1 5 k0 = true := hE.out;cases YT
                     ·skip
                      refine wp_region_calm (fun _ w' => Rel X w') (fun _ => false) [1, 2] 9 (by kernel_rfl) (by kernel_rfl) ?hst ?hS0 (fun w0 h0 => ?_)
                      case hst => exact fun _ _ _ h r => h.trans r
                      case hS0 => exact Rel.refl _
                      iterate 2
                       refine wpCalm_go rfl (by kernel_rfl) (fun K hK => ?_);apply Exists.intro;refine ⟨fun M w hM hS => ?_, hK _ ?_⟩
                       ·have d0 := hS.cell x0;have d1 := hS.cell x1;have d2 := hS.cell x2;have d3 := hS.cell x3;have d4 := hS.cell x4;have d5 := hS.cell x5;have d6 := hS.cell x6;unfold calmAt;go_simp;exact ⟨rfl, Rel.refl _⟩
                       clear hK K
                      refine wpCalm_nil ?_;have H0 := Hj h0;clear h0;refine wpAnyR_ready (rs := [0]) (by kernel_rfl) (by simp) (AllR.cons rfl (fun w6 h6 K' hK' => ?_) AllR.nil);go_simp;refine (benefits_any w6).mono ?_;rintro e w7 ⟨gt, rfl, hT, h7⟩;have R7 := Hj ((H0.out.trans h6).trans h7);have HTt := Hj hT;clear h6 h7 hT;refine hK'.out _ _ R7.out ?_;clear hK' K';refine wpAnyR_ready (rs := [3]) (by kernel_rfl) (by simp) (AllR.cons rfl (fun w8 h8 K' hK' => ?_) AllR.nil);go_simp;refine (byN_any benL 5 gt 5 k0 _ w8 (HTt.out.rel h8) rfl (by decide) HSm.out).mono ?_;rintro e w9 ⟨rfl, h9⟩;have R9 := Hj ((R7.out.trans h8).trans h9);clear h8 h9 HTt;refine hK'.out _ _ R9.out ?_;clear hK' K';refine wpAnyR_more [4, 5, 6, 7, 8, 9, 10] 0 (by kernel_rfl) (fun _ _ _ h r => h.trans r) R9.out ?_
                      iterate 4
                       refine wpCalm_go rfl (by kernel_rfl) (fun K hK => ?_);apply Exists.intro;refine ⟨fun M w hM hS => ?_, hK _ ?_⟩
                       ·have d0 := hS.cell x0;have d1 := hS.cell x1;have d2 := hS.cell x2;have d3 := hS.cell x3;have d4 := hS.cell x4;have d5 := hS.cell x5;have d6 := hS.cell x6;unfold calmAt;go_simp;exact ⟨rfl, Rel.refl _⟩
                       clear hK K
                      refine wpCalm_go rfl (by kernel_rfl) (fun K hK => ?_);apply Exists.intro;refine ⟨fun M w hM hS => ?_, hK _ ?_⟩
                      ·unfold calmAt;go_simp
                       with_reducible refine (VT.out _ hS).mono ?_
                       rintro e w1 ⟨rfl, hb⟩;exact ⟨rfl, hb⟩
                      clear hK K
                      iterate 2
                       refine wpCalm_go rfl (by kernel_rfl) (fun K hK => ?_);apply Exists.intro;refine ⟨fun M w hM hS => ?_, hK _ ?_⟩
                       ·have d0 := hS.cell x0;have d1 := hS.cell x1;have d2 := hS.cell x2;have d3 := hS.cell x3;have d4 := hS.cell x4;have d5 := hS.cell x5;have d6 := hS.cell x6;unfold calmAt;go_simp;exact ⟨rfl, Rel.refl _⟩
                       clear hK K
                      refine wpCalm_nil (wpAnyR_end (by kernel_rfl) (fun w1 h1 => ?_));simp only [Act.put, zla, zlb, zlc];have R2 : Hid (Rel wA w1) := hR.out.trans (RX.out.trans (R9.out.trans h1));clear h1 R9 R7;have hf : reW (k0, (t, .slice xa t.cnt xc)) = false := by unfold reW; simp only; rw [HYT.out]; simp
                      have fin : Hid (V = false) := by
                       show _ = _
                       rw [VV6.out, allK_no HP.out hf]; (try simp)
                      go_wp2;go_ret;exact ⟨ret_b2 fin.out.symm, R0.out.trans (R1.out.trans R2.out)⟩
                     ·skip
                      refine wp_region_calm (fun _ w' => Rel X w') (fun _ => false) [1, 2] 9 (by kernel_rfl) (by kernel_rfl) ?hst ?hS0 (fun w0 h0 => ?_)
                      case hst => exact fun _ _ _ h r => h.trans r
                      case hS0 => exact Rel.refl _
                      iterate 2
                       refine wpCalm_go rfl (by kernel_rfl) (fun K hK => ?_);apply Exists.intro;refine ⟨fun M w hM hS => ?_, hK _ ?_⟩
                       ·have d0 := hS.cell x0;have d1 := hS.cell x1;have d2 := hS.cell x2;have d3 := hS.cell x3;have d4 := hS.cell x4;have d5 := hS.cell x5;have d6 := hS.cell x6;unfold calmAt;go_simp;exact ⟨rfl, Rel.refl _⟩
                       clear hK K
                      refine wpCalm_nil ?_;have H0 := Hj h0;clear h0;refine wpAnyR_ready (rs := [0]) (by kernel_rfl) (by simp) (AllR.cons rfl (fun w6 h6 K' hK' => ?_) AllR.nil);go_simp;refine (benefits_any w6).mono ?_;rintro e w7 ⟨gt, rfl, hT, h7⟩;have R7 := Hj ((H0.out.trans h6).trans h7);have HTt := Hj hT;clear h6 h7 hT;refine hK'.out _ _ R7.out ?_;clear hK' K';refine wpAnyR_ready (rs := [3]) (by kernel_rfl) (by simp) (AllR.cons rfl (fun w8 h8 K' hK' => ?_) AllR.nil);go_simp;refine (byN_any benL 5 gt 5 k0 _ w8 (HTt.out.rel h8) rfl (by decide) HSm.out).mono ?_;rintro e w9 ⟨rfl, h9⟩;have R9 := Hj ((R7.out.trans h8).trans h9);clear h8 h9 HTt;refine hK'.out _ _ R9.out ?_;clear hK' K';refine wpAnyR_more [4, 5, 6, 7, 8, 9, 10] 0 (by kernel_rfl) (fun _ _ _ h r => h.trans r) R9.out ?_
                      iterate 4
                       refine wpCalm_go rfl (by kernel_rfl) (fun K hK => ?_);apply Exists.intro;refine ⟨fun M w hM hS => ?_, hK _ ?_⟩
                       ·have d0 := hS.cell x0;have d1 := hS.cell x1;have d2 := hS.cell x2;have d3 := hS.cell x3;have d4 := hS.cell x4;have d5 := hS.cell x5;have d6 := hS.cell x6;unfold calmAt;go_simp;exact ⟨rfl, Rel.refl _⟩
                       clear hK K
                      refine wpCalm_go rfl (by kernel_rfl) (fun K hK => ?_);apply Exists.intro;refine ⟨fun M w hM hS => ?_, hK _ ?_⟩
                      ·unfold calmAt;go_simp
                       with_reducible refine (VT.out _ hS).mono ?_
                       rintro e w1 ⟨rfl, hb⟩;exact ⟨rfl, hb⟩
                      clear hK K
                      iterate 2
                       refine wpCalm_go rfl (by kernel_rfl) (fun K hK => ?_);apply Exists.intro;refine ⟨fun M w hM hS => ?_, hK _ ?_⟩
                       ·have d0 := hS.cell x0;have d1 := hS.cell x1;have d2 := hS.cell x2;have d3 := hS.cell x3;have d4 := hS.cell x4;have d5 := hS.cell x5;have d6 := hS.cell x6;unfold calmAt;go_simp;exact ⟨rfl, Rel.refl _⟩
                       clear hK K
                      refine wpCalm_nil (wpAnyR_end (by kernel_rfl) (fun w1 h1 => ?_));simp only [Act.put, zla, zlb, zlc];have R2 : Hid (Rel wA w1) := hR.out.trans (RX.out.trans (R9.out.trans h1));clear h1 R9 R7;have hf : reW (k0, (t, .slice xa t.cnt xc)) = true := by unfold reW; simp only; rw [hE', HYT.out]; rfl
                      have fin : Hid (allK reW re (k + 1) = true) := by
                       show _ = _
                       rw [allK_succ HP.out, hA.out, hf]; rfl
                      go_wp2
                      go_roundw
                      case rel => exact ⟨k + 1, by omega, by go_num, fin, R2⟩
                      case measure => simp [intOf]; omega
                    ·have hE' : bwB 1 5 k0 = false := hE.out;refine wp_region_calm (fun _ w' => Rel X w') (fun _ => false) [1, 2] 9 (by kernel_rfl) (by kernel_rfl) ?hst ?hS0 (fun w0 h0 => ?_)
                     case hst => exact fun _ _ _ h r => h.trans r
                     case hS0 => exact Rel.refl _
                     iterate 2
                      refine wpCalm_go rfl (by kernel_rfl) (fun K hK => ?_);apply Exists.intro;refine ⟨fun M w hM hS => ?_, hK _ ?_⟩
                      ·have d0 := hS.cell x0;have d1 := hS.cell x1;have d2 := hS.cell x2;have d3 := hS.cell x3;have d4 := hS.cell x4;have d5 := hS.cell x5;have d6 := hS.cell x6;unfold calmAt;go_simp;exact ⟨rfl, Rel.refl _⟩
                      clear hK K
                     refine wpCalm_nil ?_;have H0 := Hj h0;clear h0;refine wpAnyR_ready (rs := [0]) (by kernel_rfl) (by simp) (AllR.cons rfl (fun w6 h6 K' hK' => ?_) AllR.nil);go_simp;refine (benefits_any w6).mono ?_;rintro e w7 ⟨gt, rfl, hT, h7⟩;have R7 := Hj ((H0.out.trans h6).trans h7);have HTt := Hj hT;clear h6 h7 hT;refine hK'.out _ _ R7.out ?_;clear hK' K';refine wpAnyR_ready (rs := [3]) (by kernel_rfl) (by simp) (AllR.cons rfl (fun w8 h8 K' hK' => ?_) AllR.nil);go_simp;refine (byN_any benL 5 gt 5 k0 _ w8 (HTt.out.rel h8) rfl (by decide) HSm.out).mono ?_;rintro e w9 ⟨rfl, h9⟩;have R9 := Hj ((R7.out.trans h8).trans h9);clear h8 h9 HTt;refine hK'.out _ _ R9.out ?_;clear hK' K';refine wpAnyR_more [4, 5, 6, 7, 8, 9, 10] 0 (by kernel_rfl) (fun _ _ _ h r => h.trans r) R9.out ?_
                     iterate 2
                      refine wpCalm_go rfl (by kernel_rfl) (fun K hK => ?_);apply Exists.intro;refine ⟨fun M w hM hS => ?_, hK _ ?_⟩
                      ·have d0 := hS.cell x0;have d1 := hS.cell x1;have d2 := hS.cell x2;have d3 := hS.cell x3;have d4 := hS.cell x4;have d5 := hS.cell x5;have d6 := hS.cell x6;unfold calmAt;go_simp;exact ⟨rfl, Rel.refl _⟩
                      clear hK K
                     iterate 4 (refine wpCalm_no rfl (by kernel_rfl) (fun K hK => hK _ ?_); clear hK K)
                     iterate 1
                      refine wpCalm_go rfl (by kernel_rfl) (fun K hK => ?_);apply Exists.intro;refine ⟨fun M w hM hS => ?_, hK _ ?_⟩
                      ·have d0 := hS.cell x0;have d1 := hS.cell x1;have d2 := hS.cell x2;have d3 := hS.cell x3;have d4 := hS.cell x4;have d5 := hS.cell x5;have d6 := hS.cell x6;unfold calmAt;go_simp;exact ⟨rfl, Rel.refl _⟩
                      clear hK K
                     refine wpCalm_nil (wpAnyR_end (by kernel_rfl) (fun w1 h1 => ?_));simp only [Act.put, zla, zlb, zlc];have R2 : Hid (Rel wA w1) := hR.out.trans (RX.out.trans (R9.out.trans h1));clear h1 R9 R7;have hf : reW (k0, (t, .slice xa t.cnt xc)) = false := by unfold reW; simp only; rw [hE']; (try rfl)
                     have fin : Hid (V = false) := by
                      show _ = _
                      rw [VV6.out, allK_no HP.out hf]; (try simp)
                     go_wp2;go_ret;exact ⟨ret_b2 fin.out.symm, R0.out.trans (R1.out.trans R2.out)⟩
                   ·obtain rfl : k = nr := by omega
                    have VV7 : Hid (V = true) := by
                     show _ = _
                     rw [VV6.out, ← allK_full (f := reW) (L := re) (Nat.le_of_eq HNR.out), hA.out]
                    have RA := hR;clear hR hA VV6 hlt;have fin : Hid (V = true) := VV7.out;go_wp2;go_ret;exact ⟨ret_b2 fin.out.symm, R0.out.trans (R1.out.trans RA.out)⟩
  ·have fin : Hid (V = false) := by show _ = _; rw [VV.out]; simp
   refine wp_region_calm (fun _ w' => w'.cell? ⟨w.heap.size, 0, none⟩ = some (.int .i64 frm) ∧ w'.cell? ⟨w.heap.size, 1, none⟩ = some (.int .i64 mode) ∧ w'.cell? ⟨w.heap.size, 2, none⟩ = some (.int .i64 unit)) (fun _ => false) [0, 1, 2, 3, 4, 6, 7, 8] 16 (by kernel_rfl) (by kernel_rfl) ?hst ?hS0 (fun w0 h0 => ?_)
   case hst => exact fun _ _ _ h r => ⟨r.cell h.1, r.cell h.2.1, r.cell h.2.2⟩
   case hS0 => exact ⟨b0, b1, b2⟩
   iterate 2
    refine wpCalm_go rfl (by kernel_rfl) (fun K hK => ?_);apply Exists.intro;refine ⟨fun M w hM hS => ?_, hK _ ?_⟩
    ·have d0 := hS.1;have d1 := hS.2.1;have d2 := hS.2.2;unfold calmAt;go_simp;exact ⟨rfl, Rel.refl _⟩
    clear hK K
   refine wpCalm_go rfl (by kernel_rfl) (fun K hK => ?_);apply Exists.intro;refine ⟨fun M w hM hS => ?_, hK _ ?_⟩
   ·unfold calmAt;go_simp
    with_reducible refine (VD.out _).mono ?_
    rintro e w1 ⟨rfl, hb⟩;exact ⟨rfl, hb⟩
   clear hK K
   iterate 5
    refine wpCalm_go rfl (by kernel_rfl) (fun K hK => ?_);apply Exists.intro;refine ⟨fun M w hM hS => ?_, hK _ ?_⟩
    ·have d0 := hS.1;have d1 := hS.2.1;have d2 := hS.2.2;unfold calmAt;go_simp;exact ⟨rfl, Rel.refl _⟩
    clear hK K
   refine wpCalm_nil ?_;have H0 := Hj h0;clear h0;refine wpAnyR_ready (rs := [5]) (by kernel_rfl) (by simp) (AllR.cons rfl (fun w6 h6 K' hK' => ?_) AllR.nil);go_simp;refine (modes_any w6).mono ?_;rintro e w7 ⟨gt, rfl, hT, h7⟩;have R7 := Hj ((H0.out.trans h6).trans h7);have HTt := Hj hT;clear h6 h7 hT;refine hK'.out _ _ ⟨R7.out.cell b0, R7.out.cell b1, R7.out.cell b2⟩ ?_;clear hK' K';refine wpAnyR_ready (rs := [9]) (by kernel_rfl) (by simp) (AllR.cons rfl (fun w8 h8 K' hK' => ?_) AllR.nil);go_simp;refine (byN_any modL 4 gt 4 mode _ w8 (HTt.out.rel h8) rfl (by decide) HSm.out).mono ?_;rintro e w9 ⟨rfl, h9⟩;have R9 := Hj ((R7.out.trans h8).trans h9);clear h8 h9 HTt;refine hK'.out _ _ ⟨R9.out.cell b0, R9.out.cell b1, R9.out.cell b2⟩ ?_;clear hK' K';refine wpAnyR_more [10, 11, 12, 13, 14, 15, 16, 17, 18, 19, 20, 21, 22, 23] 0 (by kernel_rfl) (fun _ _ _ h r => ⟨r.cell h.1, r.cell h.2.1, r.cell h.2.2⟩) ⟨R9.out.cell b0, R9.out.cell b1, R9.out.cell b2⟩ ?_
   iterate 3
    refine wpCalm_go rfl (by kernel_rfl) (fun K hK => ?_);apply Exists.intro;refine ⟨fun M w hM hS => ?_, hK _ ?_⟩
    ·have d0 := hS.1;have d1 := hS.2.1;have d2 := hS.2.2;unfold calmAt;go_simp;exact ⟨rfl, Rel.refl _⟩
    clear hK K
   iterate 4 (refine wpCalm_no rfl (by kernel_rfl) (fun K hK => hK _ ?_); clear hK K)
   iterate 2
    refine wpCalm_go rfl (by kernel_rfl) (fun K hK => ?_);apply Exists.intro;refine ⟨fun M w hM hS => ?_, hK _ ?_⟩
    ·have d0 := hS.1;have d1 := hS.2.1;have d2 := hS.2.2;unfold calmAt;go_simp;exact ⟨rfl, Rel.refl _⟩
    clear hK K
   iterate 4 (refine wpCalm_no rfl (by kernel_rfl) (fun K hK => hK _ ?_); clear hK K)
   iterate 1
    refine wpCalm_go rfl (by kernel_rfl) (fun K hK => ?_);apply Exists.intro;refine ⟨fun M w hM hS => ?_, hK _ ?_⟩
    ·have d0 := hS.1;have d1 := hS.2.1;have d2 := hS.2.2;unfold calmAt;go_simp;exact ⟨rfl, Rel.refl _⟩
    clear hK K
   refine wpCalm_nil (wpAnyR_end (by kernel_rfl) (fun w1 h1 => ?_));simp only [Act.put, zla, zlb, zlc];have R2 : Hid (Rel WB w1) := R9.out.trans h1;clear h1;go_wp2;go_ret;exact ⟨ret_b2 fin.out.symm, R0.out.trans R2.out⟩
end Go.Proofs.YtojghojlapgbiaaGreatDoor

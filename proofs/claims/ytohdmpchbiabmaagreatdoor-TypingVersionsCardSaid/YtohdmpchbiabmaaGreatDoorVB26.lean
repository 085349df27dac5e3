/- Bundle of texts: each says at its head what it proves; no conditions but those printed. -/
import Derived.Test.YtohdmpchbiabmaaGreatDoorVB19
import Derived.Test.YtohdmpchbiabmaaGreatDoorVB24
import Derived.Test.YtohdmpchbiabmaaGreatDoorVB25
import Derived.Test.YtohdmpchbiabmaaGreatDoorVB9
namespace Go.Proofs.YtohdmpchbiabmaaGreatDoor
open Go.RowKit Cal Str Tok Frac Txt Tree
attribute [local go_sem] calmUpon
set_option linter.unusedVariables false
set_option linter.unusedSimpArgs false
set_option maxRecDepth 20000 in
set_option maxHeartbeats 8000000 in
theorem walk_TypingVersions (w : World) (ht : TabW w) (r : RawV) (b0 : RawIn w r) :
  Calls Tryz.prog 3 #[r.val] w (BRes true w) := by
 have HT := Hj ht;have HB := Hj b0;clear ht b0;unfold BRes;obtain ⟨f, m, u, t, vc, vs, vl, vi, vp, vk, nc, ns, nl, ni, np, nk⟩ := r;obtain ⟨aa, ka, hva, -⟩ := id HB.out.c;obtain ⟨ab, kb, hvb, -⟩ := id HB.out.s;obtain ⟨ad, kd, hvd, -⟩ := id HB.out.l;obtain ⟨ae, ke, hve, -⟩ := id HB.out.i;obtain ⟨af, kf, hvf, -⟩ := id HB.out.p;obtain ⟨ag, kg, hvg, -⟩ := id HB.out.k;simp only at hva hvb hvd hve hvf hvg;subst hva hvb hvd hve hvf hvg;have OF := Hj fun w' (x : Rel w w') => vOf_any _ w' (HB.out.rel x)
 unfold RawV.val at OF;unfold RawV.val;simp only at OF ⊢;unfold OfRes at OF;go_enter Tryz.func3, Tryz.ntmps3;go_wp2_with fail;refine (OF.out _ ((Rel.refl _).alloc _)).mono ?_;rintro e w1 ⟨mm, b1', b2', b3', b4', rfl, hI, hO, h1, -, h5, -⟩;have R1 : Hid (Rel w w1) := ((Rel.refl _).alloc _).trans h1;have HV : Hid (VerAt w1 mm) := hI.toB.at;unfold VerM.val;obtain ⟨X, hX⟩ : ∃ X, w1.alloc (.cells #[.int .i64 mm.frm, .int .i64 mm.mode, .int .i64 mm.unit, .slice mm.ca mm.cr.length mm.cc, .slice mm.sa mm.se.length mm.sc, .slice mm.la mm.le.length mm.lc, .slice mm.ga mm.gr.length mm.gc, .slice mm.ra mm.re.length mm.rc] 34) = X := ⟨_, rfl⟩;have RX : Hid (Rel w1 X) := by show Rel _ _; rw [← hX]; exact (Rel.refl w1).alloc _
 have BX : Hid (Blk X w1.heap.size 34 [.int .i64 mm.frm, .int .i64 mm.mode, .int .i64 mm.unit, .slice mm.ca mm.cr.length mm.cc, .slice mm.sa mm.se.length mm.sc, .slice mm.la mm.le.length mm.lc, .slice mm.ga mm.gr.length mm.gc, .slice mm.ra mm.re.length mm.rc]) := by show Blk _ _ _ _; rw [← hX]; exact Blk.new w1 _ #[.int .i64 mm.frm, .int .i64 mm.mode, .int .i64 mm.unit, .slice mm.ca mm.cr.length mm.cc, .slice mm.sa mm.se.length mm.sc, .slice mm.la mm.le.length mm.lc, .slice mm.ga mm.gr.length mm.gc, .slice mm.ra mm.re.length mm.rc]
 have V1 := Hj fun w' (r : Rel X w') => Version_any mm w' (VerB.rel HV.out (RX.out.trans r)) (HT.out.rel (R1.out.trans (RX.out.trans r)))
 have V2 := Hj fun w' (r : Rel X w') => rVersion_any mm w' (VerB.rel HV.out (RX.out.trans r))
 have A0 := Hj fun w' (r : Rel X w') => awake7_any w' (HT.out.rel (R1.out.trans (RX.out.trans r)))
 unfold IntRes VerM.val at V1 V2;unfold BRes at A0;obtain ⟨z, hz⟩ : ∃ z, verV mm = z := ⟨_, rfl⟩;rw [hz] at V1 V2;have bt0 := BX.out.c (j := 0) rfl;have bt1 := BX.out.c (j := 1) rfl;have bt2 := BX.out.c (j := 2) rfl;have bt3 := BX.out.c (j := 3) rfl;have bt4 := BX.out.c (j := 4) rfl;have bt5 := BX.out.c (j := 5) rfl;have bt6 := BX.out.c (j := 6) rfl;have bt7 := BX.out.c (j := 7) rfl;clear hI hO h1 h5 hz;go_wp2_with fail;(try rw [hX]);clear hX;refine wp_region_calm (fun _ w' => Rel X w') (fun _ => false) [0, 1, 2, 3, 4, 5, 6, 7, 8] 0 (by kernel_rfl) (by kernel_rfl) ?hst ?hS0 (fun w0 h0 => ?_)
 case hst => exact fun _ _ _ h r => h.trans r
 case hS0 => exact Rel.refl _
 refine wpCalm_go rfl (by kernel_rfl) (fun K hK => ?_);apply Exists.intro;refine ⟨fun M w hM hS => ?_, hK _ ?_⟩
 ·unfold calmAt;go_simp
  with_reducible refine (A0.out _ hS).mono ?_
  rintro e w1 ⟨rfl, hb⟩;exact ⟨rfl, hb⟩
 clear hK K
 iterate 2
  refine wpCalm_go rfl (by kernel_rfl) (fun K hK => ?_);apply Exists.intro;refine ⟨fun M w hM hS => ?_, hK _ ?_⟩
  ·have c0 := hS.cell bt0;have c1 := hS.cell bt1;have c2 := hS.cell bt2;have c3 := hS.cell bt3;have c4 := hS.cell bt4;have c5 := hS.cell bt5;have c6 := hS.cell bt6;have c7 := hS.cell bt7;unfold calmAt;go_simp;exact ⟨rfl, Rel.refl _⟩
  clear hK K
 refine wpCalm_go rfl (by kernel_rfl) (fun K hK => ?_);apply Exists.intro;refine ⟨fun M w hM hS => ?_, hK _ ?_⟩
 ·unfold calmAt;go_simp
  with_reducible refine (V1.out _ hS).mono ?_
  rintro e w1 ⟨rfl, hb⟩;exact ⟨rfl, hb⟩
 clear hK K
 iterate 1
  refine wpCalm_go rfl (by kernel_rfl) (fun K hK => ?_);apply Exists.intro;refine ⟨fun M w hM hS => ?_, hK _ ?_⟩
  ·have c0 := hS.cell bt0;have c1 := hS.cell bt1;have c2 := hS.cell bt2;have c3 := hS.cell bt3;have c4 := hS.cell bt4;have c5 := hS.cell bt5;have c6 := hS.cell bt6;have c7 := hS.cell bt7;unfold calmAt;go_simp;exact ⟨rfl, Rel.refl _⟩
  clear hK K
 refine wpCalm_go rfl (by kernel_rfl) (fun K hK => ?_);apply Exists.intro;refine ⟨fun M w hM hS => ?_, hK _ ?_⟩
 ·unfold calmAt;go_simp
  with_reducible refine (V2.out _ hS).mono ?_
  rintro e w1 ⟨rfl, hb⟩;exact ⟨rfl, hb⟩
 clear hK K
 iterate 3
  refine wpCalm_go rfl (by kernel_rfl) (fun K hK => ?_);apply Exists.intro;refine ⟨fun M w hM hS => ?_, hK _ ?_⟩
  ·unfold calmAt;go_simp;exact ⟨rfl, Rel.refl _⟩
  clear hK K
 refine wpAnyR_end (by kernel_rfl) (fun w3 h3' => ?_);(try simp only [Act.put, List.setIfInBounds_toArray, List.set_cons_zero, List.set_cons_succ]);have h3 := h0.trans h3';clear h0 h3';have kz3 := h3.size;(try simp only [World.size_alloc, World.size_setCell, World.size_drew] at kz3);have H3 := Hj h3;clear h3;go_wp2;go_ret;exact ⟨ret_b2 (by simp), R1.out.trans (RX.out.trans H3.out)⟩
end Go.Proofs.YtohdmpchbiabmaaGreatDoor

/- Bundle of texts: each says at its head what it proves; no conditions but those printed. -/
import Derived.Test.YtohdmpchbiabmaaGreatDoorVB19
import Derived.Test.YtohdmpchbiabmaaGreatDoorVB24
import Derived.Test.YtohdmpchbiabmaaGreatDoorVB9
namespace Go.Proofs.YtohdmpchbiabmaaGreatDoor
open Go.RowKit Cal Str Tok Frac Txt Tree
attribute [local go_sem] calmUpon
set_option linter.unusedVariables false
set_option linter.unusedSimpArgs false
set_option maxRecDepth 20000 in
set_option maxHeartbeats 8000000 in
theorem walk_TypingSound (w : World) (ht : TabW w) (r : RawV) (b0 : RawIn w r) :
  Calls Tryz.prog 4 #[r.val] w (BRes true w) := by
 have HT := Hj ht;have HB := Hj b0;clear ht b0;unfold BRes;obtain ⟨f, m, u, t, vc, vs, vl, vi, vp, vk, nc, ns, nl, ni, np, nk⟩ := r;obtain ⟨aa, ka, hva, -⟩ := id HB.out.c;obtain ⟨ab, kb, hvb, -⟩ := id HB.out.s;obtain ⟨ad, kd, hvd, -⟩ := id HB.out.l;obtain ⟨ae, ke, hve, -⟩ := id HB.out.i;obtain ⟨af, kf, hvf, -⟩ := id HB.out.p;obtain ⟨ag, kg, hvg, -⟩ := id HB.out.k;simp only at hva hvb hvd hve hvf hvg;subst hva hvb hvd hve hvf hvg
 have OF := Hj fun w' (x : Rel w w') => vOf_any ⟨f, m, u, 1, .slice aa nc ka, .slice ab ns kb, .slice ad nl kd, .slice ae ni ke, .slice af np kf, .slice ag nk kg, nc, ns, nl, ni, np, nk⟩ w' (by
  have h := HB.out.rel x
  exact ⟨h.f, h.m, h.u, ⟨by show (_ : Int) ≤ 1; decide, by show (1 : Int) ≤ _; decide⟩, h.c, h.s, h.l, h.i, h.p, h.k⟩)
 unfold RawV.val at OF;unfold RawV.val;simp only at OF ⊢;unfold OfRes at OF;obtain ⟨Y, hY⟩ : ∃ Y, (w.alloc (.cells #[.int .i64 f, .int .i64 m, .int .i64 u, .slice aa nc ka, .slice ab ns kb, .slice ad nl kd, .slice ae ni ke, .slice af np kf, .slice ag nk kg, .int .i64 t] 25)).setCell ⟨w.heap.size, 9, none⟩ (.int .i64 1) = Y := ⟨_, rfl⟩;have RY : Hid (Rel w Y) := by show Rel _ _; rw [← hY]; exact ((Rel.refl w).alloc _).setCell (p := ⟨w.heap.size, 9, none⟩) (Nat.le_refl _) _
 have BY : Hid (Blk Y w.heap.size 25 [.int .i64 f, .int .i64 m, .int .i64 u, .slice aa nc ka, .slice ab ns kb, .slice ad nl kd, .slice ae ni ke, .slice af np kf, .slice ag nk kg, .int .i64 1]) := by show Blk _ _ _ _; rw [← hY]; exact (Blk.new w _ #[.int .i64 f, .int .i64 m, .int .i64 u, .slice aa nc ka, .slice ab ns kb, .slice ad nl kd, .slice ae ni ke, .slice af np kf, .slice ag nk kg, .int .i64 t]).set 9 (.int .i64 1)
 have A0 := Hj (awake7_any Y (HT.out.rel RY.out));unfold BRes at A0;go_enter Tryz.func4, Tryz.ntmps4;go_wp2_with fail;(try rw [hY]);refine A0.out.mono ?_;rintro e w1 ⟨rfl, h1⟩;have R1 : Hid (Rel w w1) := RY.out.trans h1;have B1 := Hj (BY.out.rel h1);have bt0 := B1.out.c (j := 0) rfl;have bt1 := B1.out.c (j := 1) rfl;have bt2 := B1.out.c (j := 2) rfl;have bt3 := B1.out.c (j := 3) rfl;have bt4 := B1.out.c (j := 4) rfl;have bt5 := B1.out.c (j := 5) rfl;have bt6 := B1.out.c (j := 6) rfl;have bt7 := B1.out.c (j := 7) rfl;have bt8 := B1.out.c (j := 8) rfl;have bt9 := B1.out.c (j := 9) rfl;have bl := B1.out.lt;clear h1 A0 hY;go_wp2_with fail;refine (OF.out _ R1.out).mono ?_;rintro e w2 ⟨mm, b1', b2', b3', b4', rfl, hI, hO, h2, -, h5, hF⟩;have R2 : Hid (Rel w w2) := R1.out.trans h2;have HV : Hid (VerAt w2 mm) := hI.toB.at;obtain ⟨D, hD⟩ := hF (.inr (by decide));have V1 := Hj (Version_any mm w2 HV.out (HT.out.rel R2.out));rw [made_sound hD] at V1;unfold IntRes VerM.val at V1;unfold VerM.val;clear hI hO h2 h5 hF hD;go_wp2_with fail;refine V1.out.mono ?_;rintro e w3 ⟨rfl, h3⟩;have R3 : Hid (Rel w w3) := R2.out.trans h3;clear h3;go_wp2;go_ret;exact ⟨rfl, R3.out⟩
end Go.Proofs.YtohdmpchbiabmaaGreatDoor

/- Bundle of texts: each says at its head what it proves; no conditions but those printed. -/
import Derived.Test.YtlmclkaighlfaaaGreatDoorSB23
namespace Go.Proofs.YtlmclkaighlfaaaGreatDoor
set_option maxHeartbeats 16000000
open Go.RowKit Cal Str Tok Frac Txt Tree
attribute [local go_sem] calmUpon
set_option linter.unusedVariables false
set_option linter.unusedSimpArgs false
theorem kids_form {t : Ex} {w : World} {x : Value} (h : ExKids t w x) : ∃ a n c, x = .slice a n c := by
 obtain ⟨a, c, e⟩ := kids_slice h;exact ⟨a, _, c, e⟩
set_option maxRecDepth 20000 in
theorem Version_any (m : VerM) (w : World) (hV : VerAt w m) (ht : TabW w) : Calls Tryz.prog 23 #[m.val] w (IntRes (verV m) w) := by
 obtain ⟨frm, mode, unit, cr, se, le, gr, re, ca, sa, la, ga, ra, cc, sc, lc, gc, rc⟩ := m;have q0 : cr.length ≤ cc := hV.q0;have q3 : gr.length ≤ gc := hV.q3;have q4 : re.length ≤ rc := hV.q4;have n0 : cr.length ≤ 100000 := hV.n0;have n1 : se.length ≤ 100000 := hV.n1;have n3 : gr.length ≤ 100000 := hV.n3;have n4 : re.length ≤ 100000 := hV.n4;obtain ⟨⟨c, E⟩, hcE⟩ : ∃ r, letsR le = r := ⟨_, rfl⟩;obtain ⟨WB, hWB⟩ : ∃ X, w.alloc (.cells #[.int .i64 frm, .int .i64 mode, .int .i64 unit, .slice ca cr.length cc, .slice sa se.length sc, .slice la le.length lc, .slice ga gr.length gc, .slice ra re.length rc] 41) = X := ⟨_, rfl⟩;have R0 : Hid (Rel w WB) := by show Rel _ _; rw [← hWB]; exact (Rel.refl w).alloc _
 have BW : Hid (Blk WB w.heap.size 41 [.int .i64 frm, .int .i64 mode, .int .i64 unit, .slice ca cr.length cc, .slice sa se.length sc, .slice la le.length lc, .slice ga gr.length gc, .slice ra re.length rc]) := by show Blk _ _ _ _; rw [← hWB]; exact Blk.new w _ #[.int .i64 frm, .int .i64 mode, .int .i64 unit, .slice ca cr.length cc, .slice sa se.length sc, .slice la le.length lc, .slice ga gr.length gc, .slice ra re.length rc]
 have LT : Hid (LetsAt WB la le) := LetsAt.rel ⟨hV.n2, hV.r2, hV.b2⟩ R0.out;have ROWC : Hid (0 < cr.length → ∃ g off, ca = some ⟨g, off, none⟩ ∧ g < WB.heap.size ∧ True ∧ ∀ i p, cr[i]? = some p → ∀ j u, (crC p)[j]? = some u → WB.cell? ⟨g, off + i * 2 + j, none⟩ = some u) := fun h => row_open (hV.r0.keep (Below.size R0.out) (fun q hq hp => ⟨Below.block R0.out q hq, hp⟩)) crC_len (by decide) h
 have ROWS : Hid (0 < se.length → ∃ g off, sa = some ⟨g, off, none⟩ ∧ g < WB.heap.size ∧ True ∧ ∀ i p, se[i]? = some p → ∀ j u, (seC p)[j]? = some u → WB.cell? ⟨g, off + i * 3 + j, none⟩ = some u) := fun h => row_open (hV.r1.keep (Below.size R0.out) (fun q hq hp => ⟨Below.block R0.out q hq, hp⟩)) seC_len (by decide) h
 have ROWG : Hid (0 < gr.length → ∃ g off, ga = some ⟨g, off, none⟩ ∧ g < WB.heap.size ∧ True ∧ ∀ i p, gr[i]? = some p → ∀ j u, (grC p)[j]? = some u → WB.cell? ⟨g, off + i * 13 + j, none⟩ = some u) := fun h => row_open (hV.r3.keep (Below.size R0.out) (fun q hq hp => ⟨Below.block R0.out q hq, hp⟩)) grC_len (by decide) h
 have ROWR : Hid (0 < re.length → ∃ g off, ra = some ⟨g, off, none⟩ ∧ g < WB.heap.size ∧ True ∧ ∀ i p, re[i]? = some p → ∀ j u, (reC p)[j]? = some u → WB.cell? ⟨g, off + i * 7 + j, none⟩ = some u) := fun h => row_open (hV.r4.keep (Below.size R0.out) (fun q hq hp => ⟨Below.block R0.out q hq, hp⟩)) reC_len (by decide) h
 have TGB : Hid (∀ p ∈ gr, GrB (fun _ => True) WB p) := fun p hp => ⟨(hV.b3 p hp).1, (hV.b3 p hp).2.1.rel R0.out, (hV.b3 p hp).2.2.rel R0.out⟩
 have TRB : Hid (∀ p ∈ re, ReB (fun _ => True) WB p) := fun p hp => ⟨(hV.b4 p hp).1, (hV.b4 p hp).2.rel R0.out⟩
 obtain ⟨V, hVV⟩ : ∃ v, verV ⟨frm, mode, unit, cr, se, le, gr, re, ca, sa, la, ga, ra, cc, sc, lc, gc, rc⟩ = v := ⟨_, rfl⟩;have VV : Hid (V = orE c (orE (erK (crX cr) cr.length) (orE (erK (seX se) se.length) (orE (erK (grX E gr) gr.length) (erK (reX E re) re.length))))) := by show _ = _; rw [← hVV]; unfold verV; dsimp only; rw [hcE]
 rw [hVV];have LC := Hj (Lets_any le la lc WB LT.out (ht.rel R0.out));unfold LetsRes at LC;rw [hcE] at LC;dsimp only at LC;unfold VerM.val;dsimp only;unfold IntRes;obtain ⟨nc, hnc⟩ : ∃ n, cr.length = n := ⟨_, rfl⟩;obtain ⟨ns, hns⟩ : ∃ n, se.length = n := ⟨_, rfl⟩;obtain ⟨nl, hnl⟩ : ∃ n, le.length = n := ⟨_, rfl⟩;obtain ⟨ng, hng⟩ : ∃ n, gr.length = n := ⟨_, rfl⟩;obtain ⟨nr, hnr⟩ : ∃ n, re.length = n := ⟨_, rfl⟩;rw [hnc] at q0 n0 VV ROWC;rw [hns] at n1 VV ROWS;rw [hng] at q3 n3 VV ROWG;rw [hnr] at q4 n4 VV ROWR;rw [hnl] at LC;rw [hnc, hns, hnl, hng, hnr] at hWB BW ⊢;have HNC := Hj hnc;have HNS := Hj hns;have HNG := Hj hng;have HNR := Hj hnr;have HT := Hj ht;clear hV hcE hVV hnc hns hnl hng hnr ht;have b5 := BW.out.c (j := 5) rfl;have bl := BW.out.lt;go_enter Tryz.func23, Tryz.ntmps23;go_wp2_with fail;refine LC.out.mono ?_;rintro e wA ⟨ea, ec, rfl, hE1, h1, hbn, hle⟩;obtain ⟨ke, hke⟩ : ∃ n, E.length = n := ⟨_, rfl⟩;rw [hke] at hE1 hle ⊢;have HKE := Hj hke;have E1 := Hj hE1;have R1 := Hj h1;clear hE1 h1 hke hbn LC LT b5 bl;by_cases hc0 : c = 0
 ·subst hc0;have VV1 := Hj (VV.out.trans (orE_zero rfl));clear VV;have b3 := (BW.out.rel R1.out).c (j := 3) rfl;go_wp2_with fail
  go_loopw [28] (fun i wx => ∃ k : Nat, k ≤ nc ∧ i = .int .i64 k ∧ Hid (erK (crX cr) k = 0) ∧ Hid (Rel wA wx)) (fun i _ => nc - (intOf i).toNat)
  case atStart => exact ⟨0, by omega, rfl, rfl, Rel.refl _⟩
  case round =>
   obtain ⟨k, hk, rfl, hA, hR⟩ := hrel;by_cases hlt : k < nc
   ·skip
    have ki : (k : Int) < (nc : Int) := by omega
    obtain ⟨g, off, rfl, hg, -, hc⟩ := ROWC.out (by omega);obtain ⟨p, hp⟩ : ∃ p, cr[k]? = some p := get_some (by rw [HNC.out]; exact hlt);obtain ⟨k0, l0⟩ := p;have c0 := (R1.out.trans hR.out).cell (hc k _ hp 0 _ rfl);have c1 := (R1.out.trans hR.out).cell (hc k _ hp 1 _ rfl);simp only [Nat.add_zero] at c0;have HC := Hj hc;have hg2 := (R1.out.trans hR.out).lt hg;obtain ⟨X, hX⟩ : ∃ X, wr.alloc (.cells #[.int .i64 k0, .int .i64 l0] 43) = X := ⟨_, rfl⟩;have RX : Hid (Rel wr X) := by show Rel _ _; rw [← hX]; exact (Rel.refl wr).alloc _
    have BX : Hid (Blk X wr.heap.size 43 [.int .i64 k0, .int .i64 l0]) := by show Blk _ _ _ _; rw [← hX]; exact Blk.new wr _ #[.int .i64 k0, .int .i64 l0]
    have kc : k ≤ cc := by omega
    have kci : (k : Int) ≤ (cc : Int) := by omega
    have CO := Hj (vcoC_any cr nc k HNC.out (by omega) (by omega) (some ⟨g, off, none⟩) cc k0 wr.heap.size X (Hj fun _ => ⟨g, off, rfl, by have := RX.out.size; omega, trivial, fun i p hp j u hu => ((R1.out.trans hR.out).trans RX.out).cell (HC.out i p hp j u hu)⟩) (Hj (BX.out.c (j := 0) rfl)))
    have XK : Hid (crX cr k = if anK (fun i => kdO cr i == k0) k = true then 10 else 0) := by
     show _ = _
     unfold crX; rw [kd_at hp]
    obtain ⟨Z, hZ⟩ : ∃ Z, anK (fun i => kdO cr i == k0) k = Z := ⟨_, rfl⟩;rw [hZ] at CO XK;unfold BRes at CO;have b3 := (BW.out.rel (R1.out.trans (hR.out.trans RX.out))).c (j := 3) rfl;clear hp hc hZ;go_wp2_with fail;refine CO.out.mono ?_;rintro e w2 ⟨rfl, h2⟩;have H2 := Hj h2;have R2 : Hid (Rel wA w2) := hR.out.trans (RX.out.trans h2);clear h2 CO b3 hX;cases Z
    ·have XK2 : Hid (crX cr k = 0) := XK.out.trans (if_neg (by decide));clear XK
     have fin : Hid (erK (crX cr) (k + 1) = 0) := by
      show _ = _
      simp only [erK]; rw [if_pos hA.out]; exact XK2.out
     go_wp2
     go_roundw
     case rel => exact ⟨k + 1, by omega, by go_num, fin, R2⟩
     case measure => simp [intOf]; omega
    ·have fin : Hid (V = 10) := by
      have h : crX cr k = 10 := XK.out;show _ = _
      rw [VV1.out, erK_hit hlt hA.out (by rw [h]; decide), h]; rfl
     go_wp2;go_ret;exact ⟨int_ret fin.out.symm, R0.out.trans (R1.out.trans R2.out)⟩
   ·obtain rfl : k = nc := by omega
    have VV2 := Hj (VV1.out.trans (orE_zero hA.out));have RA := hR;have b4 := (BW.out.rel (R1.out.trans RA.out)).c (j := 4) rfl;clear hR hA VV1 hlt;go_wp2_with fail
    go_loopw [43] (fun i wx => ∃ k : Nat, k ≤ ns ∧ i = .int .i64 k ∧ Hid (erK (seX se) k = 0) ∧ Hid (Rel wA wx)) (fun i _ => ns - (intOf i).toNat)
    case atStart => exact ⟨0, by omega, rfl, rfl, RA⟩
    case round =>
     obtain ⟨k, hk, rfl, hA, hR⟩ := hrel;by_cases hlt : k < ns
     ·skip
      have ki : (k : Int) < (ns : Int) := by omega
      obtain ⟨g, off, rfl, hg, -, hc⟩ := ROWS.out (by omega);obtain ⟨p, hp⟩ : ∃ p, se[k]? = some p := get_some (by rw [HNS.out]; exact hlt);obtain ⟨k0, l0, m0⟩ := p;have c0 := (R1.out.trans hR.out).cell (hc k _ hp 0 _ rfl);have c1 := (R1.out.trans hR.out).cell (hc k _ hp 1 _ rfl);have c2 := (R1.out.trans hR.out).cell (hc k _ hp 2 _ rfl);simp only [Nat.add_zero] at c0;have HC := Hj hc;have hg2 := (R1.out.trans hR.out).lt hg;obtain ⟨X, hX⟩ : ∃ X, wr.alloc (.cells #[.int .i64 k0, .int .i64 l0, .int .i64 m0] 47) = X := ⟨_, rfl⟩;have RX : Hid (Rel wr X) := by show Rel _ _; rw [← hX]; exact (Rel.refl wr).alloc _
      have BX : Hid (Blk X wr.heap.size 47 [.int .i64 k0, .int .i64 l0, .int .i64 m0]) := by show Blk _ _ _ _; rw [← hX]; exact Blk.new wr _ #[.int .i64 k0, .int .i64 l0, .int .i64 m0]
      have x0 := BX.out.c (j := 0) rfl;have xb := (BW.out.rel (R1.out.trans (hR.out.trans RX.out))).c (j := 4) rfl;by_cases hk0 : k = 0
      ·have e0 : decide ((0 : Int) < (k : Int)) = false := dF (by omega);have e0' : ¬ (0 : Int) < (k : Int) := by omega
       have e0n : decide (0 < k) = false := dF (by omega);have e0m : ¬ 0 < k := by omega
       have XK : Hid (seX se k = 0) := by show _ = _; unfold seX; rw [hk0]; simp
       clear hk0 hp hc;go_wp2_with fail;refine wp_region_calm (fun _ _ => True) (fun _ => false) [0, 1, 2, 3, 4, 5, 6, 7, 8, 9, 10, 11, 12, 13] 0 (by kernel_rfl) (by kernel_rfl) (fun _ _ _ _ _ => trivial) trivial (fun w0 h0 => ?_)
       iterate 3
        refine wpCalm_go rfl (by kernel_rfl) (fun K hK => ?_);apply Exists.intro;refine ⟨fun M w hM hS => ?_, hK _ ?_⟩
        ·unfold calmAt;go_simp;exact ⟨rfl, Rel.refl _⟩
        clear hK K
       iterate 10 (refine wpCalm_no rfl (by kernel_rfl) (fun K hK => hK _ ?_); clear hK K)
       iterate 1
        refine wpCalm_go rfl (by kernel_rfl) (fun K hK => ?_);apply Exists.intro;refine ⟨fun M w hM hS => ?_, hK _ ?_⟩
        ·unfold calmAt;go_simp;exact ⟨rfl, Rel.refl _⟩
        clear hK K
       refine wpCalm_nil (wpAnyR_end (by kernel_rfl) (fun w1 h1 => ?_));simp only [Act.put, zla, zlb, zlc];have R2 : Hid (Rel wA w1) := hR.out.trans (RX.out.trans (h0.trans h1));clear h0 h1
       have fin : Hid (erK (seX se) (k + 1) = 0) := by
        show _ = _
        simp only [erK]; rw [if_pos hA.out]; exact XK.out
       go_wp2
       go_roundw
       case rel => exact ⟨k + 1, by omega, by go_num, fin, R2⟩
       case measure => simp [intOf]; omega
      ·obtain ⟨q, hq⟩ : ∃ q, k = q + 1 := ⟨k - 1, by omega⟩;have e0 : decide ((0 : Int) < (k : Int)) = true := dT (by omega);have e0' : (0 : Int) < (k : Int) := by omega
       have e0n : decide (0 < k) = true := dT (by omega);have e0m : 0 < k := by omega
       have wk : IntKind.i64.wrap ((k : Int) - 1) = (q : Int) := by rw [IntWalk.i64_in _ ⟨by omega, by omega⟩]; omega
       obtain ⟨p', hp'⟩ : ∃ p, se[q]? = some p := get_some (by rw [HNS.out]; omega);obtain ⟨y, l1, m1⟩ := p';have cy := (R1.out.trans (hR.out.trans RX.out)).cell (HC.out q _ hp' 0 _ rfl);simp only [Nat.add_zero] at cy;have qi : (q : Int) < (ns : Int) := by omega
       have qn : q < ns := by omega
       obtain ⟨Z, hZ⟩ : ∃ Z, decide (k0 ≤ y) = Z := ⟨_, rfl⟩
       have XK : Hid (seX se k = if Z = true then 1 else 0) := by
        show _ = _
        unfold seX;rw [yr_at hp, show k - 1 = q by omega, yr_at hp'];simp only;rw [hZ, dT (show 0 < k by omega), Bool.true_and]
       clear hk0 hp hc hp' hq;go_wp2_with fail;refine wp_region_calm (fun _ w' => w'.cell? ⟨wr.heap.size, 0, none⟩ = some (.int .i64 k0) ∧ w'.cell? ⟨w.heap.size, 4, none⟩ = some (.slice (some ⟨g, off, none⟩) ns sc) ∧ w'.cell? ⟨g, off + q * 3, none⟩ = some (.int .i64 y)) (fun _ => false) [0, 1, 2, 3, 4, 5, 6, 7, 8, 9, 10, 11, 12, 13] 0 (by kernel_rfl) (by kernel_rfl) ?hst ?hS0 (fun w0 h0 => ?_)
       case hst => exact fun _ _ _ h r => ⟨r.cell h.1, r.cell h.2.1, r.cell h.2.2⟩
       case hS0 => exact ⟨x0, xb, cy⟩
       iterate 14
        refine wpCalm_go rfl (by kernel_rfl) (fun K hK => ?_);apply Exists.intro;refine ⟨fun M w hM hS => ?_, hK _ ?_⟩
        ·have d0 := hS.1;have d1 := hS.2.1;have d2 := hS.2.2;unfold calmAt;go_simp;exact ⟨rfl, Rel.refl _⟩
        clear hK K
       refine wpCalm_nil (wpAnyR_end (by kernel_rfl) (fun w1 h1 => ?_));simp only [Act.put, zla, zlb, zlc];have R2 : Hid (Rel wA w1) := hR.out.trans (RX.out.trans (h0.trans h1));clear h0 h1 hZ;cases Z
       ·skip
        have fin : Hid (erK (seX se) (k + 1) = 0) := by
         show _ = _
         simp only [erK]; rw [if_pos hA.out]; exact XK.out
        go_wp2
        go_roundw
        case rel => exact ⟨k + 1, by omega, by go_num, fin, R2⟩
        case measure => simp [intOf]; omega
       ·have hne : Hid (¬ (1 : Int) = 0) := by show ¬ _; decide
        have fin : Hid (V = 1) := by
         have h : seX se k = 1 := XK.out;show _ = _
         rw [VV2.out, erK_hit hlt hA.out (by rw [h]; exact hne.out), h]; exact orE_ne hne.out
        go_wp2;go_ret;exact ⟨int_ret fin.out.symm, R0.out.trans (R1.out.trans R2.out)⟩
     ·obtain rfl : k = ns := by omega
      have VV3 := Hj (VV2.out.trans (orE_zero hA.out));have RA := hR;have b6 := (BW.out.rel (R1.out.trans RA.out)).c (j := 6) rfl;clear hR hA VV2 hlt;go_wp2_with fail
      go_loopw [66] (fun i wx => ∃ k : Nat, k ≤ ng ∧ i = .int .i64 k ∧ Hid (erK (grX E gr) k = 0) ∧ Hid (Rel wA wx)) (fun i _ => ng - (intOf i).toNat)
      case atStart => exact ⟨0, by omega, rfl, rfl, RA⟩
      case round =>
       obtain ⟨k, hk, rfl, hA, hR⟩ := hrel;by_cases hlt : k < ng
       ·skip
        have ki : (k : Int) < (ng : Int) := by omega
        obtain ⟨g, off, rfl, hg, -, hc⟩ := ROWG.out (by omega);obtain ⟨p, hp⟩ : ∃ p, gr[k]? = some p := get_some (by rw [HNG.out]; exact hlt);obtain ⟨k0, ⟨t, x⟩, ⟨u, y⟩⟩ := p;have hGB := TGB.out _ (List.mem_of_getElem? hp);obtain ⟨xa, xc, e1⟩ := kids_slice (kidsB_to hGB.2.1.1);obtain ⟨ya, yc, e2⟩ := kids_slice (kidsB_to hGB.2.2.1);simp only at e1 e2;subst e1 e2;have KT := Hj fun X (r : Rel WB X) => kids_rel (kidsB_to hGB.2.1.1) r
        have KU := Hj fun X (r : Rel WB X) => kids_rel (kidsB_to hGB.2.2.1) r
        have zt : t.size ≤ 1000000000 := hGB.2.1.2;have zu : u.size ≤ 1000000000 := hGB.2.2.2;clear hGB;have c0 := (R1.out.trans hR.out).cell (hc k _ hp 0 _ rfl);have c1 := (R1.out.trans hR.out).cell (hc k _ hp 1 _ rfl);have c2 := (R1.out.trans hR.out).cell (hc k _ hp 2 _ rfl);have c3 := (R1.out.trans hR.out).cell (hc k _ hp 3 _ rfl);have c4 := (R1.out.trans hR.out).cell (hc k _ hp 4 _ rfl);have c5 := (R1.out.trans hR.out).cell (hc k _ hp 5 _ rfl);have c6 := (R1.out.trans hR.out).cell (hc k _ hp 6 _ rfl);have c7 := (R1.out.trans hR.out).cell (hc k _ hp 7 _ rfl);have c8 := (R1.out.trans hR.out).cell (hc k _ hp 8 _ rfl);have c9 := (R1.out.trans hR.out).cell (hc k _ hp 9 _ rfl);have c10 := (R1.out.trans hR.out).cell (hc k _ hp 10 _ rfl);have c11 := (R1.out.trans hR.out).cell (hc k _ hp 11 _ rfl);have c12 := (R1.out.trans hR.out).cell (hc k _ hp 12 _ rfl);simp only [Nat.add_zero] at c0;have HC := Hj hc;have hg2 := (R1.out.trans hR.out).lt hg;obtain ⟨X, hX⟩ : ∃ X, wr.alloc (.cells #[.int .i64 k0, .int .i64 t.op, .int .i64 t.va, .int .i64 t.vb, .int .i64 t.dm, .string t.nm, .slice xa t.cnt xc, .int .i64 u.op, .int .i64 u.va, .int .i64 u.vb, .int .i64 u.dm, .string u.nm, .slice ya u.cnt yc] 81) = X := ⟨_, rfl⟩;have RX : Hid (Rel wr X) := by show Rel _ _; rw [← hX]; exact (Rel.refl wr).alloc _
        have BX : Hid (Blk X wr.heap.size 81 [.int .i64 k0, .int .i64 t.op, .int .i64 t.va, .int .i64 t.vb, .int .i64 t.dm, .string t.nm, .slice xa t.cnt xc, .int .i64 u.op, .int .i64 u.va, .int .i64 u.vb, .int .i64 u.dm, .string u.nm, .slice ya u.cnt yc]) := by show Blk _ _ _ _; rw [← hX]; exact Blk.new wr _ #[.int .i64 k0, .int .i64 t.op, .int .i64 t.va, .int .i64 t.vb, .int .i64 t.dm, .string t.nm, .slice xa t.cnt xc, .int .i64 u.op, .int .i64 u.va, .int .i64 u.vb, .int .i64 u.dm, .string u.nm, .slice ya u.cnt yc]
        have kc : k ≤ gc := by omega
        have kci : (k : Int) ≤ (gc : Int) := by omega
        have CO := Hj (vcoG_any gr ng k HNG.out (by omega) (by omega) (some ⟨g, off, none⟩) gc k0 wr.heap.size X (Hj fun _ => ⟨g, off, rfl, by have := RX.out.size; omega, trivial, fun i p hp j u hu => ((R1.out.trans hR.out).trans RX.out).cell (HC.out i p hp j u hu)⟩) (Hj fun i p hp => ⟨kids_form (kidsB_to (TGB.out _ (List.mem_of_getElem? hp)).2.1.1), kids_form (kidsB_to (TGB.out _ (List.mem_of_getElem? hp)).2.2.1)⟩) (Hj (BX.out.c (j := 0) rfl)))
        have XK : Hid (grX E gr k = if anK (fun i => gbO gr i == k0) k = true then 10 else orE (ofV E t 1) (ofV E u 4)) := by
         show _ = _
         unfold grX; rw [(gr_at hp).1, (gr_at hp).2.1, (gr_at hp).2.2]
        obtain ⟨Z, hZ⟩ : ∃ Z, anK (fun i => gbO gr i == k0) k = Z := ⟨_, rfl⟩;rw [hZ] at CO XK;unfold BRes at CO;have b6 := (BW.out.rel (R1.out.trans (hR.out.trans RX.out))).c (j := 6) rfl;clear hp hc hZ;go_wp2_with fail;refine CO.out.mono ?_;rintro e w2 ⟨rfl, h2⟩;have H2 := Hj h2;have R2 : Hid (Rel wA w2) := hR.out.trans (RX.out.trans h2);clear h2 CO b6 hX;cases Z
        ·have XK2 : Hid (grX E gr k = orE (ofV E t 1) (ofV E u 4)) := XK.out.trans (if_neg (by decide));clear XK;have BY := Hj (BX.out.rel (H2.out));have y1 := BY.out.c (j := 1) rfl;have y2 := BY.out.c (j := 2) rfl;have y3 := BY.out.c (j := 3) rfl;have y4 := BY.out.c (j := 4) rfl;have y5 := BY.out.c (j := 5) rfl;have y6 := BY.out.c (j := 6) rfl;have yl := BY.out.lt;have OF := Hj (vof_any E ea ke ec HKE.out hle t xa t.cnt xc 1 w2 (env_rel E1.out R2.out) (KT.out _ (R1.out.trans R2.out)) zt (HT.out.rel (R0.out.trans (R1.out.trans R2.out))));unfold IntRes at OF;obtain ⟨o1, ho1⟩ : ∃ z, ofV E t 1 = z := ⟨_, rfl⟩;rw [ho1] at OF;have Ho1 := Hj ho1;clear ho1;go_wp2_with fail;refine OF.out.mono ?_;rintro e w3 ⟨rfl, h3⟩;have H3w3 := Hj h3;have Rw3 : Hid (Rel wA w3) := R2.out.trans h3;clear h3 OF y1 y2 y3 y4 y5 y6 yl BY;by_cases hz1 : o1 = 0
         ·subst hz1;have BY := Hj (BX.out.rel (H2.out.trans H3w3.out));have y7 := BY.out.c (j := 7) rfl;have y8 := BY.out.c (j := 8) rfl;have y9 := BY.out.c (j := 9) rfl;have y10 := BY.out.c (j := 10) rfl;have y11 := BY.out.c (j := 11) rfl;have y12 := BY.out.c (j := 12) rfl;have yl := BY.out.lt;have OF := Hj (vof_any E ea ke ec HKE.out hle u ya u.cnt yc 4 w3 (env_rel E1.out Rw3.out) (KU.out _ (R1.out.trans Rw3.out)) zu (HT.out.rel (R0.out.trans (R1.out.trans Rw3.out))));unfold IntRes at OF;obtain ⟨o2, ho2⟩ : ∃ z, ofV E u 4 = z := ⟨_, rfl⟩;rw [ho2] at OF;have Ho2 := Hj ho2;clear ho2;go_wp2_with fail;refine OF.out.mono ?_;rintro e w4 ⟨rfl, h3⟩;have H3w4 := Hj h3;have Rw4 : Hid (Rel wA w4) := Rw3.out.trans h3;clear h3 OF y7 y8 y9 y10 y11 y12 yl BY;by_cases hz2 : o2 = 0
          ·subst hz2
           have fin : Hid (erK (grX E gr) (k + 1) = 0) := by
            show _ = _
            simp only [erK]; rw [if_pos hA.out]; exact (by rw [XK2.out, Ho1.out, Ho2.out]; rfl)
           go_wp2
           go_roundw
           case rel => exact ⟨k + 1, by omega, by go_num, fin, Rw4⟩
           case measure => simp [intOf]; omega
          ·have er : (o2 == 0) = false := by rw [zn]; exact hz2
           have hne := Hj hz2;clear hz2
           have fin : Hid (V = o2) := by
            have h : grX E gr k = o2 := (by rw [XK2.out, Ho1.out, Ho2.out]; exact orE_zero rfl);show _ = _
            rw [VV3.out, erK_hit hlt hA.out (by rw [h]; exact hne.out), h]; exact orE_ne hne.out
           go_wp2;go_ret;exact ⟨int_ret fin.out.symm, R0.out.trans (R1.out.trans Rw4.out)⟩
         ·have er : (o1 == 0) = false := by rw [zn]; exact hz1
          have hne := Hj hz1;clear hz1
          have fin : Hid (V = o1) := by
           have h : grX E gr k = o1 := (by rw [XK2.out, Ho1.out]; exact orE_ne hne.out);show _ = _
           rw [VV3.out, erK_hit hlt hA.out (by rw [h]; exact hne.out), h]; exact orE_ne hne.out
          go_wp2;go_ret;exact ⟨int_ret fin.out.symm, R0.out.trans (R1.out.trans Rw3.out)⟩
        ·have fin : Hid (V = 10) := by
          have h : grX E gr k = 10 := XK.out;show _ = _
          rw [VV3.out, erK_hit hlt hA.out (by rw [h]; decide), h]; rfl
         go_wp2;go_ret;exact ⟨int_ret fin.out.symm, R0.out.trans (R1.out.trans R2.out)⟩
       ·obtain rfl : k = ng := by omega
        have VV4 := Hj (VV3.out.trans (orE_zero hA.out));have RA := hR;have b7 := (BW.out.rel (R1.out.trans RA.out)).c (j := 7) rfl;clear hR hA VV3 hlt;go_wp2_with fail
        go_loopw [95] (fun i wx => ∃ k : Nat, k ≤ nr ∧ i = .int .i64 k ∧ Hid (erK (reX E re) k = 0) ∧ Hid (Rel wA wx)) (fun i _ => nr - (intOf i).toNat)
        case atStart => exact ⟨0, by omega, rfl, rfl, RA⟩
        case round =>
         obtain ⟨k, hk, rfl, hA, hR⟩ := hrel;by_cases hlt : k < nr
         ·skip
          have ki : (k : Int) < (nr : Int) := by omega
          obtain ⟨g, off, rfl, hg, -, hc⟩ := ROWR.out (by omega);obtain ⟨p, hp⟩ : ∃ p, re[k]? = some p := get_some (by rw [HNR.out]; exact hlt);obtain ⟨k0, ⟨t, x⟩⟩ := p;have hGB := TRB.out _ (List.mem_of_getElem? hp);obtain ⟨xa, xc, e1⟩ := kids_slice (kidsB_to hGB.2.1);simp only at e1;subst e1;have KT := Hj fun X (r : Rel WB X) => kids_rel (kidsB_to hGB.2.1) r
          have zt : t.size ≤ 1000000000 := hGB.2.2;clear hGB;have c0 := (R1.out.trans hR.out).cell (hc k _ hp 0 _ rfl);have c1 := (R1.out.trans hR.out).cell (hc k _ hp 1 _ rfl);have c2 := (R1.out.trans hR.out).cell (hc k _ hp 2 _ rfl);have c3 := (R1.out.trans hR.out).cell (hc k _ hp 3 _ rfl);have c4 := (R1.out.trans hR.out).cell (hc k _ hp 4 _ rfl);have c5 := (R1.out.trans hR.out).cell (hc k _ hp 5 _ rfl);have c6 := (R1.out.trans hR.out).cell (hc k _ hp 6 _ rfl);simp only [Nat.add_zero] at c0;have HC := Hj hc;have hg2 := (R1.out.trans hR.out).lt hg;obtain ⟨X, hX⟩ : ∃ X, wr.alloc (.cells #[.int .i64 k0, .int .i64 t.op, .int .i64 t.va, .int .i64 t.vb, .int .i64 t.dm, .string t.nm, .slice xa t.cnt xc] 83) = X := ⟨_, rfl⟩;have RX : Hid (Rel wr X) := by show Rel _ _; rw [← hX]; exact (Rel.refl wr).alloc _
          have BX : Hid (Blk X wr.heap.size 83 [.int .i64 k0, .int .i64 t.op, .int .i64 t.va, .int .i64 t.vb, .int .i64 t.dm, .string t.nm, .slice xa t.cnt xc]) := by show Blk _ _ _ _; rw [← hX]; exact Blk.new wr _ #[.int .i64 k0, .int .i64 t.op, .int .i64 t.va, .int .i64 t.vb, .int .i64 t.dm, .string t.nm, .slice xa t.cnt xc]
          have kc : k ≤ rc := by omega
          have kci : (k : Int) ≤ (rc : Int) := by omega
          have CO := Hj (vcoR_any re nr k HNR.out (by omega) (by omega) (some ⟨g, off, none⟩) rc k0 wr.heap.size X (Hj fun _ => ⟨g, off, rfl, by have := RX.out.size; omega, trivial, fun i p hp j u hu => ((R1.out.trans hR.out).trans RX.out).cell (HC.out i p hp j u hu)⟩) (Hj fun i p hp => kids_form (kidsB_to (TRB.out _ (List.mem_of_getElem? hp)).2.1)) (Hj (BX.out.c (j := 0) rfl)))
          have XK : Hid (reX E re k = if anK (fun i => rbO re i == k0) k = true then 10 else ofV E t 2) := by
           show _ = _
           unfold reX; rw [(re_at hp).1, (re_at hp).2]
          obtain ⟨Z, hZ⟩ : ∃ Z, anK (fun i => rbO re i == k0) k = Z := ⟨_, rfl⟩;rw [hZ] at CO XK;unfold BRes at CO;have b7 := (BW.out.rel (R1.out.trans (hR.out.trans RX.out))).c (j := 7) rfl;clear hp hc hZ;go_wp2_with fail;refine CO.out.mono ?_;rintro e w2 ⟨rfl, h2⟩;have H2 := Hj h2;have R2 : Hid (Rel wA w2) := hR.out.trans (RX.out.trans h2);clear h2 CO b7 hX;cases Z
          ·have XK2 : Hid (reX E re k = ofV E t 2) := XK.out.trans (if_neg (by decide));clear XK;have BY := Hj (BX.out.rel (H2.out));have y1 := BY.out.c (j := 1) rfl;have y2 := BY.out.c (j := 2) rfl;have y3 := BY.out.c (j := 3) rfl;have y4 := BY.out.c (j := 4) rfl;have y5 := BY.out.c (j := 5) rfl;have y6 := BY.out.c (j := 6) rfl;have yl := BY.out.lt;have OF := Hj (vof_any E ea ke ec HKE.out hle t xa t.cnt xc 2 w2 (env_rel E1.out R2.out) (KT.out _ (R1.out.trans R2.out)) zt (HT.out.rel (R0.out.trans (R1.out.trans R2.out))));unfold IntRes at OF;obtain ⟨o1, ho1⟩ : ∃ z, ofV E t 2 = z := ⟨_, rfl⟩;rw [ho1] at OF;have Ho1 := Hj ho1;clear ho1;go_wp2_with fail;refine OF.out.mono ?_;rintro e w3 ⟨rfl, h3⟩;have H3w3 := Hj h3;have Rw3 : Hid (Rel wA w3) := R2.out.trans h3;clear h3 OF y1 y2 y3 y4 y5 y6 yl BY;by_cases hz1 : o1 = 0
           ·subst hz1
            have fin : Hid (erK (reX E re) (k + 1) = 0) := by
             show _ = _
             simp only [erK]; rw [if_pos hA.out]; exact (by rw [XK2.out, Ho1.out])
            go_wp2
            go_roundw
            case rel => exact ⟨k + 1, by omega, by go_num, fin, Rw3⟩
            case measure => simp [intOf]; omega
           ·have er : (o1 == 0) = false := by rw [zn]; exact hz1
            have hne := Hj hz1;clear hz1
            have fin : Hid (V = o1) := by
             have h : reX E re k = o1 := by rw [XK2.out, Ho1.out]
             show _ = _
             rw [VV4.out, erK_hit hlt hA.out (by rw [h]; exact hne.out), h]
            go_wp2;go_ret;exact ⟨int_ret fin.out.symm, R0.out.trans (R1.out.trans Rw3.out)⟩
          ·have fin : Hid (V = 10) := by
            have h : reX E re k = 10 := XK.out;show _ = _
            rw [VV4.out, erK_hit hlt hA.out (by rw [h]; decide), h]
           go_wp2;go_ret;exact ⟨int_ret fin.out.symm, R0.out.trans (R1.out.trans R2.out)⟩
         ·obtain rfl : k = nr := by omega
          have fin : Hid (V = 0) := VV4.out.trans hA.out;go_wp2;go_ret;exact ⟨int_ret fin.out.symm, R0.out.trans (R1.out.trans hR.out)⟩
 ·have er : (c == 0) = false := by rw [zn]; exact hc0
  have fin : Hid (V = c) := VV.out.trans (orE_ne hc0);clear hc0 VV;go_wp2;go_ret;exact ⟨int_ret fin.out.symm, R0.out.trans R1.out⟩
end Go.Proofs.YtlmclkaighlfaaaGreatDoor

/- Bundle of texts: each says at its head what it proves; no conditions but those printed. -/
import Derived.Test.YtlmclkaighlfaaaGreatDoorSB33
import Derived.Test.YtlmclkaighlfaaaGreatDoorSB24
import Derived.Test.YtlmclkaighlfaaaGreatDoorSB25
import Derived.Test.YtlmclkaighlfaaaGreatDoorSB8
namespace Go.Proofs.YtlmclkaighlfaaaGreatDoor
set_option maxHeartbeats 16000000
open Go.RowKit Cal Str Tok Frac Txt Tree
attribute [local go_sem] calmUpon
set_option linter.unusedVariables false
set_option linter.unusedSimpArgs false
set_option maxRecDepth 20000 in
theorem tStatute_any (s : StaM) (w : World) (hV : StaAt w s) (ht : TabW w) : Calls Tryz.prog 8 #[s.val] w (InfRes (stR s) w) := by
 have LC := Hj fun w' (r : Rel w w') => sValid_any s w' (StaB.rel hV r) (ht.rel r)
 obtain ⟨Q, hQ⟩ : ∃ b, s.pl.valid = b := ⟨_, rfl⟩;obtain ⟨⟨za, zb⟩, hz⟩ : ∃ r, stR s = r := ⟨_, rfl⟩;have VV : Hid ((za, zb) = if Q = true then stF (stX s.vs) s.vs.length 0 else (0, 1)) := by show _ = _; rw [← hz, ← hQ]; rfl
 rw [hQ] at LC;rw [hz];unfold BRes StaM.val at LC;unfold InfRes;clear hz hQ;obtain ⟨nm, cur, vs, ad, cap⟩ := s;have hsz : nm.size ≤ 140737488355328 := hV.n;have hIc : I64 cur := hV.i;have n0 : vs.length ≤ 100000 := hV.l;have R0 : Hid (Rel w (w.alloc (.cells #[.string nm, .int .i64 cur, .slice ad vs.length cap] 25))) := (Rel.refl w).alloc _;have BW : Hid (Blk (w.alloc (.cells #[.string nm, .int .i64 cur, .slice ad vs.length cap] 25)) w.heap.size 25 [.string nm, .int .i64 cur, .slice ad vs.length cap]) := Blk.new w _ #[.string nm, .int .i64 cur, .slice ad vs.length cap];have ROW : Hid (0 < vs.length → ∃ g off, ad = some ⟨g, off, none⟩ ∧ g < w.heap.size ∧ True ∧ ∀ i p, vs[i]? = some p → ∀ j u, (verC p)[j]? = some u → w.cell? ⟨g, off + i * 8 + j, none⟩ = some u) := fun h => row_open hV.r verC_len (by decide) h
 have HB : Hid (∀ m ∈ vs, VerAt w m) := fun m hm => hV.b m hm
 unfold StaM.val;dsimp only at VV ⊢;obtain ⟨nv, hnv⟩ : ∃ n, vs.length = n := ⟨_, rfl⟩;rw [hnv] at n0 ROW VV R0 BW ⊢;have HNV := Hj hnv
 obtain ⟨WB, hWB⟩ : ∃ X, w.alloc (.cells #[.string nm, .int .i64 cur, .slice ad nv cap] 25) = X := ⟨_, rfl⟩;rw [hWB] at R0 BW;have HT := Hj ht;clear hV hnv ht;dsimp only at LC;rw [HNV.out] at LC;have b0 := BW.out.c (j := 0) rfl;have b1 := BW.out.c (j := 1) rfl;have b2 := BW.out.c (j := 2) rfl;have bl := BW.out.lt;go_enter Tryz.func8, Tryz.ntmps8;go_wp2_with fail;(try rw [hWB]);clear hWB;refine (LC.out _ R0.out).mono ?_;rintro e wA ⟨rfl, h1⟩;have RA := Hj h1;clear h1 LC b0 b1 b2 bl;cases Q
 ·have fin : Hid (za = 0 ∧ zb = 1) := by have h := VV.out; simp only [Bool.false_eq_true, if_false, Prod.mk.injEq] at h; exact h
  obtain ⟨rfl, rfl⟩ := fin.out;have b2 := (BW.out.rel RA.out).c (j := 2) rfl;go_wp2
  go_ret2
  exact ⟨rfl, R0.out.trans RA.out⟩
 ·have VV1 : Hid ((za, zb) = stF (stX vs) (nv - 0) 0) := VV.out;have b2 := (BW.out.rel RA.out).c (j := 2) rfl;clear VV;go_wp2_with fail;clear b2
  go_loopw [13] (fun i wx => ∃ k : Nat, k ≤ nv ∧ i = .int .i64 k ∧ Hid ((za, zb) = stF (stX vs) (nv - k) k) ∧ Hid (Rel wA wx)) (fun i _ => nv - (intOf i).toNat)
  case atStart => exact ⟨0, by omega, rfl, VV1, Rel.refl _⟩
  case round =>
   obtain ⟨k, hk, rfl, hA, hR⟩ := hrel;by_cases hlt : k < nv
   ·skip
    have ki : (k : Int) < (nv : Int) := by omega
    obtain ⟨g, off, rfl, hg, -, hc⟩ := ROW.out (by omega);obtain ⟨m, hp⟩ : ∃ m, vs[k]? = some m := get_some (by rw [HNV.out]; exact hlt);have HM : Hid (VerAt w m) := HB.out m (List.mem_of_getElem? hp);have HP := Hj hp;have CE := Hj fun j u h => hc k m hp j u h
    have HC := Hj hc;clear hp hc;have VX := Hj fun w' (r : Rel w w') => Version_any m w' (VerB.rel HM.out r) (HT.out.rel r)
    obtain ⟨Y, hY⟩ : ∃ b, verV m = b := ⟨_, rfl⟩;rw [hY] at VX;have HY := Hj hY;have HF : Hid (∀ q, vs[k - 1]? = some q → 0 < k → (m.frm ≤ q.frm → stX vs k = 1) ∧ (¬ m.frm ≤ q.frm → stX vs k = Y)) := fun q hq h0 => ⟨stX_low HP.out hq h0, fun h => (stX_go HP.out hq h).trans HY.out⟩
    have HZ : Hid (k = 0 → stX vs k = Y) := fun h0 => by subst h0; exact (stX_zero HP.out).trans HY.out
    unfold IntRes VerM.val at VX;obtain ⟨frm, mode, unit, cr, se, le, gr, re, ca, sa, la, ga, ra, cc, sc, lc, gc, rc⟩ := m;dsimp only at VX HF;have R1 := Hj (R0.out.trans (RA.out.trans hR.out))
    have c0 := R1.out.cell (CE.out 0 _ rfl);have c1 := R1.out.cell (CE.out 1 _ rfl);have c2 := R1.out.cell (CE.out 2 _ rfl);have c3 := R1.out.cell (CE.out 3 _ rfl);have c4 := R1.out.cell (CE.out 4 _ rfl);have c5 := R1.out.cell (CE.out 5 _ rfl);have c6 := R1.out.cell (CE.out 6 _ rfl);have c7 := R1.out.cell (CE.out 7 _ rfl);simp only [Nat.add_zero] at c0;have hg2 := R1.out.lt hg;clear hY;obtain ⟨X, hX⟩ : ∃ X, wr.alloc (.cells #[.int .i64 frm, .int .i64 mode, .int .i64 unit, .slice ca cr.length cc, .slice sa se.length sc, .slice la le.length lc, .slice ga gr.length gc, .slice ra re.length rc] 41) = X := ⟨_, rfl⟩;have RX : Hid (Rel wr X) := by show Rel _ _; rw [← hX]; exact (Rel.refl wr).alloc _
    have BX : Hid (Blk X wr.heap.size 41 [.int .i64 frm, .int .i64 mode, .int .i64 unit, .slice ca cr.length cc, .slice sa se.length sc, .slice la le.length lc, .slice ga gr.length gc, .slice ra re.length rc]) := by show Blk _ _ _ _; rw [← hX]; exact Blk.new wr _ #[.int .i64 frm, .int .i64 mode, .int .i64 unit, .slice ca cr.length cc, .slice sa se.length sc, .slice la le.length lc, .slice ga gr.length gc, .slice ra re.length rc]
    have x0 := BX.out.c (j := 0) rfl;have xb := (BW.out.rel (RA.out.trans (hR.out.trans RX.out))).c (j := 2) rfl;have bl := (BW.out.rel (RA.out.trans (hR.out.trans RX.out))).lt;by_cases hk0 : k = 0
    ·have e0 : decide ((0 : Int) < (k : Int)) = false := dF (by omega);have e0' : ¬ (0 : Int) < (k : Int) := by omega
     have e0n : decide (0 < k) = false := dF (by omega);have e0m : ¬ 0 < k := by omega
     have XK : Hid (stX vs k = Y) := HZ.out hk0;clear hk0;go_wp2_with fail;refine wp_region_calm (fun _ _ => True) (fun _ => false) [0, 1, 2, 3, 4, 5, 6, 7, 8, 9, 10, 11, 12, 13] 0 (by kernel_rfl) (by kernel_rfl) (fun _ _ _ _ _ => trivial) trivial (fun w0 h0 => ?_)
     iterate 3
      refine wpCalm_go rfl (by kernel_rfl) (fun K hK => ?_);apply Exists.intro;refine ⟨fun M w hM hS => ?_, hK _ ?_⟩
      ·unfold calmAt;go_simp;exact ⟨rfl, Rel.refl _⟩
      clear hK K
     iterate 10 (refine wpCalm_no rfl (by kernel_rfl) (fun K hK => hK _ ?_); clear hK K)
     iterate 1
      refine wpCalm_go rfl (by kernel_rfl) (fun K hK => ?_);apply Exists.intro;refine ⟨fun M w hM hS => ?_, hK _ ?_⟩
      ·unfold calmAt;go_simp;exact ⟨rfl, Rel.refl _⟩
      clear hK K
     refine wpCalm_nil (wpAnyR_end (by kernel_rfl) (fun w1 h1 => ?_));simp only [Act.put, zla, zlb, zlc];have RX2 : Hid (Rel X w1) := h0.trans h1;have R2 : Hid (Rel wA w1) := hR.out.trans (RX.out.trans RX2.out);clear h0 h1 x0 xb hX;have R3 := Hj (R0.out.trans (RA.out.trans R2.out));have y0 := (BX.out.rel RX2.out).c (j := 0) rfl;have y1 := (BX.out.rel RX2.out).c (j := 1) rfl;have y2 := (BX.out.rel RX2.out).c (j := 2) rfl;have y3 := (BX.out.rel RX2.out).c (j := 3) rfl;have y4 := (BX.out.rel RX2.out).c (j := 4) rfl;have y5 := (BX.out.rel RX2.out).c (j := 5) rfl;have y6 := (BX.out.rel RX2.out).c (j := 6) rfl;have y7 := (BX.out.rel RX2.out).c (j := 7) rfl;have yl := (BX.out.rel RX2.out).lt;go_wp2_with fail;refine (VX.out _ R3.out).mono ?_;rintro e w2 ⟨rfl, h2⟩;have R4 : Hid (Rel wA w2) := R2.out.trans h2;have yn := (BW.out.rel (RA.out.trans R4.out)).c (j := 2) rfl;clear h2 VX;by_cases hY0 : Y = 0
     ·have eY : (Y == 0) = true := by rw [beq_iff_eq]; exact hY0
      have fin : Hid ((za, zb) = stF (stX vs) (nv - (k + 1)) (k + 1)) := by show _ = _; rw [hA.out]; exact stF_step hlt (XK.out.trans hY0)
      clear hY0;go_wp2
      go_roundw
      case rel => exact ⟨k + 1, by omega, by go_num, fin, R4⟩
      case measure => simp [intOf]; omega
     ·have eY : (Y == 0) = false := by rw [zn]; exact hY0
      have fin : Hid (za = (k : Int) ∧ zb = Y) := by
       have h := hA.out;rw [stF_stop hlt (by rw [XK.out]; exact hY0), XK.out] at h;simp only [Prod.mk.injEq] at h;exact h
      clear hY0;obtain ⟨rfl, rfl⟩ := fin.out;go_wp2
      go_ret2
      exact ⟨rfl, R0.out.trans (RA.out.trans R4.out)⟩
    ·obtain ⟨q, hq⟩ : ∃ q, k = q + 1 := ⟨k - 1, by omega⟩;have e0 : decide ((0 : Int) < (k : Int)) = true := dT (by omega);have e0' : (0 : Int) < (k : Int) := by omega
     have e0n : decide (0 < k) = true := dT (by omega);have e0m : 0 < k := by omega
     have wk : IntKind.i64.wrap ((k : Int) - 1) = (q : Int) := by rw [IntWalk.i64_in _ ⟨by omega, by omega⟩]; omega
     obtain ⟨m', hp'⟩ : ∃ p, vs[q]? = some p := get_some (by rw [HNV.out]; omega);have HF2 := Hj (HF.out m' (by rw [show k - 1 = q by omega]; exact hp') (by omega));have cy := (R1.out.trans RX.out).cell (HC.out q _ hp' 0 _ rfl);simp only [Nat.add_zero] at cy;obtain ⟨y, hy⟩ : ∃ y, m'.frm = y := ⟨_, rfl⟩;rw [hy] at cy HF2;have qi : (q : Int) < (nv : Int) := by omega
     have qn : q < nv := by omega
     clear hk0 hp' hq hy;by_cases hle : frm ≤ y
     ·have ele : decide (frm ≤ y) = true := decide_eq_true hle;have XK : Hid (stX vs k = 1) := HF2.out.1 hle
      have fin : Hid (za = (k : Int) ∧ zb = 1) := by
       have h := hA.out;rw [stF_stop hlt (by rw [XK.out]; decide), XK.out] at h;simp only [Prod.mk.injEq] at h;exact h
      obtain ⟨rfl, rfl⟩ := fin.out;clear hle;go_wp2_with fail;refine wp_region_calm (fun _ w' => w'.cell? ⟨wr.heap.size, 0, none⟩ = some (.int .i64 frm) ∧ w'.cell? ⟨w.heap.size, 2, none⟩ = some (.slice (some ⟨g, off, none⟩) nv cap) ∧ w'.cell? ⟨g, off + q * 8, none⟩ = some (.int .i64 y)) (fun _ => false) [0, 1, 2, 3, 4, 5, 6, 7, 8, 9, 10, 11, 12, 13] 0 (by kernel_rfl) (by kernel_rfl) ?hst ?hS0 (fun w0 h0 => ?_)
      case hst => exact fun _ _ _ h r => ⟨r.cell h.1, r.cell h.2.1, r.cell h.2.2⟩
      case hS0 => exact ⟨x0, xb, cy⟩
      iterate 14
       refine wpCalm_go rfl (by kernel_rfl) (fun K hK => ?_);apply Exists.intro;refine ⟨fun M w hM hS => ?_, hK _ ?_⟩
       ·have d0 := hS.1;have d1 := hS.2.1;have d2 := hS.2.2;unfold calmAt;go_simp;exact ⟨rfl, Rel.refl _⟩
       clear hK K
      refine wpCalm_nil (wpAnyR_end (by kernel_rfl) (fun w1 h1 => ?_));simp only [Act.put, zla, zlb, zlc];have RX2 : Hid (Rel X w1) := h0.trans h1;have R2 : Hid (Rel wA w1) := hR.out.trans (RX.out.trans RX2.out);clear h0 h1 x0 xb cy hX;go_wp2
      go_ret2
      exact ⟨rfl, R0.out.trans (RA.out.trans R2.out)⟩
     ·have ele : decide (frm ≤ y) = false := decide_eq_false hle;have XK : Hid (stX vs k = Y) := HF2.out.2 hle;clear hle;go_wp2_with fail;refine wp_region_calm (fun _ w' => w'.cell? ⟨wr.heap.size, 0, none⟩ = some (.int .i64 frm) ∧ w'.cell? ⟨w.heap.size, 2, none⟩ = some (.slice (some ⟨g, off, none⟩) nv cap) ∧ w'.cell? ⟨g, off + q * 8, none⟩ = some (.int .i64 y)) (fun _ => false) [0, 1, 2, 3, 4, 5, 6, 7, 8, 9, 10, 11, 12, 13] 0 (by kernel_rfl) (by kernel_rfl) ?hst ?hS0 (fun w0 h0 => ?_)
      case hst => exact fun _ _ _ h r => ⟨r.cell h.1, r.cell h.2.1, r.cell h.2.2⟩
      case hS0 => exact ⟨x0, xb, cy⟩
      iterate 14
       refine wpCalm_go rfl (by kernel_rfl) (fun K hK => ?_);apply Exists.intro;refine ⟨fun M w hM hS => ?_, hK _ ?_⟩
       ·have d0 := hS.1;have d1 := hS.2.1;have d2 := hS.2.2;unfold calmAt;go_simp;exact ⟨rfl, Rel.refl _⟩
       clear hK K
      refine wpCalm_nil (wpAnyR_end (by kernel_rfl) (fun w1 h1 => ?_));simp only [Act.put, zla, zlb, zlc];have RX2 : Hid (Rel X w1) := h0.trans h1;have R2 : Hid (Rel wA w1) := hR.out.trans (RX.out.trans RX2.out);clear h0 h1 x0 xb cy hX;have R3 := Hj (R0.out.trans (RA.out.trans R2.out));have y0 := (BX.out.rel RX2.out).c (j := 0) rfl;have y1 := (BX.out.rel RX2.out).c (j := 1) rfl;have y2 := (BX.out.rel RX2.out).c (j := 2) rfl;have y3 := (BX.out.rel RX2.out).c (j := 3) rfl;have y4 := (BX.out.rel RX2.out).c (j := 4) rfl;have y5 := (BX.out.rel RX2.out).c (j := 5) rfl;have y6 := (BX.out.rel RX2.out).c (j := 6) rfl;have y7 := (BX.out.rel RX2.out).c (j := 7) rfl;have yl := (BX.out.rel RX2.out).lt;go_wp2_with fail;refine (VX.out _ R3.out).mono ?_;rintro e w2 ⟨rfl, h2⟩;have R4 : Hid (Rel wA w2) := R2.out.trans h2;have yn := (BW.out.rel (RA.out.trans R4.out)).c (j := 2) rfl;clear h2 VX;by_cases hY0 : Y = 0
      ·have eY : (Y == 0) = true := by rw [beq_iff_eq]; exact hY0
       have fin : Hid ((za, zb) = stF (stX vs) (nv - (k + 1)) (k + 1)) := by show _ = _; rw [hA.out]; exact stF_step hlt (XK.out.trans hY0)
       clear hY0;go_wp2
       go_roundw
       case rel => exact ⟨k + 1, by omega, by go_num, fin, R4⟩
       case measure => simp [intOf]; omega
      ·have eY : (Y == 0) = false := by rw [zn]; exact hY0
       have fin : Hid (za = (k : Int) ∧ zb = Y) := by
        have h := hA.out;rw [stF_stop hlt (by rw [XK.out]; exact hY0), XK.out] at h;simp only [Prod.mk.injEq] at h;exact h
       clear hY0;obtain ⟨rfl, rfl⟩ := fin.out;go_wp2
       go_ret2
       exact ⟨rfl, R0.out.trans (RA.out.trans R4.out)⟩
   ·obtain rfl : k = nv := by omega
    have fin : Hid (za = 0 ∧ zb = 0) := by
     have h := hA.out;rw [Nat.sub_self] at h;simp only [stF, Prod.mk.injEq] at h; exact h
    obtain ⟨rfl, rfl⟩ := fin.out;have bb := (BW.out.rel (RA.out.trans hR.out)).c (j := 2) rfl;have bl := (BW.out.rel (RA.out.trans hR.out)).lt;go_wp2
    go_ret2
    exact ⟨rfl, R0.out.trans (RA.out.trans hR.out)⟩
set_option maxRecDepth 20000 in
theorem rStatute_any (s : StaM) (w : World) (hV : StaAt w s) : Calls Tryz.prog 9 #[s.val] w (InfRes (stR s) w) := by
 have LC := Hj fun w' (r : Rel w w') => rValid_any s w' (StaB.rel hV r)
 obtain ⟨Q, hQ⟩ : ∃ b, s.pl.valid = b := ⟨_, rfl⟩;obtain ⟨⟨za, zb⟩, hz⟩ : ∃ r, stR s = r := ⟨_, rfl⟩;have VV : Hid ((za, zb) = if Q = true then stF (stX s.vs) s.vs.length 0 else (0, 1)) := by show _ = _; rw [← hz, ← hQ]; rfl
 rw [hQ] at LC;rw [hz];unfold BRes StaM.val at LC;unfold InfRes;clear hz hQ;obtain ⟨nm, cur, vs, ad, cap⟩ := s;have hsz : nm.size ≤ 140737488355328 := hV.n;have hIc : I64 cur := hV.i;have n0 : vs.length ≤ 100000 := hV.l;have R0 : Hid (Rel w (w.alloc (.cells #[.string nm, .int .i64 cur, .slice ad vs.length cap] 25))) := (Rel.refl w).alloc _;have BW : Hid (Blk (w.alloc (.cells #[.string nm, .int .i64 cur, .slice ad vs.length cap] 25)) w.heap.size 25 [.string nm, .int .i64 cur, .slice ad vs.length cap]) := Blk.new w _ #[.string nm, .int .i64 cur, .slice ad vs.length cap];have ROW : Hid (0 < vs.length → ∃ g off, ad = some ⟨g, off, none⟩ ∧ g < w.heap.size ∧ True ∧ ∀ i p, vs[i]? = some p → ∀ j u, (verC p)[j]? = some u → w.cell? ⟨g, off + i * 8 + j, none⟩ = some u) := fun h => row_open hV.r verC_len (by decide) h
 have HB : Hid (∀ m ∈ vs, VerAt w m) := fun m hm => hV.b m hm
 unfold StaM.val;dsimp only at VV ⊢;obtain ⟨nv, hnv⟩ : ∃ n, vs.length = n := ⟨_, rfl⟩;rw [hnv] at n0 ROW VV R0 BW ⊢;have HNV := Hj hnv
 obtain ⟨WB, hWB⟩ : ∃ X, w.alloc (.cells #[.string nm, .int .i64 cur, .slice ad nv cap] 25) = X := ⟨_, rfl⟩;rw [hWB] at R0 BW;clear hV hnv;dsimp only at LC;rw [HNV.out] at LC;have b0 := BW.out.c (j := 0) rfl;have b1 := BW.out.c (j := 1) rfl;have b2 := BW.out.c (j := 2) rfl;have bl := BW.out.lt;go_enter Tryz.func9, Tryz.ntmps9;go_wp2_with fail;(try rw [hWB]);clear hWB;refine (LC.out _ R0.out).mono ?_;rintro e wA ⟨rfl, h1⟩;have RA := Hj h1;clear h1 LC b0 b1 b2 bl;cases Q
 ·have fin : Hid (za = 0 ∧ zb = 1) := by have h := VV.out; simp only [Bool.false_eq_true, if_false, Prod.mk.injEq] at h; exact h
  obtain ⟨rfl, rfl⟩ := fin.out;have b2 := (BW.out.rel RA.out).c (j := 2) rfl;go_wp2
  go_ret2
  exact ⟨rfl, R0.out.trans RA.out⟩
 ·have VV1 : Hid ((za, zb) = stF (stX vs) (nv - 0) 0) := VV.out;have b2 := (BW.out.rel RA.out).c (j := 2) rfl;clear VV;go_wp2_with fail;clear b2
  go_loopw [4] (fun i wx => ∃ k : Nat, k ≤ nv ∧ i = .int .i64 k ∧ Hid ((za, zb) = stF (stX vs) (nv - k) k) ∧ Hid (Rel wA wx)) (fun i _ => nv - (intOf i).toNat)
  case atStart => exact ⟨0, by omega, rfl, VV1, Rel.refl _⟩
  case round =>
   obtain ⟨k, hk, rfl, hA, hR⟩ := hrel;by_cases hlt : k < nv
   ·skip
    have ki : (k : Int) < (nv : Int) := by omega
    obtain ⟨g, off, rfl, hg, -, hc⟩ := ROW.out (by omega);obtain ⟨m, hp⟩ : ∃ m, vs[k]? = some m := get_some (by rw [HNV.out]; exact hlt);have HM : Hid (VerAt w m) := HB.out m (List.mem_of_getElem? hp);have HP := Hj hp;have CE := Hj fun j u h => hc k m hp j u h
    have HC := Hj hc;clear hp hc;have VX := Hj fun w' (r : Rel w w') => rVersion_any m w' (VerB.rel HM.out r)
    obtain ⟨Y, hY⟩ : ∃ b, verV m = b := ⟨_, rfl⟩;rw [hY] at VX;have HY := Hj hY;have HF : Hid (∀ q, vs[k - 1]? = some q → 0 < k → (m.frm ≤ q.frm → stX vs k = 1) ∧ (¬ m.frm ≤ q.frm → stX vs k = Y)) := fun q hq h0 => ⟨stX_low HP.out hq h0, fun h => (stX_go HP.out hq h).trans HY.out⟩
    have HZ : Hid (k = 0 → stX vs k = Y) := fun h0 => by subst h0; exact (stX_zero HP.out).trans HY.out
    unfold IntRes VerM.val at VX;obtain ⟨frm, mode, unit, cr, se, le, gr, re, ca, sa, la, ga, ra, cc, sc, lc, gc, rc⟩ := m;dsimp only at VX HF;have R1 := Hj (R0.out.trans (RA.out.trans hR.out))
    have c0 := R1.out.cell (CE.out 0 _ rfl);have c1 := R1.out.cell (CE.out 1 _ rfl);have c2 := R1.out.cell (CE.out 2 _ rfl);have c3 := R1.out.cell (CE.out 3 _ rfl);have c4 := R1.out.cell (CE.out 4 _ rfl);have c5 := R1.out.cell (CE.out 5 _ rfl);have c6 := R1.out.cell (CE.out 6 _ rfl);have c7 := R1.out.cell (CE.out 7 _ rfl);simp only [Nat.add_zero] at c0;have hg2 := R1.out.lt hg;clear hY;obtain ⟨X, hX⟩ : ∃ X, X = wr := ⟨_, rfl⟩;have RX : Hid (Rel wr X) := by show Rel _ _; rw [hX]; exact Rel.refl _
    have x0 := RX.out.cell c0;subst hX;have xb := (BW.out.rel (RA.out.trans (hR.out.trans RX.out))).c (j := 2) rfl;have bl := (BW.out.rel (RA.out.trans (hR.out.trans RX.out))).lt;by_cases hk0 : k = 0
    ·have e0 : decide ((0 : Int) < (k : Int)) = false := dF (by omega);have e0' : ¬ (0 : Int) < (k : Int) := by omega
     have e0n : decide (0 < k) = false := dF (by omega);have e0m : ¬ 0 < k := by omega
     have XK : Hid (stX vs k = Y) := HZ.out hk0;clear hk0;go_wp2_with fail;refine wp_region_calm (fun _ _ => True) (fun _ => false) [0, 1, 2, 3, 4, 5, 6, 7, 8, 9, 10, 11, 12, 13, 14, 15, 16, 17] 0 (by kernel_rfl) (by kernel_rfl) (fun _ _ _ _ _ => trivial) trivial (fun w0 h0 => ?_)
     iterate 3
      refine wpCalm_go rfl (by kernel_rfl) (fun K hK => ?_);apply Exists.intro;refine ⟨fun M w hM hS => ?_, hK _ ?_⟩
      ·unfold calmAt;go_simp;exact ⟨rfl, Rel.refl _⟩
      clear hK K
     iterate 14 (refine wpCalm_no rfl (by kernel_rfl) (fun K hK => hK _ ?_); clear hK K)
     iterate 1
      refine wpCalm_go rfl (by kernel_rfl) (fun K hK => ?_);apply Exists.intro;refine ⟨fun M w hM hS => ?_, hK _ ?_⟩
      ·unfold calmAt;go_simp;exact ⟨rfl, Rel.refl _⟩
      clear hK K
     refine wpCalm_nil (wpAnyR_end (by kernel_rfl) (fun w1 h1 => ?_));simp only [Act.put, zla, zlb, zlc];have RX2 : Hid (Rel X w1) := h0.trans h1;have R2 : Hid (Rel wA w1) := hR.out.trans (RX.out.trans RX2.out);clear h0 h1 x0 xb;have R3 := Hj (R0.out.trans (RA.out.trans R2.out));have y0 := R3.out.cell (CE.out 0 _ rfl);have y1 := R3.out.cell (CE.out 1 _ rfl);have y2 := R3.out.cell (CE.out 2 _ rfl);have y3 := R3.out.cell (CE.out 3 _ rfl);have y4 := R3.out.cell (CE.out 4 _ rfl);have y5 := R3.out.cell (CE.out 5 _ rfl);have y6 := R3.out.cell (CE.out 6 _ rfl);have y7 := R3.out.cell (CE.out 7 _ rfl);simp only [Nat.add_zero] at y0;have hg3 := R3.out.lt hg;have yb := (BW.out.rel (RA.out.trans R2.out)).c (j := 2) rfl;go_wp2_with fail;refine (VX.out _ R3.out).mono ?_;rintro e w2 ⟨rfl, h2⟩;have R4 : Hid (Rel wA w2) := R2.out.trans h2;have yn := (BW.out.rel (RA.out.trans R4.out)).c (j := 2) rfl;clear h2 VX;by_cases hY0 : Y = 0
     ·have eY : (Y == 0) = true := by rw [beq_iff_eq]; exact hY0
      have fin : Hid ((za, zb) = stF (stX vs) (nv - (k + 1)) (k + 1)) := by show _ = _; rw [hA.out]; exact stF_step hlt (XK.out.trans hY0)
      clear hY0;go_wp2
      go_roundw
      case rel => exact ⟨k + 1, by omega, by go_num, fin, R4⟩
      case measure => simp [intOf]; omega
     ·have eY : (Y == 0) = false := by rw [zn]; exact hY0
      have fin : Hid (za = (k : Int) ∧ zb = Y) := by
       have h := hA.out;rw [stF_stop hlt (by rw [XK.out]; exact hY0), XK.out] at h;simp only [Prod.mk.injEq] at h;exact h
      clear hY0;obtain ⟨rfl, rfl⟩ := fin.out;go_wp2
      go_ret2
      exact ⟨rfl, R0.out.trans (RA.out.trans R4.out)⟩
    ·obtain ⟨q, hq⟩ : ∃ q, k = q + 1 := ⟨k - 1, by omega⟩;have e0 : decide ((0 : Int) < (k : Int)) = true := dT (by omega);have e0' : (0 : Int) < (k : Int) := by omega
     have e0n : decide (0 < k) = true := dT (by omega);have e0m : 0 < k := by omega
     have wk : IntKind.i64.wrap ((k : Int) - 1) = (q : Int) := by rw [IntWalk.i64_in _ ⟨by omega, by omega⟩]; omega
     obtain ⟨m', hp'⟩ : ∃ p, vs[q]? = some p := get_some (by rw [HNV.out]; omega);have HF2 := Hj (HF.out m' (by rw [show k - 1 = q by omega]; exact hp') (by omega));have cy := (R1.out.trans RX.out).cell (HC.out q _ hp' 0 _ rfl);simp only [Nat.add_zero] at cy;obtain ⟨y, hy⟩ : ∃ y, m'.frm = y := ⟨_, rfl⟩;rw [hy] at cy HF2;have qi : (q : Int) < (nv : Int) := by omega
     have qn : q < nv := by omega
     clear hk0 hp' hq hy;by_cases hle : frm ≤ y
     ·have ele : decide (frm ≤ y) = true := decide_eq_true hle;have XK : Hid (stX vs k = 1) := HF2.out.1 hle
      have fin : Hid (za = (k : Int) ∧ zb = 1) := by
       have h := hA.out;rw [stF_stop hlt (by rw [XK.out]; decide), XK.out] at h;simp only [Prod.mk.injEq] at h;exact h
      obtain ⟨rfl, rfl⟩ := fin.out;clear hle;go_wp2_with fail;refine wp_region_calm (fun _ w' => w'.cell? ⟨g, off + k * 8, none⟩ = some (.int .i64 frm) ∧ w'.cell? ⟨w.heap.size, 2, none⟩ = some (.slice (some ⟨g, off, none⟩) nv cap) ∧ w'.cell? ⟨g, off + q * 8, none⟩ = some (.int .i64 y)) (fun _ => false) [0, 1, 2, 3, 4, 5, 6, 7, 8, 9, 10, 11, 12, 13, 14, 15, 16, 17] 0 (by kernel_rfl) (by kernel_rfl) ?hst ?hS0 (fun w0 h0 => ?_)
      case hst => exact fun _ _ _ h r => ⟨r.cell h.1, r.cell h.2.1, r.cell h.2.2⟩
      case hS0 => exact ⟨x0, xb, cy⟩
      iterate 18
       refine wpCalm_go rfl (by kernel_rfl) (fun K hK => ?_);apply Exists.intro;refine ⟨fun M w hM hS => ?_, hK _ ?_⟩
       ·have d0 := hS.1;have d1 := hS.2.1;have d2 := hS.2.2;unfold calmAt;go_simp;exact ⟨rfl, Rel.refl _⟩
       clear hK K
      refine wpCalm_nil (wpAnyR_end (by kernel_rfl) (fun w1 h1 => ?_));simp only [Act.put, zla, zlb, zlc];have RX2 : Hid (Rel X w1) := h0.trans h1;have R2 : Hid (Rel wA w1) := hR.out.trans (RX.out.trans RX2.out);clear h0 h1 x0 xb cy;go_wp2
      go_ret2
      exact ⟨rfl, R0.out.trans (RA.out.trans R2.out)⟩
     ·have ele : decide (frm ≤ y) = false := decide_eq_false hle;have XK : Hid (stX vs k = Y) := HF2.out.2 hle;clear hle;go_wp2_with fail;refine wp_region_calm (fun _ w' => w'.cell? ⟨g, off + k * 8, none⟩ = some (.int .i64 frm) ∧ w'.cell? ⟨w.heap.size, 2, none⟩ = some (.slice (some ⟨g, off, none⟩) nv cap) ∧ w'.cell? ⟨g, off + q * 8, none⟩ = some (.int .i64 y)) (fun _ => false) [0, 1, 2, 3, 4, 5, 6, 7, 8, 9, 10, 11, 12, 13, 14, 15, 16, 17] 0 (by kernel_rfl) (by kernel_rfl) ?hst ?hS0 (fun w0 h0 => ?_)
      case hst => exact fun _ _ _ h r => ⟨r.cell h.1, r.cell h.2.1, r.cell h.2.2⟩
      case hS0 => exact ⟨x0, xb, cy⟩
      iterate 18
       refine wpCalm_go rfl (by kernel_rfl) (fun K hK => ?_);apply Exists.intro;refine ⟨fun M w hM hS => ?_, hK _ ?_⟩
       ·have d0 := hS.1;have d1 := hS.2.1;have d2 := hS.2.2;unfold calmAt;go_simp;exact ⟨rfl, Rel.refl _⟩
       clear hK K
      refine wpCalm_nil (wpAnyR_end (by kernel_rfl) (fun w1 h1 => ?_));simp only [Act.put, zla, zlb, zlc];have RX2 : Hid (Rel X w1) := h0.trans h1;have R2 : Hid (Rel wA w1) := hR.out.trans (RX.out.trans RX2.out);clear h0 h1 x0 xb cy;have R3 := Hj (R0.out.trans (RA.out.trans R2.out));have y0 := R3.out.cell (CE.out 0 _ rfl);have y1 := R3.out.cell (CE.out 1 _ rfl);have y2 := R3.out.cell (CE.out 2 _ rfl);have y3 := R3.out.cell (CE.out 3 _ rfl);have y4 := R3.out.cell (CE.out 4 _ rfl);have y5 := R3.out.cell (CE.out 5 _ rfl);have y6 := R3.out.cell (CE.out 6 _ rfl);have y7 := R3.out.cell (CE.out 7 _ rfl);simp only [Nat.add_zero] at y0;have hg3 := R3.out.lt hg;have yb := (BW.out.rel (RA.out.trans R2.out)).c (j := 2) rfl;go_wp2_with fail;refine (VX.out _ R3.out).mono ?_;rintro e w2 ⟨rfl, h2⟩;have R4 : Hid (Rel wA w2) := R2.out.trans h2;have yn := (BW.out.rel (RA.out.trans R4.out)).c (j := 2) rfl;clear h2 VX;by_cases hY0 : Y = 0
      ·have eY : (Y == 0) = true := by rw [beq_iff_eq]; exact hY0
       have fin : Hid ((za, zb) = stF (stX vs) (nv - (k + 1)) (k + 1)) := by show _ = _; rw [hA.out]; exact stF_step hlt (XK.out.trans hY0)
       clear hY0;go_wp2
       go_roundw
       case rel => exact ⟨k + 1, by omega, by go_num, fin, R4⟩
       case measure => simp [intOf]; omega
      ·have eY : (Y == 0) = false := by rw [zn]; exact hY0
       have fin : Hid (za = (k : Int) ∧ zb = Y) := by
        have h := hA.out;rw [stF_stop hlt (by rw [XK.out]; exact hY0), XK.out] at h;simp only [Prod.mk.injEq] at h;exact h
       clear hY0;obtain ⟨rfl, rfl⟩ := fin.out;go_wp2
       go_ret2
       exact ⟨rfl, R0.out.trans (RA.out.trans R4.out)⟩
   ·obtain rfl : k = nv := by omega
    have fin : Hid (za = 0 ∧ zb = 0) := by
     have h := hA.out;rw [Nat.sub_self] at h;simp only [stF, Prod.mk.injEq] at h; exact h
    obtain ⟨rfl, rfl⟩ := fin.out;have bb := (BW.out.rel (RA.out.trans hR.out)).c (j := 2) rfl;have bl := (BW.out.rel (RA.out.trans hR.out)).lt;go_wp2
    go_ret2
    exact ⟨rfl, R0.out.trans (RA.out.trans hR.out)⟩
end Go.Proofs.YtlmclkaighlfaaaGreatDoor

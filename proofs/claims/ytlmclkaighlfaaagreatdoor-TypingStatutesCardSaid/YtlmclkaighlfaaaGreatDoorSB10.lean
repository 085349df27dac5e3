/- Bundle of texts: each says at its head what it proves; no conditions but those printed. -/
import Derived.Test.YtlmclkaighlfaaaGreatDoorSB8
namespace Go.Proofs.YtlmclkaighlfaaaGreatDoor
set_option maxHeartbeats 16000000
open Go.RowKit Cal Str Tok Frac Txt Tree
attribute [local go_sem] calmUpon
set_option linter.unusedVariables false
set_option linter.unusedSimpArgs false
set_option maxRecDepth 20000 in
theorem rres4_0 (d0 d1 d2 : Int) (g cap : Nat) (w : World) (hg : g < w.heap.size) (h0 : 1 ≤ d0 ∧ d0 ≤ 4) (c0 : w.cell? ⟨g, 0, none⟩ = some (.int .i64 d0)) (f0 : d0 = 1) :
  Calls Tryz.prog 223 #[.int .i64 4, .slice (some ⟨g, 0, none⟩) 1 cap] w (IntRes (resV 4 d0 d1 d2) w) := by
 have key : Hid (0 = resV 4 d0 d1 d2) := by
  show _ = _
  have e2 : resV 4 d0 d1 d2 = resV 4 d0 1 1 := rfl;rw [e2];clear c0 hg
  rcases (show d0 = 1 ∨ d0 = 2 ∨ d0 = 3 ∨ d0 = 4 by omega) with rfl | rfl | rfl | rfl <;>
  first | decide | (exfalso; omega)
 obtain ⟨R, hR⟩ : ∃ R, resV 4 d0 d1 d2 = R := ⟨_, rfl⟩;rw [hR] at key ⊢;clear hR;subst f0;clear h0;unfold IntRes;go_enter Tryz.func223, Tryz.ntmps223;go_wp2;go_ret;exact ⟨int_ret key.out, Rel.refl _⟩
set_option maxRecDepth 20000 in
theorem rres4_1 (d0 d1 d2 : Int) (g cap : Nat) (w : World) (hg : g < w.heap.size) (h0 : 1 ≤ d0 ∧ d0 ≤ 4) (c0 : w.cell? ⟨g, 0, none⟩ = some (.int .i64 d0)) (f0 : ¬ d0 = 1) :
  Calls Tryz.prog 223 #[.int .i64 4, .slice (some ⟨g, 0, none⟩) 1 cap] w (IntRes (resV 4 d0 d1 d2) w) := by
 have key : Hid (d0 = resV 4 d0 d1 d2) := by
  show _ = _
  have e2 : resV 4 d0 d1 d2 = resV 4 d0 1 1 := rfl;rw [e2];clear c0 hg
  rcases (show d0 = 1 ∨ d0 = 2 ∨ d0 = 3 ∨ d0 = 4 by omega) with rfl | rfl | rfl | rfl <;>
  first | decide | (exfalso; omega)
 obtain ⟨R, hR⟩ : ∃ R, resV 4 d0 d1 d2 = R := ⟨_, rfl⟩;rw [hR] at key ⊢;clear hR;have b0 : (d0 == 1) = false := by rw [zn]; exact f0
 have e0 : (d0 != 1) = true := by rw [bne_iff_ne]; exact f0
 clear f0;clear h0;unfold IntRes;go_enter Tryz.func223, Tryz.ntmps223;go_wp2;go_ret;exact ⟨int_ret key.out, Rel.refl _⟩
set_option maxRecDepth 20000 in
theorem rres5_2 (d0 d1 d2 : Int) (g cap : Nat) (w : World) (hg : g < w.heap.size) (h0 : 1 ≤ d0 ∧ d0 ≤ 4) (c0 : w.cell? ⟨g, 0, none⟩ = some (.int .i64 d0)) (f0 : d0 = 1) :
  Calls Tryz.prog 223 #[.int .i64 5, .slice (some ⟨g, 0, none⟩) 1 cap] w (IntRes (resV 5 d0 d1 d2) w) := by
 have key : Hid (1 = resV 5 d0 d1 d2) := by
  show _ = _
  have e2 : resV 5 d0 d1 d2 = resV 5 d0 1 1 := rfl;rw [e2];clear c0 hg
  rcases (show d0 = 1 ∨ d0 = 2 ∨ d0 = 3 ∨ d0 = 4 by omega) with rfl | rfl | rfl | rfl <;>
  first | decide | (exfalso; omega)
 obtain ⟨R, hR⟩ : ∃ R, resV 5 d0 d1 d2 = R := ⟨_, rfl⟩;rw [hR] at key ⊢;clear hR;subst f0;clear h0;unfold IntRes;go_enter Tryz.func223, Tryz.ntmps223;go_wp2;go_ret;exact ⟨int_ret key.out, Rel.refl _⟩
set_option maxRecDepth 20000 in
theorem rres5_3 (d0 d1 d2 : Int) (g cap : Nat) (w : World) (hg : g < w.heap.size) (h0 : 1 ≤ d0 ∧ d0 ≤ 4) (c0 : w.cell? ⟨g, 0, none⟩ = some (.int .i64 d0)) (f0 : ¬ d0 = 1) :
  Calls Tryz.prog 223 #[.int .i64 5, .slice (some ⟨g, 0, none⟩) 1 cap] w (IntRes (resV 5 d0 d1 d2) w) := by
 have key : Hid (0 = resV 5 d0 d1 d2) := by
  show _ = _
  have e2 : resV 5 d0 d1 d2 = resV 5 d0 1 1 := rfl;rw [e2];clear c0 hg
  rcases (show d0 = 1 ∨ d0 = 2 ∨ d0 = 3 ∨ d0 = 4 by omega) with rfl | rfl | rfl | rfl <;>
  first | decide | (exfalso; omega)
 obtain ⟨R, hR⟩ : ∃ R, resV 5 d0 d1 d2 = R := ⟨_, rfl⟩;rw [hR] at key ⊢;clear hR;have b0 : (d0 == 1) = false := by rw [zn]; exact f0
 have e0 : (d0 != 1) = true := by rw [bne_iff_ne]; exact f0
 clear f0;clear h0;unfold IntRes;go_enter Tryz.func223, Tryz.ntmps223;go_wp2;go_ret;exact ⟨int_ret key.out, Rel.refl _⟩
set_option maxRecDepth 20000 in
theorem rres6_4 (d0 d1 d2 : Int) (g cap : Nat) (w : World) (hg : g < w.heap.size) (h0 : 1 ≤ d0 ∧ d0 ≤ 4) (c0 : w.cell? ⟨g, 0, none⟩ = some (.int .i64 d0)) (f0 : d0 = 1) :
  Calls Tryz.prog 223 #[.int .i64 6, .slice (some ⟨g, 0, none⟩) 1 cap] w (IntRes (resV 6 d0 d1 d2) w) := by
 have key : Hid (0 = resV 6 d0 d1 d2) := by
  show _ = _
  have e2 : resV 6 d0 d1 d2 = resV 6 d0 1 1 := rfl;rw [e2];clear c0 hg
  rcases (show d0 = 1 ∨ d0 = 2 ∨ d0 = 3 ∨ d0 = 4 by omega) with rfl | rfl | rfl | rfl <;>
  first | decide | (exfalso; omega)
 obtain ⟨R, hR⟩ : ∃ R, resV 6 d0 d1 d2 = R := ⟨_, rfl⟩;rw [hR] at key ⊢;clear hR;subst f0;clear h0;unfold IntRes;go_enter Tryz.func223, Tryz.ntmps223;go_wp2;go_ret;exact ⟨int_ret key.out, Rel.refl _⟩
set_option maxRecDepth 20000 in
theorem rres6_5 (d0 d1 d2 : Int) (g cap : Nat) (w : World) (hg : g < w.heap.size) (h0 : 1 ≤ d0 ∧ d0 ≤ 4) (c0 : w.cell? ⟨g, 0, none⟩ = some (.int .i64 d0)) (f0 : ¬ d0 = 1) :
  Calls Tryz.prog 223 #[.int .i64 6, .slice (some ⟨g, 0, none⟩) 1 cap] w (IntRes (resV 6 d0 d1 d2) w) := by
 have key : Hid (d0 = resV 6 d0 d1 d2) := by
  show _ = _
  have e2 : resV 6 d0 d1 d2 = resV 6 d0 1 1 := rfl;rw [e2];clear c0 hg
  rcases (show d0 = 1 ∨ d0 = 2 ∨ d0 = 3 ∨ d0 = 4 by omega) with rfl | rfl | rfl | rfl <;>
  first | decide | (exfalso; omega)
 obtain ⟨R, hR⟩ : ∃ R, resV 6 d0 d1 d2 = R := ⟨_, rfl⟩;rw [hR] at key ⊢;clear hR;have b0 : (d0 == 1) = false := by rw [zn]; exact f0
 have e0 : (d0 != 1) = true := by rw [bne_iff_ne]; exact f0
 clear f0;clear h0;unfold IntRes;go_enter Tryz.func223, Tryz.ntmps223;go_wp2;go_ret;exact ⟨int_ret key.out, Rel.refl _⟩
set_option maxRecDepth 20000 in
theorem rres7_6 (d0 d1 d2 : Int) (g cap : Nat) (w : World) (hg : g < w.heap.size) (h0 : 1 ≤ d0 ∧ d0 ≤ 4) (h1 : 1 ≤ d1 ∧ d1 ≤ 4) (c0 : w.cell? ⟨g, 0, none⟩ = some (.int .i64 d0)) (c1 : w.cell? ⟨g, 1, none⟩ = some (.int .i64 d1)) (f0 : d0 = d1) (f1 : d0 = 1) :
  Calls Tryz.prog 223 #[.int .i64 7, .slice (some ⟨g, 0, none⟩) 2 cap] w (IntRes (resV 7 d0 d1 d2) w) := by
 have key : Hid (0 = resV 7 d0 d1 d2) := by
  show _ = _
  have e2 : resV 7 d0 d1 d2 = resV 7 d0 d1 1 := rfl;rw [e2];clear c0 c1 hg
  rcases (show d0 = 1 ∨ d0 = 2 ∨ d0 = 3 ∨ d0 = 4 by omega) with rfl | rfl | rfl | rfl <;>
  rcases (show d1 = 1 ∨ d1 = 2 ∨ d1 = 3 ∨ d1 = 4 by omega) with rfl | rfl | rfl | rfl <;>
  first | decide | (exfalso; omega)
 obtain ⟨R, hR⟩ : ∃ R, resV 7 d0 d1 d2 = R := ⟨_, rfl⟩;rw [hR] at key ⊢;clear hR;subst f0;subst f1;clear h0 h1;unfold IntRes;go_enter Tryz.func223, Tryz.ntmps223;go_wp2_with fail;refine wp_region_calm (fun _ w' => w'.cell? { block := g, off := 0 } = some (.int .i64 1) ∧ w'.cell? { block := g, off := 1 } = some (.int .i64 1)) (fun _ => false) [0, 1, 2, 3, 4, 5, 6, 7, 8, 9, 10, 11, 12] 0 (by kernel_rfl) (by kernel_rfl) ?hst ?hS0 (fun w0 h0 => ?_)
 case hst => exact fun _ _ _ h r => ⟨r.cell h.1, r.cell h.2⟩
 case hS0 => exact ⟨by go_simp, by go_simp⟩
 iterate 13
  refine wpCalm_go rfl (by kernel_rfl) (fun K hK => ?_);apply Exists.intro;refine ⟨fun M w hM hS => ?_, hK _ ?_⟩
  ·have hc0 := hS.1;have hc1 := hS.2;unfold calmAt;go_simp;exact ⟨rfl, Rel.refl _⟩
  clear hK K
 refine wpAnyR_end (by kernel_rfl) (fun w3 h3' => ?_);(try simp only [Act.put, zla, zlb, zlc]);have h3 := h0.trans h3';clear h0 h3';have kz3 := h3.size;(try simp only [zsa, zsc, zsd] at kz3);have H3 := Hj h3;clear h3;have k0 := H3.out.cell c0;have k1 := H3.out.cell c1;go_wp2;go_ret;exact ⟨int_ret key.out, H3.out⟩
set_option maxRecDepth 20000 in
theorem rres7_7 (d0 d1 d2 : Int) (g cap : Nat) (w : World) (hg : g < w.heap.size) (h0 : 1 ≤ d0 ∧ d0 ≤ 4) (h1 : 1 ≤ d1 ∧ d1 ≤ 4) (c0 : w.cell? ⟨g, 0, none⟩ = some (.int .i64 d0)) (c1 : w.cell? ⟨g, 1, none⟩ = some (.int .i64 d1)) (f0 : d0 = d1) (f1 : ¬ d0 = 1) :
  Calls Tryz.prog 223 #[.int .i64 7, .slice (some ⟨g, 0, none⟩) 2 cap] w (IntRes (resV 7 d0 d1 d2) w) := by
 have key : Hid (d0 = resV 7 d0 d1 d2) := by
  show _ = _
  have e2 : resV 7 d0 d1 d2 = resV 7 d0 d1 1 := rfl;rw [e2];clear c0 c1 hg
  rcases (show d0 = 1 ∨ d0 = 2 ∨ d0 = 3 ∨ d0 = 4 by omega) with rfl | rfl | rfl | rfl <;>
  rcases (show d1 = 1 ∨ d1 = 2 ∨ d1 = 3 ∨ d1 = 4 by omega) with rfl | rfl | rfl | rfl <;>
  first | decide | (exfalso; omega)
 obtain ⟨R, hR⟩ : ∃ R, resV 7 d0 d1 d2 = R := ⟨_, rfl⟩;rw [hR] at key ⊢;clear hR;subst f0;have b1 : (d0 == 1) = false := by rw [zn]; exact f1
 have e1 : (d0 != 1) = true := by rw [bne_iff_ne]; exact f1
 clear f1;clear h0 h1;unfold IntRes;go_enter Tryz.func223, Tryz.ntmps223;go_wp2_with fail;refine wp_region_calm (fun _ w' => w'.cell? { block := g, off := 0 } = some (.int .i64 d0) ∧ w'.cell? { block := g, off := 1 } = some (.int .i64 d0)) (fun _ => false) [0, 1, 2, 3, 4, 5, 6, 7, 8, 9, 10, 11, 12] 0 (by kernel_rfl) (by kernel_rfl) ?hst ?hS0 (fun w0 h0 => ?_)
 case hst => exact fun _ _ _ h r => ⟨r.cell h.1, r.cell h.2⟩
 case hS0 => exact ⟨by go_simp, by go_simp⟩
 iterate 13
  refine wpCalm_go rfl (by kernel_rfl) (fun K hK => ?_);apply Exists.intro;refine ⟨fun M w hM hS => ?_, hK _ ?_⟩
  ·have hc0 := hS.1;have hc1 := hS.2;unfold calmAt;go_simp;exact ⟨rfl, Rel.refl _⟩
  clear hK K
 refine wpAnyR_end (by kernel_rfl) (fun w3 h3' => ?_);(try simp only [Act.put, zla, zlb, zlc]);have h3 := h0.trans h3';clear h0 h3';have kz3 := h3.size;(try simp only [zsa, zsc, zsd] at kz3);have H3 := Hj h3;clear h3;have k0 := H3.out.cell c0;have k1 := H3.out.cell c1;go_wp2;go_ret;exact ⟨int_ret key.out, H3.out⟩
set_option maxRecDepth 20000 in
theorem rres7_8 (d0 d1 d2 : Int) (g cap : Nat) (w : World) (hg : g < w.heap.size) (h0 : 1 ≤ d0 ∧ d0 ≤ 4) (h1 : 1 ≤ d1 ∧ d1 ≤ 4) (c0 : w.cell? ⟨g, 0, none⟩ = some (.int .i64 d0)) (c1 : w.cell? ⟨g, 1, none⟩ = some (.int .i64 d1)) (f0 : ¬ d0 = d1) :
  Calls Tryz.prog 223 #[.int .i64 7, .slice (some ⟨g, 0, none⟩) 2 cap] w (IntRes (resV 7 d0 d1 d2) w) := by
 have key : Hid (0 = resV 7 d0 d1 d2) := by
  show _ = _
  have e2 : resV 7 d0 d1 d2 = resV 7 d0 d1 1 := rfl;rw [e2];clear c0 c1 hg
  rcases (show d0 = 1 ∨ d0 = 2 ∨ d0 = 3 ∨ d0 = 4 by omega) with rfl | rfl | rfl | rfl <;>
  rcases (show d1 = 1 ∨ d1 = 2 ∨ d1 = 3 ∨ d1 = 4 by omega) with rfl | rfl | rfl | rfl <;>
  first | decide | (exfalso; omega)
 obtain ⟨R, hR⟩ : ∃ R, resV 7 d0 d1 d2 = R := ⟨_, rfl⟩;rw [hR] at key ⊢;clear hR;have b0 : (d0 == d1) = false := by rw [zn]; exact f0
 have e0 : (d0 != d1) = true := by rw [bne_iff_ne]; exact f0
 clear f0;clear h0 h1;unfold IntRes;go_enter Tryz.func223, Tryz.ntmps223;go_wp2_with fail;refine wp_region_calm (fun _ w' => w'.cell? { block := g, off := 0 } = some (.int .i64 d0) ∧ w'.cell? { block := g, off := 1 } = some (.int .i64 d1)) (fun _ => false) [0, 1, 2, 3, 4, 5, 6, 7, 8, 9, 10, 11, 12] 0 (by kernel_rfl) (by kernel_rfl) ?hst ?hS0 (fun w0 h0 => ?_)
 case hst => exact fun _ _ _ h r => ⟨r.cell h.1, r.cell h.2⟩
 case hS0 => exact ⟨by go_simp, by go_simp⟩
 iterate 8
  refine wpCalm_go rfl (by kernel_rfl) (fun K hK => ?_);apply Exists.intro;refine ⟨fun M w hM hS => ?_, hK _ ?_⟩
  ·have hc0 := hS.1;have hc1 := hS.2;unfold calmAt;go_simp;exact ⟨rfl, Rel.refl _⟩
  clear hK K
 iterate 4 (refine wpCalm_no rfl (by kernel_rfl) (fun K hK => hK _ ?_); clear hK K)
 iterate 1
  refine wpCalm_go rfl (by kernel_rfl) (fun K hK => ?_);apply Exists.intro;refine ⟨fun M w hM hS => ?_, hK _ ?_⟩
  ·have hc0 := hS.1;have hc1 := hS.2;unfold calmAt;go_simp;exact ⟨rfl, Rel.refl _⟩
  clear hK K
 refine wpAnyR_end (by kernel_rfl) (fun w3 h3' => ?_);(try simp only [Act.put, zla, zlb, zlc]);have h3 := h0.trans h3';clear h0 h3';have kz3 := h3.size;(try simp only [zsa, zsc, zsd] at kz3);have H3 := Hj h3;clear h3;have k0 := H3.out.cell c0;have k1 := H3.out.cell c1;go_wp2;go_ret;exact ⟨int_ret key.out, H3.out⟩
set_option maxRecDepth 20000 in
theorem rres8_9 (d0 d1 d2 : Int) (g cap : Nat) (w : World) (hg : g < w.heap.size) (h0 : 1 ≤ d0 ∧ d0 ≤ 4) (h1 : 1 ≤ d1 ∧ d1 ≤ 4) (c0 : w.cell? ⟨g, 0, none⟩ = some (.int .i64 d0)) (c1 : w.cell? ⟨g, 1, none⟩ = some (.int .i64 d1)) (f0 : d0 = d1) (f1 : d0 = 1) :
  Calls Tryz.prog 223 #[.int .i64 8, .slice (some ⟨g, 0, none⟩) 2 cap] w (IntRes (resV 8 d0 d1 d2) w) := by
 have key : Hid (0 = resV 8 d0 d1 d2) := by
  show _ = _
  have e2 : resV 8 d0 d1 d2 = resV 8 d0 d1 1 := rfl;rw [e2];clear c0 c1 hg
  rcases (show d0 = 1 ∨ d0 = 2 ∨ d0 = 3 ∨ d0 = 4 by omega) with rfl | rfl | rfl | rfl <;>
  rcases (show d1 = 1 ∨ d1 = 2 ∨ d1 = 3 ∨ d1 = 4 by omega) with rfl | rfl | rfl | rfl <;>
  first | decide | (exfalso; omega)
 obtain ⟨R, hR⟩ : ∃ R, resV 8 d0 d1 d2 = R := ⟨_, rfl⟩;rw [hR] at key ⊢;clear hR;subst f0;subst f1;clear h0 h1;unfold IntRes;go_enter Tryz.func223, Tryz.ntmps223;go_wp2_with fail;refine wp_region_calm (fun _ w' => w'.cell? { block := g, off := 0 } = some (.int .i64 1) ∧ w'.cell? { block := g, off := 1 } = some (.int .i64 1)) (fun _ => false) [0, 1, 2, 3, 4, 5, 6, 7, 8, 9, 10, 11, 12] 0 (by kernel_rfl) (by kernel_rfl) ?hst ?hS0 (fun w0 h0 => ?_)
 case hst => exact fun _ _ _ h r => ⟨r.cell h.1, r.cell h.2⟩
 case hS0 => exact ⟨by go_simp, by go_simp⟩
 iterate 13
  refine wpCalm_go rfl (by kernel_rfl) (fun K hK => ?_);apply Exists.intro;refine ⟨fun M w hM hS => ?_, hK _ ?_⟩
  ·have hc0 := hS.1;have hc1 := hS.2;unfold calmAt;go_simp;exact ⟨rfl, Rel.refl _⟩
  clear hK K
 refine wpAnyR_end (by kernel_rfl) (fun w3 h3' => ?_);(try simp only [Act.put, zla, zlb, zlc]);have h3 := h0.trans h3';clear h0 h3';have kz3 := h3.size;(try simp only [zsa, zsc, zsd] at kz3);have H3 := Hj h3;clear h3;have k0 := H3.out.cell c0;have k1 := H3.out.cell c1;go_wp2;go_ret;exact ⟨int_ret key.out, H3.out⟩
set_option maxRecDepth 20000 in
theorem rres8_10 (d0 d1 d2 : Int) (g cap : Nat) (w : World) (hg : g < w.heap.size) (h0 : 1 ≤ d0 ∧ d0 ≤ 4) (h1 : 1 ≤ d1 ∧ d1 ≤ 4) (c0 : w.cell? ⟨g, 0, none⟩ = some (.int .i64 d0)) (c1 : w.cell? ⟨g, 1, none⟩ = some (.int .i64 d1)) (f0 : d0 = d1) (f1 : ¬ d0 = 1) :
  Calls Tryz.prog 223 #[.int .i64 8, .slice (some ⟨g, 0, none⟩) 2 cap] w (IntRes (resV 8 d0 d1 d2) w) := by
 have key : Hid (d0 = resV 8 d0 d1 d2) := by
  show _ = _
  have e2 : resV 8 d0 d1 d2 = resV 8 d0 d1 1 := rfl;rw [e2];clear c0 c1 hg
  rcases (show d0 = 1 ∨ d0 = 2 ∨ d0 = 3 ∨ d0 = 4 by omega) with rfl | rfl | rfl | rfl <;>
  rcases (show d1 = 1 ∨ d1 = 2 ∨ d1 = 3 ∨ d1 = 4 by omega) with rfl | rfl | rfl | rfl <;>
  first | decide | (exfalso; omega)
 obtain ⟨R, hR⟩ : ∃ R, resV 8 d0 d1 d2 = R := ⟨_, rfl⟩;rw [hR] at key ⊢;clear hR;subst f0;have b1 : (d0 == 1) = false := by rw [zn]; exact f1
 have e1 : (d0 != 1) = true := by rw [bne_iff_ne]; exact f1
 clear f1;clear h0 h1;unfold IntRes;go_enter Tryz.func223, Tryz.ntmps223;go_wp2_with fail;refine wp_region_calm (fun _ w' => w'.cell? { block := g, off := 0 } = some (.int .i64 d0) ∧ w'.cell? { block := g, off := 1 } = some (.int .i64 d0)) (fun _ => false) [0, 1, 2, 3, 4, 5, 6, 7, 8, 9, 10, 11, 12] 0 (by kernel_rfl) (by kernel_rfl) ?hst ?hS0 (fun w0 h0 => ?_)
 case hst => exact fun _ _ _ h r => ⟨r.cell h.1, r.cell h.2⟩
 case hS0 => exact ⟨by go_simp, by go_simp⟩
 iterate 13
  refine wpCalm_go rfl (by kernel_rfl) (fun K hK => ?_);apply Exists.intro;refine ⟨fun M w hM hS => ?_, hK _ ?_⟩
  ·have hc0 := hS.1;have hc1 := hS.2;unfold calmAt;go_simp;exact ⟨rfl, Rel.refl _⟩
  clear hK K
 refine wpAnyR_end (by kernel_rfl) (fun w3 h3' => ?_);(try simp only [Act.put, zla, zlb, zlc]);have h3 := h0.trans h3';clear h0 h3';have kz3 := h3.size;(try simp only [zsa, zsc, zsd] at kz3);have H3 := Hj h3;clear h3;have k0 := H3.out.cell c0;have k1 := H3.out.cell c1;go_wp2;go_ret;exact ⟨int_ret key.out, H3.out⟩
set_option maxRecDepth 20000 in
theorem rres8_11 (d0 d1 d2 : Int) (g cap : Nat) (w : World) (hg : g < w.heap.size) (h0 : 1 ≤ d0 ∧ d0 ≤ 4) (h1 : 1 ≤ d1 ∧ d1 ≤ 4) (c0 : w.cell? ⟨g, 0, none⟩ = some (.int .i64 d0)) (c1 : w.cell? ⟨g, 1, none⟩ = some (.int .i64 d1)) (f0 : ¬ d0 = d1) :
  Calls Tryz.prog 223 #[.int .i64 8, .slice (some ⟨g, 0, none⟩) 2 cap] w (IntRes (resV 8 d0 d1 d2) w) := by
 have key : Hid (0 = resV 8 d0 d1 d2) := by
  show _ = _
  have e2 : resV 8 d0 d1 d2 = resV 8 d0 d1 1 := rfl;rw [e2];clear c0 c1 hg
  rcases (show d0 = 1 ∨ d0 = 2 ∨ d0 = 3 ∨ d0 = 4 by omega) with rfl | rfl | rfl | rfl <;>
  rcases (show d1 = 1 ∨ d1 = 2 ∨ d1 = 3 ∨ d1 = 4 by omega) with rfl | rfl | rfl | rfl <;>
  first | decide | (exfalso; omega)
 obtain ⟨R, hR⟩ : ∃ R, resV 8 d0 d1 d2 = R := ⟨_, rfl⟩;rw [hR] at key ⊢;clear hR;have b0 : (d0 == d1) = false := by rw [zn]; exact f0
 have e0 : (d0 != d1) = true := by rw [bne_iff_ne]; exact f0
 clear f0;clear h0 h1;unfold IntRes;go_enter Tryz.func223, Tryz.ntmps223;go_wp2_with fail;refine wp_region_calm (fun _ w' => w'.cell? { block := g, off := 0 } = some (.int .i64 d0) ∧ w'.cell? { block := g, off := 1 } = some (.int .i64 d1)) (fun _ => false) [0, 1, 2, 3, 4, 5, 6, 7, 8, 9, 10, 11, 12] 0 (by kernel_rfl) (by kernel_rfl) ?hst ?hS0 (fun w0 h0 => ?_)
 case hst => exact fun _ _ _ h r => ⟨r.cell h.1, r.cell h.2⟩
 case hS0 => exact ⟨by go_simp, by go_simp⟩
 iterate 8
  refine wpCalm_go rfl (by kernel_rfl) (fun K hK => ?_);apply Exists.intro;refine ⟨fun M w hM hS => ?_, hK _ ?_⟩
  ·have hc0 := hS.1;have hc1 := hS.2;unfold calmAt;go_simp;exact ⟨rfl, Rel.refl _⟩
  clear hK K
 iterate 4 (refine wpCalm_no rfl (by kernel_rfl) (fun K hK => hK _ ?_); clear hK K)
 iterate 1
  refine wpCalm_go rfl (by kernel_rfl) (fun K hK => ?_);apply Exists.intro;refine ⟨fun M w hM hS => ?_, hK _ ?_⟩
  ·have hc0 := hS.1;have hc1 := hS.2;unfold calmAt;go_simp;exact ⟨rfl, Rel.refl _⟩
  clear hK K
 refine wpAnyR_end (by kernel_rfl) (fun w3 h3' => ?_);(try simp only [Act.put, zla, zlb, zlc]);have h3 := h0.trans h3';clear h0 h3';have kz3 := h3.size;(try simp only [zsa, zsc, zsd] at kz3);have H3 := Hj h3;clear h3;have k0 := H3.out.cell c0;have k1 := H3.out.cell c1;go_wp2;go_ret;exact ⟨int_ret key.out, H3.out⟩
set_option maxRecDepth 20000 in
theorem rres9_12 (d0 d1 d2 : Int) (g cap : Nat) (w : World) (hg : g < w.heap.size) (h0 : 1 ≤ d0 ∧ d0 ≤ 4) (h1 : 1 ≤ d1 ∧ d1 ≤ 4) (c0 : w.cell? ⟨g, 0, none⟩ = some (.int .i64 d0)) (c1 : w.cell? ⟨g, 1, none⟩ = some (.int .i64 d1)) (f0 : d0 = 2) (f1 : d1 = 1) :
  Calls Tryz.prog 223 #[.int .i64 9, .slice (some ⟨g, 0, none⟩) 2 cap] w (IntRes (resV 9 d0 d1 d2) w) := by
 have key : Hid (0 = resV 9 d0 d1 d2) := by
  show _ = _
  have e2 : resV 9 d0 d1 d2 = resV 9 d0 d1 1 := rfl;rw [e2];clear c0 c1 hg
  rcases (show d0 = 1 ∨ d0 = 2 ∨ d0 = 3 ∨ d0 = 4 by omega) with rfl | rfl | rfl | rfl <;>
  rcases (show d1 = 1 ∨ d1 = 2 ∨ d1 = 3 ∨ d1 = 4 by omega) with rfl | rfl | rfl | rfl <;>
  first | decide | (exfalso; omega)
 obtain ⟨R, hR⟩ : ∃ R, resV 9 d0 d1 d2 = R := ⟨_, rfl⟩;rw [hR] at key ⊢;clear hR;subst f0;subst f1;clear h0 h1;unfold IntRes;go_enter Tryz.func223, Tryz.ntmps223;go_wp2;go_ret;exact ⟨int_ret key.out, Rel.refl _⟩
set_option maxRecDepth 20000 in
theorem rres9_13 (d0 d1 d2 : Int) (g cap : Nat) (w : World) (hg : g < w.heap.size) (h0 : 1 ≤ d0 ∧ d0 ≤ 4) (h1 : 1 ≤ d1 ∧ d1 ≤ 4) (c0 : w.cell? ⟨g, 0, none⟩ = some (.int .i64 d0)) (c1 : w.cell? ⟨g, 1, none⟩ = some (.int .i64 d1)) (f0 : d0 = 2) (f1 : ¬ d1 = 1) :
  Calls Tryz.prog 223 #[.int .i64 9, .slice (some ⟨g, 0, none⟩) 2 cap] w (IntRes (resV 9 d0 d1 d2) w) := by
 have key : Hid (d1 = resV 9 d0 d1 d2) := by
  show _ = _
  have e2 : resV 9 d0 d1 d2 = resV 9 d0 d1 1 := rfl;rw [e2];clear c0 c1 hg
  rcases (show d0 = 1 ∨ d0 = 2 ∨ d0 = 3 ∨ d0 = 4 by omega) with rfl | rfl | rfl | rfl <;>
  rcases (show d1 = 1 ∨ d1 = 2 ∨ d1 = 3 ∨ d1 = 4 by omega) with rfl | rfl | rfl | rfl <;>
  first | decide | (exfalso; omega)
 obtain ⟨R, hR⟩ : ∃ R, resV 9 d0 d1 d2 = R := ⟨_, rfl⟩;rw [hR] at key ⊢;clear hR;subst f0;have b1 : (d1 == 1) = false := by rw [zn]; exact f1
 have e1 : (d1 != 1) = true := by rw [bne_iff_ne]; exact f1
 clear f1;clear h0 h1;unfold IntRes;go_enter Tryz.func223, Tryz.ntmps223;go_wp2;go_ret;exact ⟨int_ret key.out, Rel.refl _⟩
set_option maxRecDepth 20000 in
theorem rres9_14 (d0 d1 d2 : Int) (g cap : Nat) (w : World) (hg : g < w.heap.size) (h0 : 1 ≤ d0 ∧ d0 ≤ 4) (h1 : 1 ≤ d1 ∧ d1 ≤ 4) (c0 : w.cell? ⟨g, 0, none⟩ = some (.int .i64 d0)) (c1 : w.cell? ⟨g, 1, none⟩ = some (.int .i64 d1)) (f0 : ¬ d0 = 2) (f1 : d1 = 2) (f2 : d0 = 1) :
  Calls Tryz.prog 223 #[.int .i64 9, .slice (some ⟨g, 0, none⟩) 2 cap] w (IntRes (resV 9 d0 d1 d2) w) := by
 have key : Hid (0 = resV 9 d0 d1 d2) := by
  show _ = _
  have e2 : resV 9 d0 d1 d2 = resV 9 d0 d1 1 := rfl;rw [e2];clear c0 c1 hg
  rcases (show d0 = 1 ∨ d0 = 2 ∨ d0 = 3 ∨ d0 = 4 by omega) with rfl | rfl | rfl | rfl <;>
  rcases (show d1 = 1 ∨ d1 = 2 ∨ d1 = 3 ∨ d1 = 4 by omega) with rfl | rfl | rfl | rfl <;>
  first | decide | (exfalso; omega)
 obtain ⟨R, hR⟩ : ∃ R, resV 9 d0 d1 d2 = R := ⟨_, rfl⟩;rw [hR] at key ⊢;clear hR;have b0 : (d0 == 2) = false := by rw [zn]; exact f0
 have e0 : (d0 != 2) = true := by rw [bne_iff_ne]; exact f0
 clear f0;subst f1;subst f2;clear h0 h1;unfold IntRes;go_enter Tryz.func223, Tryz.ntmps223;go_wp2;go_ret;exact ⟨int_ret key.out, Rel.refl _⟩
set_option maxRecDepth 20000 in
theorem rres9_15 (d0 d1 d2 : Int) (g cap : Nat) (w : World) (hg : g < w.heap.size) (h0 : 1 ≤ d0 ∧ d0 ≤ 4) (h1 : 1 ≤ d1 ∧ d1 ≤ 4) (c0 : w.cell? ⟨g, 0, none⟩ = some (.int .i64 d0)) (c1 : w.cell? ⟨g, 1, none⟩ = some (.int .i64 d1)) (f0 : ¬ d0 = 2) (f1 : d1 = 2) (f2 : ¬ d0 = 1) :
  Calls Tryz.prog 223 #[.int .i64 9, .slice (some ⟨g, 0, none⟩) 2 cap] w (IntRes (resV 9 d0 d1 d2) w) := by
 have key : Hid (d0 = resV 9 d0 d1 d2) := by
  show _ = _
  have e2 : resV 9 d0 d1 d2 = resV 9 d0 d1 1 := rfl;rw [e2];clear c0 c1 hg
  rcases (show d0 = 1 ∨ d0 = 2 ∨ d0 = 3 ∨ d0 = 4 by omega) with rfl | rfl | rfl | rfl <;>
  rcases (show d1 = 1 ∨ d1 = 2 ∨ d1 = 3 ∨ d1 = 4 by omega) with rfl | rfl | rfl | rfl <;>
  first | decide | (exfalso; omega)
 obtain ⟨R, hR⟩ : ∃ R, resV 9 d0 d1 d2 = R := ⟨_, rfl⟩;rw [hR] at key ⊢;clear hR;have b0 : (d0 == 2) = false := by rw [zn]; exact f0
 have e0 : (d0 != 2) = true := by rw [bne_iff_ne]; exact f0
 clear f0;subst f1;have b2 : (d0 == 1) = false := by rw [zn]; exact f2
 have e2 : (d0 != 1) = true := by rw [bne_iff_ne]; exact f2
 clear f2;clear h0 h1;unfold IntRes;go_enter Tryz.func223, Tryz.ntmps223;go_wp2;go_ret;exact ⟨int_ret key.out, Rel.refl _⟩
set_option maxRecDepth 20000 in
theorem rres9_16 (d0 d1 d2 : Int) (g cap : Nat) (w : World) (hg : g < w.heap.size) (h0 : 1 ≤ d0 ∧ d0 ≤ 4) (h1 : 1 ≤ d1 ∧ d1 ≤ 4) (c0 : w.cell? ⟨g, 0, none⟩ = some (.int .i64 d0)) (c1 : w.cell? ⟨g, 1, none⟩ = some (.int .i64 d1)) (f0 : ¬ d0 = 2) (f1 : ¬ d1 = 2) :
  Calls Tryz.prog 223 #[.int .i64 9, .slice (some ⟨g, 0, none⟩) 2 cap] w (IntRes (resV 9 d0 d1 d2) w) := by
 have key : Hid (0 = resV 9 d0 d1 d2) := by
  show _ = _
  have e2 : resV 9 d0 d1 d2 = resV 9 d0 d1 1 := rfl;rw [e2];clear c0 c1 hg
  rcases (show d0 = 1 ∨ d0 = 2 ∨ d0 = 3 ∨ d0 = 4 by omega) with rfl | rfl | rfl | rfl <;>
  rcases (show d1 = 1 ∨ d1 = 2 ∨ d1 = 3 ∨ d1 = 4 by omega) with rfl | rfl | rfl | rfl <;>
  first | decide | (exfalso; omega)
 obtain ⟨R, hR⟩ : ∃ R, resV 9 d0 d1 d2 = R := ⟨_, rfl⟩;rw [hR] at key ⊢;clear hR;have b0 : (d0 == 2) = false := by rw [zn]; exact f0
 have e0 : (d0 != 2) = true := by rw [bne_iff_ne]; exact f0
 clear f0;have b1 : (d1 == 2) = false := by rw [zn]; exact f1
 have e1 : (d1 != 2) = true := by rw [bne_iff_ne]; exact f1
 clear f1;clear h0 h1;unfold IntRes;go_enter Tryz.func223, Tryz.ntmps223;go_wp2;go_ret;exact ⟨int_ret key.out, Rel.refl _⟩
set_option maxRecDepth 20000 in
theorem rres10_17 (d0 d1 d2 : Int) (g cap : Nat) (w : World) (hg : g < w.heap.size) (h0 : 1 ≤ d0 ∧ d0 ≤ 4) (h1 : 1 ≤ d1 ∧ d1 ≤ 4) (c0 : w.cell? ⟨g, 0, none⟩ = some (.int .i64 d0)) (c1 : w.cell? ⟨g, 1, none⟩ = some (.int .i64 d1)) (f0 : d1 = 2) (f1 : d0 = 1) :
  Calls Tryz.prog 223 #[.int .i64 10, .slice (some ⟨g, 0, none⟩) 2 cap] w (IntRes (resV 10 d0 d1 d2) w) := by
 have key : Hid (0 = resV 10 d0 d1 d2) := by
  show _ = _
  have e2 : resV 10 d0 d1 d2 = resV 10 d0 d1 1 := rfl;rw [e2];clear c0 c1 hg
  rcases (show d0 = 1 ∨ d0 = 2 ∨ d0 = 3 ∨ d0 = 4 by omega) with rfl | rfl | rfl | rfl <;>
  rcases (show d1 = 1 ∨ d1 = 2 ∨ d1 = 3 ∨ d1 = 4 by omega) with rfl | rfl | rfl | rfl <;>
  first | decide | (exfalso; omega)
 obtain ⟨R, hR⟩ : ∃ R, resV 10 d0 d1 d2 = R := ⟨_, rfl⟩;rw [hR] at key ⊢;clear hR;subst f0;subst f1;clear h0 h1;unfold IntRes;go_enter Tryz.func223, Tryz.ntmps223;go_wp2_with fail;refine wp_region_calm (fun _ w' => w'.cell? { block := g, off := 0 } = some (.int .i64 1) ∧ w'.cell? { block := g, off := 1 } = some (.int .i64 2)) (fun _ => false) [0, 1, 2, 3, 4, 5, 6, 7, 8, 9, 10, 11, 12] 0 (by kernel_rfl) (by kernel_rfl) ?hst ?hS0 (fun w0 h0 => ?_)
 case hst => exact fun _ _ _ h r => ⟨r.cell h.1, r.cell h.2⟩
 case hS0 => exact ⟨by go_simp, by go_simp⟩
 iterate 8
  refine wpCalm_go rfl (by kernel_rfl) (fun K hK => ?_);apply Exists.intro;refine ⟨fun M w hM hS => ?_, hK _ ?_⟩
  ·have hc0 := hS.1;have hc1 := hS.2;unfold calmAt;go_simp;exact ⟨rfl, Rel.refl _⟩
  clear hK K
 iterate 4 (refine wpCalm_no rfl (by kernel_rfl) (fun K hK => hK _ ?_); clear hK K)
 iterate 1
  refine wpCalm_go rfl (by kernel_rfl) (fun K hK => ?_);apply Exists.intro;refine ⟨fun M w hM hS => ?_, hK _ ?_⟩
  ·have hc0 := hS.1;have hc1 := hS.2;unfold calmAt;go_simp;exact ⟨rfl, Rel.refl _⟩
  clear hK K
 refine wpAnyR_end (by kernel_rfl) (fun w3 h3' => ?_);(try simp only [Act.put, zla, zlb, zlc]);have h3 := h0.trans h3';clear h0 h3';have kz3 := h3.size;(try simp only [zsa, zsc, zsd] at kz3);have H3 := Hj h3;clear h3;have k0 := H3.out.cell c0;have k1 := H3.out.cell c1;go_wp2;go_ret;exact ⟨int_ret key.out, H3.out⟩
set_option maxRecDepth 20000 in
theorem rres10_18 (d0 d1 d2 : Int) (g cap : Nat) (w : World) (hg : g < w.heap.size) (h0 : 1 ≤ d0 ∧ d0 ≤ 4) (h1 : 1 ≤ d1 ∧ d1 ≤ 4) (c0 : w.cell? ⟨g, 0, none⟩ = some (.int .i64 d0)) (c1 : w.cell? ⟨g, 1, none⟩ = some (.int .i64 d1)) (f0 : d1 = 2) (f1 : ¬ d0 = 1) :
  Calls Tryz.prog 223 #[.int .i64 10, .slice (some ⟨g, 0, none⟩) 2 cap] w (IntRes (resV 10 d0 d1 d2) w) := by
 have key : Hid (d0 = resV 10 d0 d1 d2) := by
  show _ = _
  have e2 : resV 10 d0 d1 d2 = resV 10 d0 d1 1 := rfl;rw [e2];clear c0 c1 hg
  rcases (show d0 = 1 ∨ d0 = 2 ∨ d0 = 3 ∨ d0 = 4 by omega) with rfl | rfl | rfl | rfl <;>
  rcases (show d1 = 1 ∨ d1 = 2 ∨ d1 = 3 ∨ d1 = 4 by omega) with rfl | rfl | rfl | rfl <;>
  first | decide | (exfalso; omega)
 obtain ⟨R, hR⟩ : ∃ R, resV 10 d0 d1 d2 = R := ⟨_, rfl⟩;rw [hR] at key ⊢;clear hR;subst f0;have b1 : (d0 == 1) = false := by rw [zn]; exact f1
 have e1 : (d0 != 1) = true := by rw [bne_iff_ne]; exact f1
 clear f1;clear h0 h1;unfold IntRes;go_enter Tryz.func223, Tryz.ntmps223;go_wp2;go_ret;exact ⟨int_ret key.out, Rel.refl _⟩
set_option maxRecDepth 20000 in
theorem rres10_19 (d0 d1 d2 : Int) (g cap : Nat) (w : World) (hg : g < w.heap.size) (h0 : 1 ≤ d0 ∧ d0 ≤ 4) (h1 : 1 ≤ d1 ∧ d1 ≤ 4) (c0 : w.cell? ⟨g, 0, none⟩ = some (.int .i64 d0)) (c1 : w.cell? ⟨g, 1, none⟩ = some (.int .i64 d1)) (f0 : ¬ d1 = 2) (f1 : d0 = d1) (f2 : d0 = 1) :
  Calls Tryz.prog 223 #[.int .i64 10, .slice (some ⟨g, 0, none⟩) 2 cap] w (IntRes (resV 10 d0 d1 d2) w) := by
 have key : Hid (0 = resV 10 d0 d1 d2) := by
  show _ = _
  have e2 : resV 10 d0 d1 d2 = resV 10 d0 d1 1 := rfl;rw [e2];clear c0 c1 hg
  rcases (show d0 = 1 ∨ d0 = 2 ∨ d0 = 3 ∨ d0 = 4 by omega) with rfl | rfl | rfl | rfl <;>
  rcases (show d1 = 1 ∨ d1 = 2 ∨ d1 = 3 ∨ d1 = 4 by omega) with rfl | rfl | rfl | rfl <;>
  first | decide | (exfalso; omega)
 obtain ⟨R, hR⟩ : ∃ R, resV 10 d0 d1 d2 = R := ⟨_, rfl⟩;rw [hR] at key ⊢;clear hR;have b0 : (d1 == 2) = false := by rw [zn]; exact f0
 have e0 : (d1 != 2) = true := by rw [bne_iff_ne]; exact f0
 clear f0;subst f1;subst f2;clear h0 h1;unfold IntRes;go_enter Tryz.func223, Tryz.ntmps223;go_wp2_with fail;refine wp_region_calm (fun _ w' => w'.cell? { block := g, off := 0 } = some (.int .i64 1) ∧ w'.cell? { block := g, off := 1 } = some (.int .i64 1)) (fun _ => false) [0, 1, 2, 3, 4, 5, 6, 7, 8, 9, 10, 11, 12] 0 (by kernel_rfl) (by kernel_rfl) ?hst ?hS0 (fun w0 h0 => ?_)
 case hst => exact fun _ _ _ h r => ⟨r.cell h.1, r.cell h.2⟩
 case hS0 => exact ⟨by go_simp, by go_simp⟩
 iterate 13
  refine wpCalm_go rfl (by kernel_rfl) (fun K hK => ?_);apply Exists.intro;refine ⟨fun M w hM hS => ?_, hK _ ?_⟩
  ·have hc0 := hS.1;have hc1 := hS.2;unfold calmAt;go_simp;exact ⟨rfl, Rel.refl _⟩
  clear hK K
 refine wpAnyR_end (by kernel_rfl) (fun w3 h3' => ?_);(try simp only [Act.put, zla, zlb, zlc]);have h3 := h0.trans h3';clear h0 h3';have kz3 := h3.size;(try simp only [zsa, zsc, zsd] at kz3);have H3 := Hj h3;clear h3;have k0 := H3.out.cell c0;have k1 := H3.out.cell c1;go_wp2;go_ret;exact ⟨int_ret key.out, H3.out⟩
set_option maxRecDepth 20000 in
theorem rres10_20 (d0 d1 d2 : Int) (g cap : Nat) (w : World) (hg : g < w.heap.size) (h0 : 1 ≤ d0 ∧ d0 ≤ 4) (h1 : 1 ≤ d1 ∧ d1 ≤ 4) (c0 : w.cell? ⟨g, 0, none⟩ = some (.int .i64 d0)) (c1 : w.cell? ⟨g, 1, none⟩ = some (.int .i64 d1)) (f0 : ¬ d1 = 2) (f1 : d0 = d1) (f2 : ¬ d0 = 1) :
  Calls Tryz.prog 223 #[.int .i64 10, .slice (some ⟨g, 0, none⟩) 2 cap] w (IntRes (resV 10 d0 d1 d2) w) := by
 have key : Hid (2 = resV 10 d0 d1 d2) := by
  show _ = _
  have e2 : resV 10 d0 d1 d2 = resV 10 d0 d1 1 := rfl;rw [e2];clear c0 c1 hg
  rcases (show d0 = 1 ∨ d0 = 2 ∨ d0 = 3 ∨ d0 = 4 by omega) with rfl | rfl | rfl | rfl <;>
  rcases (show d1 = 1 ∨ d1 = 2 ∨ d1 = 3 ∨ d1 = 4 by omega) with rfl | rfl | rfl | rfl <;>
  first | decide | (exfalso; omega)
 obtain ⟨R, hR⟩ : ∃ R, resV 10 d0 d1 d2 = R := ⟨_, rfl⟩;rw [hR] at key ⊢;clear hR;have b0 : (d1 == 2) = false := by rw [zn]; exact f0
 have e0 : (d1 != 2) = true := by rw [bne_iff_ne]; exact f0
 clear f0;subst f1;have b2 : (d0 == 1) = false := by rw [zn]; exact f2
 have e2 : (d0 != 1) = true := by rw [bne_iff_ne]; exact f2
 clear f2;clear h0 h1;unfold IntRes;go_enter Tryz.func223, Tryz.ntmps223;go_wp2_with fail;refine wp_region_calm (fun _ w' => w'.cell? { block := g, off := 0 } = some (.int .i64 d0) ∧ w'.cell? { block := g, off := 1 } = some (.int .i64 d0)) (fun _ => false) [0, 1, 2, 3, 4, 5, 6, 7, 8, 9, 10, 11, 12] 0 (by kernel_rfl) (by kernel_rfl) ?hst ?hS0 (fun w0 h0 => ?_)
 case hst => exact fun _ _ _ h r => ⟨r.cell h.1, r.cell h.2⟩
 case hS0 => exact ⟨by go_simp, by go_simp⟩
 iterate 13
  refine wpCalm_go rfl (by kernel_rfl) (fun K hK => ?_);apply Exists.intro;refine ⟨fun M w hM hS => ?_, hK _ ?_⟩
  ·have hc0 := hS.1;have hc1 := hS.2;unfold calmAt;go_simp;exact ⟨rfl, Rel.refl _⟩
  clear hK K
 refine wpAnyR_end (by kernel_rfl) (fun w3 h3' => ?_);(try simp only [Act.put, zla, zlb, zlc]);have h3 := h0.trans h3';clear h0 h3';have kz3 := h3.size;(try simp only [zsa, zsc, zsd] at kz3);have H3 := Hj h3;clear h3;have k0 := H3.out.cell c0;have k1 := H3.out.cell c1;go_wp2;go_ret;exact ⟨int_ret key.out, H3.out⟩
set_option maxRecDepth 20000 in
theorem rres10_21 (d0 d1 d2 : Int) (g cap : Nat) (w : World) (hg : g < w.heap.size) (h0 : 1 ≤ d0 ∧ d0 ≤ 4) (h1 : 1 ≤ d1 ∧ d1 ≤ 4) (c0 : w.cell? ⟨g, 0, none⟩ = some (.int .i64 d0)) (c1 : w.cell? ⟨g, 1, none⟩ = some (.int .i64 d1)) (f0 : ¬ d1 = 2) (f1 : ¬ d0 = d1) :
  Calls Tryz.prog 223 #[.int .i64 10, .slice (some ⟨g, 0, none⟩) 2 cap] w (IntRes (resV 10 d0 d1 d2) w) := by
 have key : Hid (0 = resV 10 d0 d1 d2) := by
  show _ = _
  have e2 : resV 10 d0 d1 d2 = resV 10 d0 d1 1 := rfl;rw [e2];clear c0 c1 hg
  rcases (show d0 = 1 ∨ d0 = 2 ∨ d0 = 3 ∨ d0 = 4 by omega) with rfl | rfl | rfl | rfl <;>
  rcases (show d1 = 1 ∨ d1 = 2 ∨ d1 = 3 ∨ d1 = 4 by omega) with rfl | rfl | rfl | rfl <;>
  first | decide | (exfalso; omega)
 obtain ⟨R, hR⟩ : ∃ R, resV 10 d0 d1 d2 = R := ⟨_, rfl⟩;rw [hR] at key ⊢;clear hR;have b0 : (d1 == 2) = false := by rw [zn]; exact f0
 have e0 : (d1 != 2) = true := by rw [bne_iff_ne]; exact f0
 clear f0;have b1 : (d0 == d1) = false := by rw [zn]; exact f1
 have e1 : (d0 != d1) = true := by rw [bne_iff_ne]; exact f1
 clear f1;clear h0 h1;unfold IntRes;go_enter Tryz.func223, Tryz.ntmps223;go_wp2_with fail;refine wp_region_calm (fun _ w' => w'.cell? { block := g, off := 0 } = some (.int .i64 d0) ∧ w'.cell? { block := g, off := 1 } = some (.int .i64 d1)) (fun _ => false) [0, 1, 2, 3, 4, 5, 6, 7, 8, 9, 10, 11, 12] 0 (by kernel_rfl) (by kernel_rfl) ?hst ?hS0 (fun w0 h0 => ?_)
 case hst => exact fun _ _ _ h r => ⟨r.cell h.1, r.cell h.2⟩
 case hS0 => exact ⟨by go_simp, by go_simp⟩
 iterate 8
  refine wpCalm_go rfl (by kernel_rfl) (fun K hK => ?_);apply Exists.intro;refine ⟨fun M w hM hS => ?_, hK _ ?_⟩
  ·have hc0 := hS.1;have hc1 := hS.2;unfold calmAt;go_simp;exact ⟨rfl, Rel.refl _⟩
  clear hK K
 iterate 4 (refine wpCalm_no rfl (by kernel_rfl) (fun K hK => hK _ ?_); clear hK K)
 iterate 1
  refine wpCalm_go rfl (by kernel_rfl) (fun K hK => ?_);apply Exists.intro;refine ⟨fun M w hM hS => ?_, hK _ ?_⟩
  ·have hc0 := hS.1;have hc1 := hS.2;unfold calmAt;go_simp;exact ⟨rfl, Rel.refl _⟩
  clear hK K
 refine wpAnyR_end (by kernel_rfl) (fun w3 h3' => ?_);(try simp only [Act.put, zla, zlb, zlc]);have h3 := h0.trans h3';clear h0 h3';have kz3 := h3.size;(try simp only [zsa, zsc, zsd] at kz3);have H3 := Hj h3;clear h3;have k0 := H3.out.cell c0;have k1 := H3.out.cell c1;go_wp2;go_ret;exact ⟨int_ret key.out, H3.out⟩
set_option maxRecDepth 20000 in
theorem rres11_22 (d0 d1 d2 : Int) (g cap : Nat) (w : World) (hg : g < w.heap.size) (h0 : 1 ≤ d0 ∧ d0 ≤ 4) (h1 : 1 ≤ d1 ∧ d1 ≤ 4) (c0 : w.cell? ⟨g, 0, none⟩ = some (.int .i64 d0)) (c1 : w.cell? ⟨g, 1, none⟩ = some (.int .i64 d1)) (f0 : d0 = d1) (f1 : d0 = 1) :
  Calls Tryz.prog 223 #[.int .i64 11, .slice (some ⟨g, 0, none⟩) 2 cap] w (IntRes (resV 11 d0 d1 d2) w) := by
 have key : Hid (0 = resV 11 d0 d1 d2) := by
  show _ = _
  have e2 : resV 11 d0 d1 d2 = resV 11 d0 d1 1 := rfl;rw [e2];clear c0 c1 hg
  rcases (show d0 = 1 ∨ d0 = 2 ∨ d0 = 3 ∨ d0 = 4 by omega) with rfl | rfl | rfl | rfl <;>
  rcases (show d1 = 1 ∨ d1 = 2 ∨ d1 = 3 ∨ d1 = 4 by omega) with rfl | rfl | rfl | rfl <;>
  first | decide | (exfalso; omega)
 obtain ⟨R, hR⟩ : ∃ R, resV 11 d0 d1 d2 = R := ⟨_, rfl⟩;rw [hR] at key ⊢;clear hR;subst f0;subst f1;clear h0 h1;unfold IntRes;go_enter Tryz.func223, Tryz.ntmps223;go_wp2_with fail;refine wp_region_calm (fun _ w' => w'.cell? { block := g, off := 0 } = some (.int .i64 1) ∧ w'.cell? { block := g, off := 1 } = some (.int .i64 1)) (fun _ => false) [0, 1, 2, 3, 4, 5, 6, 7, 8, 9, 10, 11, 12, 13] 0 (by kernel_rfl) (by kernel_rfl) ?hst ?hS0 (fun w0 h0 => ?_)
 case hst => exact fun _ _ _ h r => ⟨r.cell h.1, r.cell h.2⟩
 case hS0 => exact ⟨by go_simp, by go_simp⟩
 iterate 14
  refine wpCalm_go rfl (by kernel_rfl) (fun K hK => ?_);apply Exists.intro;refine ⟨fun M w hM hS => ?_, hK _ ?_⟩
  ·have hc0 := hS.1;have hc1 := hS.2;unfold calmAt;go_simp;exact ⟨rfl, Rel.refl _⟩
  clear hK K
 refine wpAnyR_end (by kernel_rfl) (fun w3 h3' => ?_);(try simp only [Act.put, zla, zlb, zlc]);have h3 := h0.trans h3';clear h0 h3';have kz3 := h3.size;(try simp only [zsa, zsc, zsd] at kz3);have H3 := Hj h3;clear h3;have k0 := H3.out.cell c0;have k1 := H3.out.cell c1;go_wp2;go_ret;exact ⟨int_ret key.out, H3.out⟩
set_option maxRecDepth 20000 in
theorem rres11_23 (d0 d1 d2 : Int) (g cap : Nat) (w : World) (hg : g < w.heap.size) (h0 : 1 ≤ d0 ∧ d0 ≤ 4) (h1 : 1 ≤ d1 ∧ d1 ≤ 4) (c0 : w.cell? ⟨g, 0, none⟩ = some (.int .i64 d0)) (c1 : w.cell? ⟨g, 1, none⟩ = some (.int .i64 d1)) (f0 : d0 = d1) (f1 : ¬ d0 = 1) :
  Calls Tryz.prog 223 #[.int .i64 11, .slice (some ⟨g, 0, none⟩) 2 cap] w (IntRes (resV 11 d0 d1 d2) w) := by
 have key : Hid (1 = resV 11 d0 d1 d2) := by
  show _ = _
  have e2 : resV 11 d0 d1 d2 = resV 11 d0 d1 1 := rfl;rw [e2];clear c0 c1 hg
  rcases (show d0 = 1 ∨ d0 = 2 ∨ d0 = 3 ∨ d0 = 4 by omega) with rfl | rfl | rfl | rfl <;>
  rcases (show d1 = 1 ∨ d1 = 2 ∨ d1 = 3 ∨ d1 = 4 by omega) with rfl | rfl | rfl | rfl <;>
  first | decide | (exfalso; omega)
 obtain ⟨R, hR⟩ : ∃ R, resV 11 d0 d1 d2 = R := ⟨_, rfl⟩;rw [hR] at key ⊢;clear hR;subst f0;have b1 : (d0 == 1) = false := by rw [zn]; exact f1
 have e1 : (d0 != 1) = true := by rw [bne_iff_ne]; exact f1
 clear f1;clear h0 h1;unfold IntRes;go_enter Tryz.func223, Tryz.ntmps223;go_wp2_with fail;refine wp_region_calm (fun _ w' => w'.cell? { block := g, off := 0 } = some (.int .i64 d0) ∧ w'.cell? { block := g, off := 1 } = some (.int .i64 d0)) (fun _ => false) [0, 1, 2, 3, 4, 5, 6, 7, 8, 9, 10, 11, 12, 13] 0 (by kernel_rfl) (by kernel_rfl) ?hst ?hS0 (fun w0 h0 => ?_)
 case hst => exact fun _ _ _ h r => ⟨r.cell h.1, r.cell h.2⟩
 case hS0 => exact ⟨by go_simp, by go_simp⟩
 iterate 14
  refine wpCalm_go rfl (by kernel_rfl) (fun K hK => ?_);apply Exists.intro;refine ⟨fun M w hM hS => ?_, hK _ ?_⟩
  ·have hc0 := hS.1;have hc1 := hS.2;unfold calmAt;go_simp;exact ⟨rfl, Rel.refl _⟩
  clear hK K
 refine wpAnyR_end (by kernel_rfl) (fun w3 h3' => ?_);(try simp only [Act.put, zla, zlb, zlc]);have h3 := h0.trans h3';clear h0 h3';have kz3 := h3.size;(try simp only [zsa, zsc, zsd] at kz3);have H3 := Hj h3;clear h3;have k0 := H3.out.cell c0;have k1 := H3.out.cell c1;go_wp2;go_ret;exact ⟨int_ret key.out, H3.out⟩
set_option maxRecDepth 20000 in
theorem rres11_24 (d0 d1 d2 : Int) (g cap : Nat) (w : World) (hg : g < w.heap.size) (h0 : 1 ≤ d0 ∧ d0 ≤ 4) (h1 : 1 ≤ d1 ∧ d1 ≤ 4) (c0 : w.cell? ⟨g, 0, none⟩ = some (.int .i64 d0)) (c1 : w.cell? ⟨g, 1, none⟩ = some (.int .i64 d1)) (f0 : ¬ d0 = d1) :
  Calls Tryz.prog 223 #[.int .i64 11, .slice (some ⟨g, 0, none⟩) 2 cap] w (IntRes (resV 11 d0 d1 d2) w) := by
 have key : Hid (0 = resV 11 d0 d1 d2) := by
  show _ = _
  have e2 : resV 11 d0 d1 d2 = resV 11 d0 d1 1 := rfl;rw [e2];clear c0 c1 hg
  rcases (show d0 = 1 ∨ d0 = 2 ∨ d0 = 3 ∨ d0 = 4 by omega) with rfl | rfl | rfl | rfl <;>
  rcases (show d1 = 1 ∨ d1 = 2 ∨ d1 = 3 ∨ d1 = 4 by omega) with rfl | rfl | rfl | rfl <;>
  first | decide | (exfalso; omega)
 obtain ⟨R, hR⟩ : ∃ R, resV 11 d0 d1 d2 = R := ⟨_, rfl⟩;rw [hR] at key ⊢;clear hR;have b0 : (d0 == d1) = false := by rw [zn]; exact f0
 have e0 : (d0 != d1) = true := by rw [bne_iff_ne]; exact f0
 clear f0;clear h0 h1;unfold IntRes;go_enter Tryz.func223, Tryz.ntmps223;go_wp2_with fail;refine wp_region_calm (fun _ w' => w'.cell? { block := g, off := 0 } = some (.int .i64 d0) ∧ w'.cell? { block := g, off := 1 } = some (.int .i64 d1)) (fun _ => false) [0, 1, 2, 3, 4, 5, 6, 7, 8, 9, 10, 11, 12, 13] 0 (by kernel_rfl) (by kernel_rfl) ?hst ?hS0 (fun w0 h0 => ?_)
 case hst => exact fun _ _ _ h r => ⟨r.cell h.1, r.cell h.2⟩
 case hS0 => exact ⟨by go_simp, by go_simp⟩
 iterate 8
  refine wpCalm_go rfl (by kernel_rfl) (fun K hK => ?_);apply Exists.intro;refine ⟨fun M w hM hS => ?_, hK _ ?_⟩
  ·have hc0 := hS.1;have hc1 := hS.2;unfold calmAt;go_simp;exact ⟨rfl, Rel.refl _⟩
  clear hK K
 iterate 4 (refine wpCalm_no rfl (by kernel_rfl) (fun K hK => hK _ ?_); clear hK K)
 iterate 2
  refine wpCalm_go rfl (by kernel_rfl) (fun K hK => ?_);apply Exists.intro;refine ⟨fun M w hM hS => ?_, hK _ ?_⟩
  ·have hc0 := hS.1;have hc1 := hS.2;unfold calmAt;go_simp;exact ⟨rfl, Rel.refl _⟩
  clear hK K
 refine wpAnyR_end (by kernel_rfl) (fun w3 h3' => ?_);(try simp only [Act.put, zla, zlb, zlc]);have h3 := h0.trans h3';clear h0 h3';have kz3 := h3.size;(try simp only [zsa, zsc, zsd] at kz3);have H3 := Hj h3;clear h3;have k0 := H3.out.cell c0;have k1 := H3.out.cell c1;go_wp2;go_ret;exact ⟨int_ret key.out, H3.out⟩
set_option maxRecDepth 20000 in
theorem rres12_25 (d0 d1 d2 : Int) (g cap : Nat) (w : World) (hg : g < w.heap.size) (h0 : 1 ≤ d0 ∧ d0 ≤ 4) (h1 : 1 ≤ d1 ∧ d1 ≤ 4) (c0 : w.cell? ⟨g, 0, none⟩ = some (.int .i64 d0)) (c1 : w.cell? ⟨g, 1, none⟩ = some (.int .i64 d1)) (f0 : d0 = d1) (f1 : d0 = 1) :
  Calls Tryz.prog 223 #[.int .i64 12, .slice (some ⟨g, 0, none⟩) 2 cap] w (IntRes (resV 12 d0 d1 d2) w) := by
 have key : Hid (0 = resV 12 d0 d1 d2) := by
  show _ = _
  have e2 : resV 12 d0 d1 d2 = resV 12 d0 d1 1 := rfl;rw [e2];clear c0 c1 hg
  rcases (show d0 = 1 ∨ d0 = 2 ∨ d0 = 3 ∨ d0 = 4 by omega) with rfl | rfl | rfl | rfl <;>
  rcases (show d1 = 1 ∨ d1 = 2 ∨ d1 = 3 ∨ d1 = 4 by omega) with rfl | rfl | rfl | rfl <;>
  first | decide | (exfalso; omega)
 obtain ⟨R, hR⟩ : ∃ R, resV 12 d0 d1 d2 = R := ⟨_, rfl⟩;rw [hR] at key ⊢;clear hR;subst f0;subst f1;clear h0 h1;unfold IntRes;go_enter Tryz.func223, Tryz.ntmps223;go_wp2_with fail;refine wp_region_calm (fun _ w' => w'.cell? { block := g, off := 0 } = some (.int .i64 1) ∧ w'.cell? { block := g, off := 1 } = some (.int .i64 1)) (fun _ => false) [0, 1, 2, 3, 4, 5, 6, 7, 8, 9, 10, 11, 12, 13] 0 (by kernel_rfl) (by kernel_rfl) ?hst ?hS0 (fun w0 h0 => ?_)
 case hst => exact fun _ _ _ h r => ⟨r.cell h.1, r.cell h.2⟩
 case hS0 => exact ⟨by go_simp, by go_simp⟩
 iterate 14
  refine wpCalm_go rfl (by kernel_rfl) (fun K hK => ?_);apply Exists.intro;refine ⟨fun M w hM hS => ?_, hK _ ?_⟩
  ·have hc0 := hS.1;have hc1 := hS.2;unfold calmAt;go_simp;exact ⟨rfl, Rel.refl _⟩
  clear hK K
 refine wpAnyR_end (by kernel_rfl) (fun w3 h3' => ?_);(try simp only [Act.put, zla, zlb, zlc]);have h3 := h0.trans h3';clear h0 h3';have kz3 := h3.size;(try simp only [zsa, zsc, zsd] at kz3);have H3 := Hj h3;clear h3;have k0 := H3.out.cell c0;have k1 := H3.out.cell c1;go_wp2;go_ret;exact ⟨int_ret key.out, H3.out⟩
set_option maxRecDepth 20000 in
theorem rres12_26 (d0 d1 d2 : Int) (g cap : Nat) (w : World) (hg : g < w.heap.size) (h0 : 1 ≤ d0 ∧ d0 ≤ 4) (h1 : 1 ≤ d1 ∧ d1 ≤ 4) (c0 : w.cell? ⟨g, 0, none⟩ = some (.int .i64 d0)) (c1 : w.cell? ⟨g, 1, none⟩ = some (.int .i64 d1)) (f0 : d0 = d1) (f1 : ¬ d0 = 1) :
  Calls Tryz.prog 223 #[.int .i64 12, .slice (some ⟨g, 0, none⟩) 2 cap] w (IntRes (resV 12 d0 d1 d2) w) := by
 have key : Hid (1 = resV 12 d0 d1 d2) := by
  show _ = _
  have e2 : resV 12 d0 d1 d2 = resV 12 d0 d1 1 := rfl;rw [e2];clear c0 c1 hg
  rcases (show d0 = 1 ∨ d0 = 2 ∨ d0 = 3 ∨ d0 = 4 by omega) with rfl | rfl | rfl | rfl <;>
  rcases (show d1 = 1 ∨ d1 = 2 ∨ d1 = 3 ∨ d1 = 4 by omega) with rfl | rfl | rfl | rfl <;>
  first | decide | (exfalso; omega)
 obtain ⟨R, hR⟩ : ∃ R, resV 12 d0 d1 d2 = R := ⟨_, rfl⟩;rw [hR] at key ⊢;clear hR;subst f0;have b1 : (d0 == 1) = false := by rw [zn]; exact f1
 have e1 : (d0 != 1) = true := by rw [bne_iff_ne]; exact f1
 clear f1;clear h0 h1;unfold IntRes;go_enter Tryz.func223, Tryz.ntmps223;go_wp2_with fail;refine wp_region_calm (fun _ w' => w'.cell? { block := g, off := 0 } = some (.int .i64 d0) ∧ w'.cell? { block := g, off := 1 } = some (.int .i64 d0)) (fun _ => false) [0, 1, 2, 3, 4, 5, 6, 7, 8, 9, 10, 11, 12, 13] 0 (by kernel_rfl) (by kernel_rfl) ?hst ?hS0 (fun w0 h0 => ?_)
 case hst => exact fun _ _ _ h r => ⟨r.cell h.1, r.cell h.2⟩
 case hS0 => exact ⟨by go_simp, by go_simp⟩
 iterate 14
  refine wpCalm_go rfl (by kernel_rfl) (fun K hK => ?_);apply Exists.intro;refine ⟨fun M w hM hS => ?_, hK _ ?_⟩
  ·have hc0 := hS.1;have hc1 := hS.2;unfold calmAt;go_simp;exact ⟨rfl, Rel.refl _⟩
  clear hK K
 refine wpAnyR_end (by kernel_rfl) (fun w3 h3' => ?_);(try simp only [Act.put, zla, zlb, zlc]);have h3 := h0.trans h3';clear h0 h3';have kz3 := h3.size;(try simp only [zsa, zsc, zsd] at kz3);have H3 := Hj h3;clear h3;have k0 := H3.out.cell c0;have k1 := H3.out.cell c1;go_wp2;go_ret;exact ⟨int_ret key.out, H3.out⟩
set_option maxRecDepth 20000 in
theorem rres12_27 (d0 d1 d2 : Int) (g cap : Nat) (w : World) (hg : g < w.heap.size) (h0 : 1 ≤ d0 ∧ d0 ≤ 4) (h1 : 1 ≤ d1 ∧ d1 ≤ 4) (c0 : w.cell? ⟨g, 0, none⟩ = some (.int .i64 d0)) (c1 : w.cell? ⟨g, 1, none⟩ = some (.int .i64 d1)) (f0 : ¬ d0 = d1) :
  Calls Tryz.prog 223 #[.int .i64 12, .slice (some ⟨g, 0, none⟩) 2 cap] w (IntRes (resV 12 d0 d1 d2) w) := by
 have key : Hid (0 = resV 12 d0 d1 d2) := by
  show _ = _
  have e2 : resV 12 d0 d1 d2 = resV 12 d0 d1 1 := rfl;rw [e2];clear c0 c1 hg
  rcases (show d0 = 1 ∨ d0 = 2 ∨ d0 = 3 ∨ d0 = 4 by omega) with rfl | rfl | rfl | rfl <;>
  rcases (show d1 = 1 ∨ d1 = 2 ∨ d1 = 3 ∨ d1 = 4 by omega) with rfl | rfl | rfl | rfl <;>
  first | decide | (exfalso; omega)
 obtain ⟨R, hR⟩ : ∃ R, resV 12 d0 d1 d2 = R := ⟨_, rfl⟩;rw [hR] at key ⊢;clear hR;have b0 : (d0 == d1) = false := by rw [zn]; exact f0
 have e0 : (d0 != d1) = true := by rw [bne_iff_ne]; exact f0
 clear f0;clear h0 h1;unfold IntRes;go_enter Tryz.func223, Tryz.ntmps223;go_wp2_with fail;refine wp_region_calm (fun _ w' => w'.cell? { block := g, off := 0 } = some (.int .i64 d0) ∧ w'.cell? { block := g, off := 1 } = some (.int .i64 d1)) (fun _ => false) [0, 1, 2, 3, 4, 5, 6, 7, 8, 9, 10, 11, 12, 13] 0 (by kernel_rfl) (by kernel_rfl) ?hst ?hS0 (fun w0 h0 => ?_)
 case hst => exact fun _ _ _ h r => ⟨r.cell h.1, r.cell h.2⟩
 case hS0 => exact ⟨by go_simp, by go_simp⟩
 iterate 8
  refine wpCalm_go rfl (by kernel_rfl) (fun K hK => ?_);apply Exists.intro;refine ⟨fun M w hM hS => ?_, hK _ ?_⟩
  ·have hc0 := hS.1;have hc1 := hS.2;unfold calmAt;go_simp;exact ⟨rfl, Rel.refl _⟩
  clear hK K
 iterate 4 (refine wpCalm_no rfl (by kernel_rfl) (fun K hK => hK _ ?_); clear hK K)
 iterate 2
  refine wpCalm_go rfl (by kernel_rfl) (fun K hK => ?_);apply Exists.intro;refine ⟨fun M w hM hS => ?_, hK _ ?_⟩
  ·have hc0 := hS.1;have hc1 := hS.2;unfold calmAt;go_simp;exact ⟨rfl, Rel.refl _⟩
  clear hK K
 refine wpAnyR_end (by kernel_rfl) (fun w3 h3' => ?_);(try simp only [Act.put, zla, zlb, zlc]);have h3 := h0.trans h3';clear h0 h3';have kz3 := h3.size;(try simp only [zsa, zsc, zsd] at kz3);have H3 := Hj h3;clear h3;have k0 := H3.out.cell c0;have k1 := H3.out.cell c1;go_wp2;go_ret;exact ⟨int_ret key.out, H3.out⟩
set_option maxRecDepth 20000 in
theorem rres13_28 (d0 d1 d2 : Int) (g cap : Nat) (w : World) (hg : g < w.heap.size) (h0 : 1 ≤ d0 ∧ d0 ≤ 4) (h1 : 1 ≤ d1 ∧ d1 ≤ 4) (c0 : w.cell? ⟨g, 0, none⟩ = some (.int .i64 d0)) (c1 : w.cell? ⟨g, 1, none⟩ = some (.int .i64 d1)) (f0 : d0 = d1) (f1 : d0 = 1) :
  Calls Tryz.prog 223 #[.int .i64 13, .slice (some ⟨g, 0, none⟩) 2 cap] w (IntRes (resV 13 d0 d1 d2) w) := by
 have key : Hid (0 = resV 13 d0 d1 d2) := by
  show _ = _
  have e2 : resV 13 d0 d1 d2 = resV 13 d0 d1 1 := rfl;rw [e2];clear c0 c1 hg
  rcases (show d0 = 1 ∨ d0 = 2 ∨ d0 = 3 ∨ d0 = 4 by omega) with rfl | rfl | rfl | rfl <;>
  rcases (show d1 = 1 ∨ d1 = 2 ∨ d1 = 3 ∨ d1 = 4 by omega) with rfl | rfl | rfl | rfl <;>
  first | decide | (exfalso; omega)
 obtain ⟨R, hR⟩ : ∃ R, resV 13 d0 d1 d2 = R := ⟨_, rfl⟩;rw [hR] at key ⊢;clear hR;subst f0;subst f1;clear h0 h1;unfold IntRes;go_enter Tryz.func223, Tryz.ntmps223;go_wp2_with fail;refine wp_region_calm (fun _ w' => w'.cell? { block := g, off := 0 } = some (.int .i64 1) ∧ w'.cell? { block := g, off := 1 } = some (.int .i64 1)) (fun _ => false) [0, 1, 2, 3, 4, 5, 6, 7, 8, 9, 10, 11, 12, 13] 0 (by kernel_rfl) (by kernel_rfl) ?hst ?hS0 (fun w0 h0 => ?_)
 case hst => exact fun _ _ _ h r => ⟨r.cell h.1, r.cell h.2⟩
 case hS0 => exact ⟨by go_simp, by go_simp⟩
 iterate 14
  refine wpCalm_go rfl (by kernel_rfl) (fun K hK => ?_);apply Exists.intro;refine ⟨fun M w hM hS => ?_, hK _ ?_⟩
  ·have hc0 := hS.1;have hc1 := hS.2;unfold calmAt;go_simp;exact ⟨rfl, Rel.refl _⟩
  clear hK K
 refine wpAnyR_end (by kernel_rfl) (fun w3 h3' => ?_);(try simp only [Act.put, zla, zlb, zlc]);have h3 := h0.trans h3';clear h0 h3';have kz3 := h3.size;(try simp only [zsa, zsc, zsd] at kz3);have H3 := Hj h3;clear h3;have k0 := H3.out.cell c0;have k1 := H3.out.cell c1;go_wp2;go_ret;exact ⟨int_ret key.out, H3.out⟩
set_option maxRecDepth 20000 in
theorem rres13_29 (d0 d1 d2 : Int) (g cap : Nat) (w : World) (hg : g < w.heap.size) (h0 : 1 ≤ d0 ∧ d0 ≤ 4) (h1 : 1 ≤ d1 ∧ d1 ≤ 4) (c0 : w.cell? ⟨g, 0, none⟩ = some (.int .i64 d0)) (c1 : w.cell? ⟨g, 1, none⟩ = some (.int .i64 d1)) (f0 : d0 = d1) (f1 : ¬ d0 = 1) :
  Calls Tryz.prog 223 #[.int .i64 13, .slice (some ⟨g, 0, none⟩) 2 cap] w (IntRes (resV 13 d0 d1 d2) w) := by
 have key : Hid (1 = resV 13 d0 d1 d2) := by
  show _ = _
  have e2 : resV 13 d0 d1 d2 = resV 13 d0 d1 1 := rfl;rw [e2];clear c0 c1 hg
  rcases (show d0 = 1 ∨ d0 = 2 ∨ d0 = 3 ∨ d0 = 4 by omega) with rfl | rfl | rfl | rfl <;>
  rcases (show d1 = 1 ∨ d1 = 2 ∨ d1 = 3 ∨ d1 = 4 by omega) with rfl | rfl | rfl | rfl <;>
  first | decide | (exfalso; omega)
 obtain ⟨R, hR⟩ : ∃ R, resV 13 d0 d1 d2 = R := ⟨_, rfl⟩;rw [hR] at key ⊢;clear hR;subst f0;have b1 : (d0 == 1) = false := by rw [zn]; exact f1
 have e1 : (d0 != 1) = true := by rw [bne_iff_ne]; exact f1
 clear f1;clear h0 h1;unfold IntRes;go_enter Tryz.func223, Tryz.ntmps223;go_wp2_with fail;refine wp_region_calm (fun _ w' => w'.cell? { block := g, off := 0 } = some (.int .i64 d0) ∧ w'.cell? { block := g, off := 1 } = some (.int .i64 d0)) (fun _ => false) [0, 1, 2, 3, 4, 5, 6, 7, 8, 9, 10, 11, 12, 13] 0 (by kernel_rfl) (by kernel_rfl) ?hst ?hS0 (fun w0 h0 => ?_)
 case hst => exact fun _ _ _ h r => ⟨r.cell h.1, r.cell h.2⟩
 case hS0 => exact ⟨by go_simp, by go_simp⟩
 iterate 14
  refine wpCalm_go rfl (by kernel_rfl) (fun K hK => ?_);apply Exists.intro;refine ⟨fun M w hM hS => ?_, hK _ ?_⟩
  ·have hc0 := hS.1;have hc1 := hS.2;unfold calmAt;go_simp;exact ⟨rfl, Rel.refl _⟩
  clear hK K
 refine wpAnyR_end (by kernel_rfl) (fun w3 h3' => ?_);(try simp only [Act.put, zla, zlb, zlc]);have h3 := h0.trans h3';clear h0 h3';have kz3 := h3.size;(try simp only [zsa, zsc, zsd] at kz3);have H3 := Hj h3;clear h3;have k0 := H3.out.cell c0;have k1 := H3.out.cell c1;go_wp2;go_ret;exact ⟨int_ret key.out, H3.out⟩
set_option maxRecDepth 20000 in
theorem rres13_30 (d0 d1 d2 : Int) (g cap : Nat) (w : World) (hg : g < w.heap.size) (h0 : 1 ≤ d0 ∧ d0 ≤ 4) (h1 : 1 ≤ d1 ∧ d1 ≤ 4) (c0 : w.cell? ⟨g, 0, none⟩ = some (.int .i64 d0)) (c1 : w.cell? ⟨g, 1, none⟩ = some (.int .i64 d1)) (f0 : ¬ d0 = d1) :
  Calls Tryz.prog 223 #[.int .i64 13, .slice (some ⟨g, 0, none⟩) 2 cap] w (IntRes (resV 13 d0 d1 d2) w) := by
 have key : Hid (0 = resV 13 d0 d1 d2) := by
  show _ = _
  have e2 : resV 13 d0 d1 d2 = resV 13 d0 d1 1 := rfl;rw [e2];clear c0 c1 hg
  rcases (show d0 = 1 ∨ d0 = 2 ∨ d0 = 3 ∨ d0 = 4 by omega) with rfl | rfl | rfl | rfl <;>
  rcases (show d1 = 1 ∨ d1 = 2 ∨ d1 = 3 ∨ d1 = 4 by omega) with rfl | rfl | rfl | rfl <;>
  first | decide | (exfalso; omega)
 obtain ⟨R, hR⟩ : ∃ R, resV 13 d0 d1 d2 = R := ⟨_, rfl⟩;rw [hR] at key ⊢;clear hR;have b0 : (d0 == d1) = false := by rw [zn]; exact f0
 have e0 : (d0 != d1) = true := by rw [bne_iff_ne]; exact f0
 clear f0;clear h0 h1;unfold IntRes;go_enter Tryz.func223, Tryz.ntmps223;go_wp2_with fail;refine wp_region_calm (fun _ w' => w'.cell? { block := g, off := 0 } = some (.int .i64 d0) ∧ w'.cell? { block := g, off := 1 } = some (.int .i64 d1)) (fun _ => false) [0, 1, 2, 3, 4, 5, 6, 7, 8, 9, 10, 11, 12, 13] 0 (by kernel_rfl) (by kernel_rfl) ?hst ?hS0 (fun w0 h0 => ?_)
 case hst => exact fun _ _ _ h r => ⟨r.cell h.1, r.cell h.2⟩
 case hS0 => exact ⟨by go_simp, by go_simp⟩
 iterate 8
  refine wpCalm_go rfl (by kernel_rfl) (fun K hK => ?_);apply Exists.intro;refine ⟨fun M w hM hS => ?_, hK _ ?_⟩
  ·have hc0 := hS.1;have hc1 := hS.2;unfold calmAt;go_simp;exact ⟨rfl, Rel.refl _⟩
  clear hK K
 iterate 4 (refine wpCalm_no rfl (by kernel_rfl) (fun K hK => hK _ ?_); clear hK K)
 iterate 2
  refine wpCalm_go rfl (by kernel_rfl) (fun K hK => ?_);apply Exists.intro;refine ⟨fun M w hM hS => ?_, hK _ ?_⟩
  ·have hc0 := hS.1;have hc1 := hS.2;unfold calmAt;go_simp;exact ⟨rfl, Rel.refl _⟩
  clear hK K
 refine wpAnyR_end (by kernel_rfl) (fun w3 h3' => ?_);(try simp only [Act.put, zla, zlb, zlc]);have h3 := h0.trans h3';clear h0 h3';have kz3 := h3.size;(try simp only [zsa, zsc, zsd] at kz3);have H3 := Hj h3;clear h3;have k0 := H3.out.cell c0;have k1 := H3.out.cell c1;go_wp2;go_ret;exact ⟨int_ret key.out, H3.out⟩
set_option maxRecDepth 20000 in
theorem rres14_31 (d0 d1 d2 : Int) (g cap : Nat) (w : World) (hg : g < w.heap.size) (h0 : 1 ≤ d0 ∧ d0 ≤ 4) (h1 : 1 ≤ d1 ∧ d1 ≤ 4) (c0 : w.cell? ⟨g, 0, none⟩ = some (.int .i64 d0)) (c1 : w.cell? ⟨g, 1, none⟩ = some (.int .i64 d1)) (f0 : d0 = d1) (f1 : d0 = 1) :
  Calls Tryz.prog 223 #[.int .i64 14, .slice (some ⟨g, 0, none⟩) 2 cap] w (IntRes (resV 14 d0 d1 d2) w) := by
 have key : Hid (0 = resV 14 d0 d1 d2) := by
  show _ = _
  have e2 : resV 14 d0 d1 d2 = resV 14 d0 d1 1 := rfl;rw [e2];clear c0 c1 hg
  rcases (show d0 = 1 ∨ d0 = 2 ∨ d0 = 3 ∨ d0 = 4 by omega) with rfl | rfl | rfl | rfl <;>
  rcases (show d1 = 1 ∨ d1 = 2 ∨ d1 = 3 ∨ d1 = 4 by omega) with rfl | rfl | rfl | rfl <;>
  first | decide | (exfalso; omega)
 obtain ⟨R, hR⟩ : ∃ R, resV 14 d0 d1 d2 = R := ⟨_, rfl⟩;rw [hR] at key ⊢;clear hR;subst f0;subst f1;clear h0 h1;unfold IntRes;go_enter Tryz.func223, Tryz.ntmps223;go_wp2_with fail;refine wp_region_calm (fun _ w' => w'.cell? { block := g, off := 0 } = some (.int .i64 1) ∧ w'.cell? { block := g, off := 1 } = some (.int .i64 1)) (fun _ => false) [0, 1, 2, 3, 4, 5, 6, 7, 8, 9, 10, 11, 12, 13] 0 (by kernel_rfl) (by kernel_rfl) ?hst ?hS0 (fun w0 h0 => ?_)
 case hst => exact fun _ _ _ h r => ⟨r.cell h.1, r.cell h.2⟩
 case hS0 => exact ⟨by go_simp, by go_simp⟩
 iterate 14
  refine wpCalm_go rfl (by kernel_rfl) (fun K hK => ?_);apply Exists.intro;refine ⟨fun M w hM hS => ?_, hK _ ?_⟩
  ·have hc0 := hS.1;have hc1 := hS.2;unfold calmAt;go_simp;exact ⟨rfl, Rel.refl _⟩
  clear hK K
 refine wpAnyR_end (by kernel_rfl) (fun w3 h3' => ?_);(try simp only [Act.put, zla, zlb, zlc]);have h3 := h0.trans h3';clear h0 h3';have kz3 := h3.size;(try simp only [zsa, zsc, zsd] at kz3);have H3 := Hj h3;clear h3;have k0 := H3.out.cell c0;have k1 := H3.out.cell c1;go_wp2;go_ret;exact ⟨int_ret key.out, H3.out⟩
set_option maxRecDepth 20000 in
theorem rres14_32 (d0 d1 d2 : Int) (g cap : Nat) (w : World) (hg : g < w.heap.size) (h0 : 1 ≤ d0 ∧ d0 ≤ 4) (h1 : 1 ≤ d1 ∧ d1 ≤ 4) (c0 : w.cell? ⟨g, 0, none⟩ = some (.int .i64 d0)) (c1 : w.cell? ⟨g, 1, none⟩ = some (.int .i64 d1)) (f0 : d0 = d1) (f1 : ¬ d0 = 1) :
  Calls Tryz.prog 223 #[.int .i64 14, .slice (some ⟨g, 0, none⟩) 2 cap] w (IntRes (resV 14 d0 d1 d2) w) := by
 have key : Hid (1 = resV 14 d0 d1 d2) := by
  show _ = _
  have e2 : resV 14 d0 d1 d2 = resV 14 d0 d1 1 := rfl;rw [e2];clear c0 c1 hg
  rcases (show d0 = 1 ∨ d0 = 2 ∨ d0 = 3 ∨ d0 = 4 by omega) with rfl | rfl | rfl | rfl <;>
  rcases (show d1 = 1 ∨ d1 = 2 ∨ d1 = 3 ∨ d1 = 4 by omega) with rfl | rfl | rfl | rfl <;>
  first | decide | (exfalso; omega)
 obtain ⟨R, hR⟩ : ∃ R, resV 14 d0 d1 d2 = R := ⟨_, rfl⟩;rw [hR] at key ⊢;clear hR;subst f0;have b1 : (d0 == 1) = false := by rw [zn]; exact f1
 have e1 : (d0 != 1) = true := by rw [bne_iff_ne]; exact f1
 clear f1;clear h0 h1;unfold IntRes;go_enter Tryz.func223, Tryz.ntmps223;go_wp2_with fail;refine wp_region_calm (fun _ w' => w'.cell? { block := g, off := 0 } = some (.int .i64 d0) ∧ w'.cell? { block := g, off := 1 } = some (.int .i64 d0)) (fun _ => false) [0, 1, 2, 3, 4, 5, 6, 7, 8, 9, 10, 11, 12, 13] 0 (by kernel_rfl) (by kernel_rfl) ?hst ?hS0 (fun w0 h0 => ?_)
 case hst => exact fun _ _ _ h r => ⟨r.cell h.1, r.cell h.2⟩
 case hS0 => exact ⟨by go_simp, by go_simp⟩
 iterate 14
  refine wpCalm_go rfl (by kernel_rfl) (fun K hK => ?_);apply Exists.intro;refine ⟨fun M w hM hS => ?_, hK _ ?_⟩
  ·have hc0 := hS.1;have hc1 := hS.2;unfold calmAt;go_simp;exact ⟨rfl, Rel.refl _⟩
  clear hK K
 refine wpAnyR_end (by kernel_rfl) (fun w3 h3' => ?_);(try simp only [Act.put, zla, zlb, zlc]);have h3 := h0.trans h3';clear h0 h3';have kz3 := h3.size;(try simp only [zsa, zsc, zsd] at kz3);have H3 := Hj h3;clear h3;have k0 := H3.out.cell c0;have k1 := H3.out.cell c1;go_wp2;go_ret;exact ⟨int_ret key.out, H3.out⟩
set_option maxRecDepth 20000 in
theorem rres14_33 (d0 d1 d2 : Int) (g cap : Nat) (w : World) (hg : g < w.heap.size) (h0 : 1 ≤ d0 ∧ d0 ≤ 4) (h1 : 1 ≤ d1 ∧ d1 ≤ 4) (c0 : w.cell? ⟨g, 0, none⟩ = some (.int .i64 d0)) (c1 : w.cell? ⟨g, 1, none⟩ = some (.int .i64 d1)) (f0 : ¬ d0 = d1) :
  Calls Tryz.prog 223 #[.int .i64 14, .slice (some ⟨g, 0, none⟩) 2 cap] w (IntRes (resV 14 d0 d1 d2) w) := by
 have key : Hid (0 = resV 14 d0 d1 d2) := by
  show _ = _
  have e2 : resV 14 d0 d1 d2 = resV 14 d0 d1 1 := rfl;rw [e2];clear c0 c1 hg
  rcases (show d0 = 1 ∨ d0 = 2 ∨ d0 = 3 ∨ d0 = 4 by omega) with rfl | rfl | rfl | rfl <;>
  rcases (show d1 = 1 ∨ d1 = 2 ∨ d1 = 3 ∨ d1 = 4 by omega) with rfl | rfl | rfl | rfl <;>
  first | decide | (exfalso; omega)
 obtain ⟨R, hR⟩ : ∃ R, resV 14 d0 d1 d2 = R := ⟨_, rfl⟩;rw [hR] at key ⊢;clear hR;have b0 : (d0 == d1) = false := by rw [zn]; exact f0
 have e0 : (d0 != d1) = true := by rw [bne_iff_ne]; exact f0
 clear f0;clear h0 h1;unfold IntRes;go_enter Tryz.func223, Tryz.ntmps223;go_wp2_with fail;refine wp_region_calm (fun _ w' => w'.cell? { block := g, off := 0 } = some (.int .i64 d0) ∧ w'.cell? { block := g, off := 1 } = some (.int .i64 d1)) (fun _ => false) [0, 1, 2, 3, 4, 5, 6, 7, 8, 9, 10, 11, 12, 13] 0 (by kernel_rfl) (by kernel_rfl) ?hst ?hS0 (fun w0 h0 => ?_)
 case hst => exact fun _ _ _ h r => ⟨r.cell h.1, r.cell h.2⟩
 case hS0 => exact ⟨by go_simp, by go_simp⟩
 iterate 8
  refine wpCalm_go rfl (by kernel_rfl) (fun K hK => ?_);apply Exists.intro;refine ⟨fun M w hM hS => ?_, hK _ ?_⟩
  ·have hc0 := hS.1;have hc1 := hS.2;unfold calmAt;go_simp;exact ⟨rfl, Rel.refl _⟩
  clear hK K
 iterate 4 (refine wpCalm_no rfl (by kernel_rfl) (fun K hK => hK _ ?_); clear hK K)
 iterate 2
  refine wpCalm_go rfl (by kernel_rfl) (fun K hK => ?_);apply Exists.intro;refine ⟨fun M w hM hS => ?_, hK _ ?_⟩
  ·have hc0 := hS.1;have hc1 := hS.2;unfold calmAt;go_simp;exact ⟨rfl, Rel.refl _⟩
  clear hK K
 refine wpAnyR_end (by kernel_rfl) (fun w3 h3' => ?_);(try simp only [Act.put, zla, zlb, zlc]);have h3 := h0.trans h3';clear h0 h3';have kz3 := h3.size;(try simp only [zsa, zsc, zsd] at kz3);have H3 := Hj h3;clear h3;have k0 := H3.out.cell c0;have k1 := H3.out.cell c1;go_wp2;go_ret;exact ⟨int_ret key.out, H3.out⟩
set_option maxRecDepth 20000 in
theorem rres15_34 (d0 d1 d2 : Int) (g cap : Nat) (w : World) (hg : g < w.heap.size) (h0 : 1 ≤ d0 ∧ d0 ≤ 4) (h1 : 1 ≤ d1 ∧ d1 ≤ 4) (c0 : w.cell? ⟨g, 0, none⟩ = some (.int .i64 d0)) (c1 : w.cell? ⟨g, 1, none⟩ = some (.int .i64 d1)) (f0 : d0 = d1) (f1 : d0 = 1) :
  Calls Tryz.prog 223 #[.int .i64 15, .slice (some ⟨g, 0, none⟩) 2 cap] w (IntRes (resV 15 d0 d1 d2) w) := by
 have key : Hid (0 = resV 15 d0 d1 d2) := by
  show _ = _
  have e2 : resV 15 d0 d1 d2 = resV 15 d0 d1 1 := rfl;rw [e2];clear c0 c1 hg
  rcases (show d0 = 1 ∨ d0 = 2 ∨ d0 = 3 ∨ d0 = 4 by omega) with rfl | rfl | rfl | rfl <;>
  rcases (show d1 = 1 ∨ d1 = 2 ∨ d1 = 3 ∨ d1 = 4 by omega) with rfl | rfl | rfl | rfl <;>
  first | decide | (exfalso; omega)
 obtain ⟨R, hR⟩ : ∃ R, resV 15 d0 d1 d2 = R := ⟨_, rfl⟩;rw [hR] at key ⊢;clear hR;subst f0;subst f1;clear h0 h1;unfold IntRes;go_enter Tryz.func223, Tryz.ntmps223;go_wp2_with fail;refine wp_region_calm (fun _ w' => w'.cell? { block := g, off := 0 } = some (.int .i64 1) ∧ w'.cell? { block := g, off := 1 } = some (.int .i64 1)) (fun _ => false) [0, 1, 2, 3, 4, 5, 6, 7, 8, 9, 10, 11, 12, 13] 0 (by kernel_rfl) (by kernel_rfl) ?hst ?hS0 (fun w0 h0 => ?_)
 case hst => exact fun _ _ _ h r => ⟨r.cell h.1, r.cell h.2⟩
 case hS0 => exact ⟨by go_simp, by go_simp⟩
 iterate 14
  refine wpCalm_go rfl (by kernel_rfl) (fun K hK => ?_);apply Exists.intro;refine ⟨fun M w hM hS => ?_, hK _ ?_⟩
  ·have hc0 := hS.1;have hc1 := hS.2;unfold calmAt;go_simp;exact ⟨rfl, Rel.refl _⟩
  clear hK K
 refine wpAnyR_end (by kernel_rfl) (fun w3 h3' => ?_);(try simp only [Act.put, zla, zlb, zlc]);have h3 := h0.trans h3';clear h0 h3';have kz3 := h3.size;(try simp only [zsa, zsc, zsd] at kz3);have H3 := Hj h3;clear h3;have k0 := H3.out.cell c0;have k1 := H3.out.cell c1;go_wp2;go_ret;exact ⟨int_ret key.out, H3.out⟩
set_option maxRecDepth 20000 in
theorem rres15_35 (d0 d1 d2 : Int) (g cap : Nat) (w : World) (hg : g < w.heap.size) (h0 : 1 ≤ d0 ∧ d0 ≤ 4) (h1 : 1 ≤ d1 ∧ d1 ≤ 4) (c0 : w.cell? ⟨g, 0, none⟩ = some (.int .i64 d0)) (c1 : w.cell? ⟨g, 1, none⟩ = some (.int .i64 d1)) (f0 : d0 = d1) (f1 : ¬ d0 = 1) :
  Calls Tryz.prog 223 #[.int .i64 15, .slice (some ⟨g, 0, none⟩) 2 cap] w (IntRes (resV 15 d0 d1 d2) w) := by
 have key : Hid (1 = resV 15 d0 d1 d2) := by
  show _ = _
  have e2 : resV 15 d0 d1 d2 = resV 15 d0 d1 1 := rfl;rw [e2];clear c0 c1 hg
  rcases (show d0 = 1 ∨ d0 = 2 ∨ d0 = 3 ∨ d0 = 4 by omega) with rfl | rfl | rfl | rfl <;>
  rcases (show d1 = 1 ∨ d1 = 2 ∨ d1 = 3 ∨ d1 = 4 by omega) with rfl | rfl | rfl | rfl <;>
  first | decide | (exfalso; omega)
 obtain ⟨R, hR⟩ : ∃ R, resV 15 d0 d1 d2 = R := ⟨_, rfl⟩;rw [hR] at key ⊢;clear hR;subst f0;have b1 : (d0 == 1) = false := by rw [zn]; exact f1
 have e1 : (d0 != 1) = true := by rw [bne_iff_ne]; exact f1
 clear f1;clear h0 h1;unfold IntRes;go_enter Tryz.func223, Tryz.ntmps223;go_wp2_with fail;refine wp_region_calm (fun _ w' => w'.cell? { block := g, off := 0 } = some (.int .i64 d0) ∧ w'.cell? { block := g, off := 1 } = some (.int .i64 d0)) (fun _ => false) [0, 1, 2, 3, 4, 5, 6, 7, 8, 9, 10, 11, 12, 13] 0 (by kernel_rfl) (by kernel_rfl) ?hst ?hS0 (fun w0 h0 => ?_)
 case hst => exact fun _ _ _ h r => ⟨r.cell h.1, r.cell h.2⟩
 case hS0 => exact ⟨by go_simp, by go_simp⟩
 iterate 14
  refine wpCalm_go rfl (by kernel_rfl) (fun K hK => ?_);apply Exists.intro;refine ⟨fun M w hM hS => ?_, hK _ ?_⟩
  ·have hc0 := hS.1;have hc1 := hS.2;unfold calmAt;go_simp;exact ⟨rfl, Rel.refl _⟩
  clear hK K
 refine wpAnyR_end (by kernel_rfl) (fun w3 h3' => ?_);(try simp only [Act.put, zla, zlb, zlc]);have h3 := h0.trans h3';clear h0 h3';have kz3 := h3.size;(try simp only [zsa, zsc, zsd] at kz3);have H3 := Hj h3;clear h3;have k0 := H3.out.cell c0;have k1 := H3.out.cell c1;go_wp2;go_ret;exact ⟨int_ret key.out, H3.out⟩
set_option maxRecDepth 20000 in
theorem rres15_36 (d0 d1 d2 : Int) (g cap : Nat) (w : World) (hg : g < w.heap.size) (h0 : 1 ≤ d0 ∧ d0 ≤ 4) (h1 : 1 ≤ d1 ∧ d1 ≤ 4) (c0 : w.cell? ⟨g, 0, none⟩ = some (.int .i64 d0)) (c1 : w.cell? ⟨g, 1, none⟩ = some (.int .i64 d1)) (f0 : ¬ d0 = d1) :
  Calls Tryz.prog 223 #[.int .i64 15, .slice (some ⟨g, 0, none⟩) 2 cap] w (IntRes (resV 15 d0 d1 d2) w) := by
 have key : Hid (0 = resV 15 d0 d1 d2) := by
  show _ = _
  have e2 : resV 15 d0 d1 d2 = resV 15 d0 d1 1 := rfl;rw [e2];clear c0 c1 hg
  rcases (show d0 = 1 ∨ d0 = 2 ∨ d0 = 3 ∨ d0 = 4 by omega) with rfl | rfl | rfl | rfl <;>
  rcases (show d1 = 1 ∨ d1 = 2 ∨ d1 = 3 ∨ d1 = 4 by omega) with rfl | rfl | rfl | rfl <;>
  first | decide | (exfalso; omega)
 obtain ⟨R, hR⟩ : ∃ R, resV 15 d0 d1 d2 = R := ⟨_, rfl⟩;rw [hR] at key ⊢;clear hR;have b0 : (d0 == d1) = false := by rw [zn]; exact f0
 have e0 : (d0 != d1) = true := by rw [bne_iff_ne]; exact f0
 clear f0;clear h0 h1;unfold IntRes;go_enter Tryz.func223, Tryz.ntmps223;go_wp2_with fail;refine wp_region_calm (fun _ w' => w'.cell? { block := g, off := 0 } = some (.int .i64 d0) ∧ w'.cell? { block := g, off := 1 } = some (.int .i64 d1)) (fun _ => false) [0, 1, 2, 3, 4, 5, 6, 7, 8, 9, 10, 11, 12, 13] 0 (by kernel_rfl) (by kernel_rfl) ?hst ?hS0 (fun w0 h0 => ?_)
 case hst => exact fun _ _ _ h r => ⟨r.cell h.1, r.cell h.2⟩
 case hS0 => exact ⟨by go_simp, by go_simp⟩
 iterate 8
  refine wpCalm_go rfl (by kernel_rfl) (fun K hK => ?_);apply Exists.intro;refine ⟨fun M w hM hS => ?_, hK _ ?_⟩
  ·have hc0 := hS.1;have hc1 := hS.2;unfold calmAt;go_simp;exact ⟨rfl, Rel.refl _⟩
  clear hK K
 iterate 4 (refine wpCalm_no rfl (by kernel_rfl) (fun K hK => hK _ ?_); clear hK K)
 iterate 2
  refine wpCalm_go rfl (by kernel_rfl) (fun K hK => ?_);apply Exists.intro;refine ⟨fun M w hM hS => ?_, hK _ ?_⟩
  ·have hc0 := hS.1;have hc1 := hS.2;unfold calmAt;go_simp;exact ⟨rfl, Rel.refl _⟩
  clear hK K
 refine wpAnyR_end (by kernel_rfl) (fun w3 h3' => ?_);(try simp only [Act.put, zla, zlb, zlc]);have h3 := h0.trans h3';clear h0 h3';have kz3 := h3.size;(try simp only [zsa, zsc, zsd] at kz3);have H3 := Hj h3;clear h3;have k0 := H3.out.cell c0;have k1 := H3.out.cell c1;go_wp2;go_ret;exact ⟨int_ret key.out, H3.out⟩
set_option maxRecDepth 20000 in
theorem rres16_37 (d0 d1 d2 : Int) (g cap : Nat) (w : World) (hg : g < w.heap.size) (h0 : 1 ≤ d0 ∧ d0 ≤ 4) (h1 : 1 ≤ d1 ∧ d1 ≤ 4) (c0 : w.cell? ⟨g, 0, none⟩ = some (.int .i64 d0)) (c1 : w.cell? ⟨g, 1, none⟩ = some (.int .i64 d1)) (f0 : d0 = d1) (f1 : d0 = 1) :
  Calls Tryz.prog 223 #[.int .i64 16, .slice (some ⟨g, 0, none⟩) 2 cap] w (IntRes (resV 16 d0 d1 d2) w) := by
 have key : Hid (0 = resV 16 d0 d1 d2) := by
  show _ = _
  have e2 : resV 16 d0 d1 d2 = resV 16 d0 d1 1 := rfl;rw [e2];clear c0 c1 hg
  rcases (show d0 = 1 ∨ d0 = 2 ∨ d0 = 3 ∨ d0 = 4 by omega) with rfl | rfl | rfl | rfl <;>
  rcases (show d1 = 1 ∨ d1 = 2 ∨ d1 = 3 ∨ d1 = 4 by omega) with rfl | rfl | rfl | rfl <;>
  first | decide | (exfalso; omega)
 obtain ⟨R, hR⟩ : ∃ R, resV 16 d0 d1 d2 = R := ⟨_, rfl⟩;rw [hR] at key ⊢;clear hR;subst f0;subst f1;clear h0 h1;unfold IntRes;go_enter Tryz.func223, Tryz.ntmps223;go_wp2_with fail;refine wp_region_calm (fun _ w' => w'.cell? { block := g, off := 0 } = some (.int .i64 1) ∧ w'.cell? { block := g, off := 1 } = some (.int .i64 1)) (fun _ => false) [0, 1, 2, 3, 4, 5, 6, 7, 8, 9, 10, 11, 12, 13] 0 (by kernel_rfl) (by kernel_rfl) ?hst ?hS0 (fun w0 h0 => ?_)
 case hst => exact fun _ _ _ h r => ⟨r.cell h.1, r.cell h.2⟩
 case hS0 => exact ⟨by go_simp, by go_simp⟩
 iterate 14
  refine wpCalm_go rfl (by kernel_rfl) (fun K hK => ?_);apply Exists.intro;refine ⟨fun M w hM hS => ?_, hK _ ?_⟩
  ·have hc0 := hS.1;have hc1 := hS.2;unfold calmAt;go_simp;exact ⟨rfl, Rel.refl _⟩
  clear hK K
 refine wpAnyR_end (by kernel_rfl) (fun w3 h3' => ?_);(try simp only [Act.put, zla, zlb, zlc]);have h3 := h0.trans h3';clear h0 h3';have kz3 := h3.size;(try simp only [zsa, zsc, zsd] at kz3);have H3 := Hj h3;clear h3;have k0 := H3.out.cell c0;have k1 := H3.out.cell c1;go_wp2;go_ret;exact ⟨int_ret key.out, H3.out⟩
set_option maxRecDepth 20000 in
theorem rres16_38 (d0 d1 d2 : Int) (g cap : Nat) (w : World) (hg : g < w.heap.size) (h0 : 1 ≤ d0 ∧ d0 ≤ 4) (h1 : 1 ≤ d1 ∧ d1 ≤ 4) (c0 : w.cell? ⟨g, 0, none⟩ = some (.int .i64 d0)) (c1 : w.cell? ⟨g, 1, none⟩ = some (.int .i64 d1)) (f0 : d0 = d1) (f1 : ¬ d0 = 1) :
  Calls Tryz.prog 223 #[.int .i64 16, .slice (some ⟨g, 0, none⟩) 2 cap] w (IntRes (resV 16 d0 d1 d2) w) := by
 have key : Hid (1 = resV 16 d0 d1 d2) := by
  show _ = _
  have e2 : resV 16 d0 d1 d2 = resV 16 d0 d1 1 := rfl;rw [e2];clear c0 c1 hg
  rcases (show d0 = 1 ∨ d0 = 2 ∨ d0 = 3 ∨ d0 = 4 by omega) with rfl | rfl | rfl | rfl <;>
  rcases (show d1 = 1 ∨ d1 = 2 ∨ d1 = 3 ∨ d1 = 4 by omega) with rfl | rfl | rfl | rfl <;>
  first | decide | (exfalso; omega)
 obtain ⟨R, hR⟩ : ∃ R, resV 16 d0 d1 d2 = R := ⟨_, rfl⟩;rw [hR] at key ⊢;clear hR;subst f0;have b1 : (d0 == 1) = false := by rw [zn]; exact f1
 have e1 : (d0 != 1) = true := by rw [bne_iff_ne]; exact f1
 clear f1;clear h0 h1;unfold IntRes;go_enter Tryz.func223, Tryz.ntmps223;go_wp2_with fail;refine wp_region_calm (fun _ w' => w'.cell? { block := g, off := 0 } = some (.int .i64 d0) ∧ w'.cell? { block := g, off := 1 } = some (.int .i64 d0)) (fun _ => false) [0, 1, 2, 3, 4, 5, 6, 7, 8, 9, 10, 11, 12, 13] 0 (by kernel_rfl) (by kernel_rfl) ?hst ?hS0 (fun w0 h0 => ?_)
 case hst => exact fun _ _ _ h r => ⟨r.cell h.1, r.cell h.2⟩
 case hS0 => exact ⟨by go_simp, by go_simp⟩
 iterate 14
  refine wpCalm_go rfl (by kernel_rfl) (fun K hK => ?_);apply Exists.intro;refine ⟨fun M w hM hS => ?_, hK _ ?_⟩
  ·have hc0 := hS.1;have hc1 := hS.2;unfold calmAt;go_simp;exact ⟨rfl, Rel.refl _⟩
  clear hK K
 refine wpAnyR_end (by kernel_rfl) (fun w3 h3' => ?_);(try simp only [Act.put, zla, zlb, zlc]);have h3 := h0.trans h3';clear h0 h3';have kz3 := h3.size;(try simp only [zsa, zsc, zsd] at kz3);have H3 := Hj h3;clear h3;have k0 := H3.out.cell c0;have k1 := H3.out.cell c1;go_wp2;go_ret;exact ⟨int_ret key.out, H3.out⟩
set_option maxRecDepth 20000 in
theorem rres16_39 (d0 d1 d2 : Int) (g cap : Nat) (w : World) (hg : g < w.heap.size) (h0 : 1 ≤ d0 ∧ d0 ≤ 4) (h1 : 1 ≤ d1 ∧ d1 ≤ 4) (c0 : w.cell? ⟨g, 0, none⟩ = some (.int .i64 d0)) (c1 : w.cell? ⟨g, 1, none⟩ = some (.int .i64 d1)) (f0 : ¬ d0 = d1) :
  Calls Tryz.prog 223 #[.int .i64 16, .slice (some ⟨g, 0, none⟩) 2 cap] w (IntRes (resV 16 d0 d1 d2) w) := by
 have key : Hid (0 = resV 16 d0 d1 d2) := by
  show _ = _
  have e2 : resV 16 d0 d1 d2 = resV 16 d0 d1 1 := rfl;rw [e2];clear c0 c1 hg
  rcases (show d0 = 1 ∨ d0 = 2 ∨ d0 = 3 ∨ d0 = 4 by omega) with rfl | rfl | rfl | rfl <;>
  rcases (show d1 = 1 ∨ d1 = 2 ∨ d1 = 3 ∨ d1 = 4 by omega) with rfl | rfl | rfl | rfl <;>
  first | decide | (exfalso; omega)
 obtain ⟨R, hR⟩ : ∃ R, resV 16 d0 d1 d2 = R := ⟨_, rfl⟩;rw [hR] at key ⊢;clear hR;have b0 : (d0 == d1) = false := by rw [zn]; exact f0
 have e0 : (d0 != d1) = true := by rw [bne_iff_ne]; exact f0
 clear f0;clear h0 h1;unfold IntRes;go_enter Tryz.func223, Tryz.ntmps223;go_wp2_with fail;refine wp_region_calm (fun _ w' => w'.cell? { block := g, off := 0 } = some (.int .i64 d0) ∧ w'.cell? { block := g, off := 1 } = some (.int .i64 d1)) (fun _ => false) [0, 1, 2, 3, 4, 5, 6, 7, 8, 9, 10, 11, 12, 13] 0 (by kernel_rfl) (by kernel_rfl) ?hst ?hS0 (fun w0 h0 => ?_)
 case hst => exact fun _ _ _ h r => ⟨r.cell h.1, r.cell h.2⟩
 case hS0 => exact ⟨by go_simp, by go_simp⟩
 iterate 8
  refine wpCalm_go rfl (by kernel_rfl) (fun K hK => ?_);apply Exists.intro;refine ⟨fun M w hM hS => ?_, hK _ ?_⟩
  ·have hc0 := hS.1;have hc1 := hS.2;unfold calmAt;go_simp;exact ⟨rfl, Rel.refl _⟩
  clear hK K
 iterate 4 (refine wpCalm_no rfl (by kernel_rfl) (fun K hK => hK _ ?_); clear hK K)
 iterate 2
  refine wpCalm_go rfl (by kernel_rfl) (fun K hK => ?_);apply Exists.intro;refine ⟨fun M w hM hS => ?_, hK _ ?_⟩
  ·have hc0 := hS.1;have hc1 := hS.2;unfold calmAt;go_simp;exact ⟨rfl, Rel.refl _⟩
  clear hK K
 refine wpAnyR_end (by kernel_rfl) (fun w3 h3' => ?_);(try simp only [Act.put, zla, zlb, zlc]);have h3 := h0.trans h3';clear h0 h3';have kz3 := h3.size;(try simp only [zsa, zsc, zsd] at kz3);have H3 := Hj h3;clear h3;have k0 := H3.out.cell c0;have k1 := H3.out.cell c1;go_wp2;go_ret;exact ⟨int_ret key.out, H3.out⟩
set_option maxRecDepth 20000 in
theorem rres17_40 (d0 d1 d2 : Int) (g cap : Nat) (w : World) (hg : g < w.heap.size) (h0 : 1 ≤ d0 ∧ d0 ≤ 4) (h1 : 1 ≤ d1 ∧ d1 ≤ 4) (c0 : w.cell? ⟨g, 0, none⟩ = some (.int .i64 d0)) (c1 : w.cell? ⟨g, 1, none⟩ = some (.int .i64 d1)) (f0 : d0 = 1) (f1 : d1 = 1) :
  Calls Tryz.prog 223 #[.int .i64 17, .slice (some ⟨g, 0, none⟩) 2 cap] w (IntRes (resV 17 d0 d1 d2) w) := by
 have key : Hid (1 = resV 17 d0 d1 d2) := by
  show _ = _
  have e2 : resV 17 d0 d1 d2 = resV 17 d0 d1 1 := rfl;rw [e2];clear c0 c1 hg
  rcases (show d0 = 1 ∨ d0 = 2 ∨ d0 = 3 ∨ d0 = 4 by omega) with rfl | rfl | rfl | rfl <;>
  rcases (show d1 = 1 ∨ d1 = 2 ∨ d1 = 3 ∨ d1 = 4 by omega) with rfl | rfl | rfl | rfl <;>
  first | decide | (exfalso; omega)
 obtain ⟨R, hR⟩ : ∃ R, resV 17 d0 d1 d2 = R := ⟨_, rfl⟩;rw [hR] at key ⊢;clear hR;subst f0;subst f1;clear h0 h1;unfold IntRes;go_enter Tryz.func223, Tryz.ntmps223;go_wp2;go_ret;exact ⟨int_ret key.out, Rel.refl _⟩
set_option maxRecDepth 20000 in
theorem rres17_41 (d0 d1 d2 : Int) (g cap : Nat) (w : World) (hg : g < w.heap.size) (h0 : 1 ≤ d0 ∧ d0 ≤ 4) (h1 : 1 ≤ d1 ∧ d1 ≤ 4) (c0 : w.cell? ⟨g, 0, none⟩ = some (.int .i64 d0)) (c1 : w.cell? ⟨g, 1, none⟩ = some (.int .i64 d1)) (f0 : d0 = 1) (f1 : ¬ d1 = 1) :
  Calls Tryz.prog 223 #[.int .i64 17, .slice (some ⟨g, 0, none⟩) 2 cap] w (IntRes (resV 17 d0 d1 d2) w) := by
 have key : Hid (0 = resV 17 d0 d1 d2) := by
  show _ = _
  have e2 : resV 17 d0 d1 d2 = resV 17 d0 d1 1 := rfl;rw [e2];clear c0 c1 hg
  rcases (show d0 = 1 ∨ d0 = 2 ∨ d0 = 3 ∨ d0 = 4 by omega) with rfl | rfl | rfl | rfl <;>
  rcases (show d1 = 1 ∨ d1 = 2 ∨ d1 = 3 ∨ d1 = 4 by omega) with rfl | rfl | rfl | rfl <;>
  first | decide | (exfalso; omega)
 obtain ⟨R, hR⟩ : ∃ R, resV 17 d0 d1 d2 = R := ⟨_, rfl⟩;rw [hR] at key ⊢;clear hR;subst f0;have b1 : (d1 == 1) = false := by rw [zn]; exact f1
 have e1 : (d1 != 1) = true := by rw [bne_iff_ne]; exact f1
 clear f1;clear h0 h1;unfold IntRes;go_enter Tryz.func223, Tryz.ntmps223;go_wp2;go_ret;exact ⟨int_ret key.out, Rel.refl _⟩
set_option maxRecDepth 20000 in
theorem rres17_42 (d0 d1 d2 : Int) (g cap : Nat) (w : World) (hg : g < w.heap.size) (h0 : 1 ≤ d0 ∧ d0 ≤ 4) (h1 : 1 ≤ d1 ∧ d1 ≤ 4) (c0 : w.cell? ⟨g, 0, none⟩ = some (.int .i64 d0)) (c1 : w.cell? ⟨g, 1, none⟩ = some (.int .i64 d1)) (f0 : ¬ d0 = 1) :
  Calls Tryz.prog 223 #[.int .i64 17, .slice (some ⟨g, 0, none⟩) 2 cap] w (IntRes (resV 17 d0 d1 d2) w) := by
 have key : Hid (0 = resV 17 d0 d1 d2) := by
  show _ = _
  have e2 : resV 17 d0 d1 d2 = resV 17 d0 d1 1 := rfl;rw [e2];clear c0 c1 hg
  rcases (show d0 = 1 ∨ d0 = 2 ∨ d0 = 3 ∨ d0 = 4 by omega) with rfl | rfl | rfl | rfl <;>
  rcases (show d1 = 1 ∨ d1 = 2 ∨ d1 = 3 ∨ d1 = 4 by omega) with rfl | rfl | rfl | rfl <;>
  first | decide | (exfalso; omega)
 obtain ⟨R, hR⟩ : ∃ R, resV 17 d0 d1 d2 = R := ⟨_, rfl⟩;rw [hR] at key ⊢;clear hR;have b0 : (d0 == 1) = false := by rw [zn]; exact f0
 have e0 : (d0 != 1) = true := by rw [bne_iff_ne]; exact f0
 clear f0;clear h0 h1;unfold IntRes;go_enter Tryz.func223, Tryz.ntmps223;go_wp2;go_ret;exact ⟨int_ret key.out, Rel.refl _⟩
set_option maxRecDepth 20000 in
theorem rres18_43 (d0 d1 d2 : Int) (g cap : Nat) (w : World) (hg : g < w.heap.size) (h0 : 1 ≤ d0 ∧ d0 ≤ 4) (h1 : 1 ≤ d1 ∧ d1 ≤ 4) (c0 : w.cell? ⟨g, 0, none⟩ = some (.int .i64 d0)) (c1 : w.cell? ⟨g, 1, none⟩ = some (.int .i64 d1)) (f0 : d0 = 1) (f1 : d1 = 1) :
  Calls Tryz.prog 223 #[.int .i64 18, .slice (some ⟨g, 0, none⟩) 2 cap] w (IntRes (resV 18 d0 d1 d2) w) := by
 have key : Hid (1 = resV 18 d0 d1 d2) := by
  show _ = _
  have e2 : resV 18 d0 d1 d2 = resV 18 d0 d1 1 := rfl;rw [e2];clear c0 c1 hg
  rcases (show d0 = 1 ∨ d0 = 2 ∨ d0 = 3 ∨ d0 = 4 by omega) with rfl | rfl | rfl | rfl <;>
  rcases (show d1 = 1 ∨ d1 = 2 ∨ d1 = 3 ∨ d1 = 4 by omega) with rfl | rfl | rfl | rfl <;>
  first | decide | (exfalso; omega)
 obtain ⟨R, hR⟩ : ∃ R, resV 18 d0 d1 d2 = R := ⟨_, rfl⟩;rw [hR] at key ⊢;clear hR;subst f0;subst f1;clear h0 h1;unfold IntRes;go_enter Tryz.func223, Tryz.ntmps223;go_wp2;go_ret;exact ⟨int_ret key.out, Rel.refl _⟩
set_option maxRecDepth 20000 in
theorem rres18_44 (d0 d1 d2 : Int) (g cap : Nat) (w : World) (hg : g < w.heap.size) (h0 : 1 ≤ d0 ∧ d0 ≤ 4) (h1 : 1 ≤ d1 ∧ d1 ≤ 4) (c0 : w.cell? ⟨g, 0, none⟩ = some (.int .i64 d0)) (c1 : w.cell? ⟨g, 1, none⟩ = some (.int .i64 d1)) (f0 : d0 = 1) (f1 : ¬ d1 = 1) :
  Calls Tryz.prog 223 #[.int .i64 18, .slice (some ⟨g, 0, none⟩) 2 cap] w (IntRes (resV 18 d0 d1 d2) w) := by
 have key : Hid (0 = resV 18 d0 d1 d2) := by
  show _ = _
  have e2 : resV 18 d0 d1 d2 = resV 18 d0 d1 1 := rfl;rw [e2];clear c0 c1 hg
  rcases (show d0 = 1 ∨ d0 = 2 ∨ d0 = 3 ∨ d0 = 4 by omega) with rfl | rfl | rfl | rfl <;>
  rcases (show d1 = 1 ∨ d1 = 2 ∨ d1 = 3 ∨ d1 = 4 by omega) with rfl | rfl | rfl | rfl <;>
  first | decide | (exfalso; omega)
 obtain ⟨R, hR⟩ : ∃ R, resV 18 d0 d1 d2 = R := ⟨_, rfl⟩;rw [hR] at key ⊢;clear hR;subst f0;have b1 : (d1 == 1) = false := by rw [zn]; exact f1
 have e1 : (d1 != 1) = true := by rw [bne_iff_ne]; exact f1
 clear f1;clear h0 h1;unfold IntRes;go_enter Tryz.func223, Tryz.ntmps223;go_wp2;go_ret;exact ⟨int_ret key.out, Rel.refl _⟩
set_option maxRecDepth 20000 in
theorem rres18_45 (d0 d1 d2 : Int) (g cap : Nat) (w : World) (hg : g < w.heap.size) (h0 : 1 ≤ d0 ∧ d0 ≤ 4) (h1 : 1 ≤ d1 ∧ d1 ≤ 4) (c0 : w.cell? ⟨g, 0, none⟩ = some (.int .i64 d0)) (c1 : w.cell? ⟨g, 1, none⟩ = some (.int .i64 d1)) (f0 : ¬ d0 = 1) :
  Calls Tryz.prog 223 #[.int .i64 18, .slice (some ⟨g, 0, none⟩) 2 cap] w (IntRes (resV 18 d0 d1 d2) w) := by
 have key : Hid (0 = resV 18 d0 d1 d2) := by
  show _ = _
  have e2 : resV 18 d0 d1 d2 = resV 18 d0 d1 1 := rfl;rw [e2];clear c0 c1 hg
  rcases (show d0 = 1 ∨ d0 = 2 ∨ d0 = 3 ∨ d0 = 4 by omega) with rfl | rfl | rfl | rfl <;>
  rcases (show d1 = 1 ∨ d1 = 2 ∨ d1 = 3 ∨ d1 = 4 by omega) with rfl | rfl | rfl | rfl <;>
  first | decide | (exfalso; omega)
 obtain ⟨R, hR⟩ : ∃ R, resV 18 d0 d1 d2 = R := ⟨_, rfl⟩;rw [hR] at key ⊢;clear hR;have b0 : (d0 == 1) = false := by rw [zn]; exact f0
 have e0 : (d0 != 1) = true := by rw [bne_iff_ne]; exact f0
 clear f0;clear h0 h1;unfold IntRes;go_enter Tryz.func223, Tryz.ntmps223;go_wp2;go_ret;exact ⟨int_ret key.out, Rel.refl _⟩
set_option maxRecDepth 20000 in
theorem rres19_46 (d0 d1 d2 : Int) (g cap : Nat) (w : World) (hg : g < w.heap.size) (h0 : 1 ≤ d0 ∧ d0 ≤ 4) (h1 : 1 ≤ d1 ∧ d1 ≤ 4) (c0 : w.cell? ⟨g, 0, none⟩ = some (.int .i64 d0)) (c1 : w.cell? ⟨g, 1, none⟩ = some (.int .i64 d1)) (f0 : d0 = d1) (f1 : d0 = 1) :
  Calls Tryz.prog 223 #[.int .i64 19, .slice (some ⟨g, 0, none⟩) 2 cap] w (IntRes (resV 19 d0 d1 d2) w) := by
 have key : Hid (0 = resV 19 d0 d1 d2) := by
  show _ = _
  have e2 : resV 19 d0 d1 d2 = resV 19 d0 d1 1 := rfl;rw [e2];clear c0 c1 hg
  rcases (show d0 = 1 ∨ d0 = 2 ∨ d0 = 3 ∨ d0 = 4 by omega) with rfl | rfl | rfl | rfl <;>
  rcases (show d1 = 1 ∨ d1 = 2 ∨ d1 = 3 ∨ d1 = 4 by omega) with rfl | rfl | rfl | rfl <;>
  first | decide | (exfalso; omega)
 obtain ⟨R, hR⟩ : ∃ R, resV 19 d0 d1 d2 = R := ⟨_, rfl⟩;rw [hR] at key ⊢;clear hR;subst f0;subst f1;clear h0 h1;unfold IntRes;go_enter Tryz.func223, Tryz.ntmps223;go_wp2_with fail;refine wp_region_calm (fun _ w' => w'.cell? { block := g, off := 0 } = some (.int .i64 1) ∧ w'.cell? { block := g, off := 1 } = some (.int .i64 1)) (fun _ => false) [0, 1, 2, 3, 4, 5, 6, 7, 8, 9, 10, 11, 12] 0 (by kernel_rfl) (by kernel_rfl) ?hst ?hS0 (fun w0 h0 => ?_)
 case hst => exact fun _ _ _ h r => ⟨r.cell h.1, r.cell h.2⟩
 case hS0 => exact ⟨by go_simp, by go_simp⟩
 iterate 13
  refine wpCalm_go rfl (by kernel_rfl) (fun K hK => ?_);apply Exists.intro;refine ⟨fun M w hM hS => ?_, hK _ ?_⟩
  ·have hc0 := hS.1;have hc1 := hS.2;unfold calmAt;go_simp;exact ⟨rfl, Rel.refl _⟩
  clear hK K
 refine wpAnyR_end (by kernel_rfl) (fun w3 h3' => ?_);(try simp only [Act.put, zla, zlb, zlc]);have h3 := h0.trans h3';clear h0 h3';have kz3 := h3.size;(try simp only [zsa, zsc, zsd] at kz3);have H3 := Hj h3;clear h3;have k0 := H3.out.cell c0;have k1 := H3.out.cell c1;go_wp2;go_ret;exact ⟨int_ret key.out, H3.out⟩
set_option maxRecDepth 20000 in
theorem rres19_47 (d0 d1 d2 : Int) (g cap : Nat) (w : World) (hg : g < w.heap.size) (h0 : 1 ≤ d0 ∧ d0 ≤ 4) (h1 : 1 ≤ d1 ∧ d1 ≤ 4) (c0 : w.cell? ⟨g, 0, none⟩ = some (.int .i64 d0)) (c1 : w.cell? ⟨g, 1, none⟩ = some (.int .i64 d1)) (f0 : d0 = d1) (f1 : ¬ d0 = 1) :
  Calls Tryz.prog 223 #[.int .i64 19, .slice (some ⟨g, 0, none⟩) 2 cap] w (IntRes (resV 19 d0 d1 d2) w) := by
 have key : Hid (d0 = resV 19 d0 d1 d2) := by
  show _ = _
  have e2 : resV 19 d0 d1 d2 = resV 19 d0 d1 1 := rfl;rw [e2];clear c0 c1 hg
  rcases (show d0 = 1 ∨ d0 = 2 ∨ d0 = 3 ∨ d0 = 4 by omega) with rfl | rfl | rfl | rfl <;>
  rcases (show d1 = 1 ∨ d1 = 2 ∨ d1 = 3 ∨ d1 = 4 by omega) with rfl | rfl | rfl | rfl <;>
  first | decide | (exfalso; omega)
 obtain ⟨R, hR⟩ : ∃ R, resV 19 d0 d1 d2 = R := ⟨_, rfl⟩;rw [hR] at key ⊢;clear hR;subst f0;have b1 : (d0 == 1) = false := by rw [zn]; exact f1
 have e1 : (d0 != 1) = true := by rw [bne_iff_ne]; exact f1
 clear f1;clear h0 h1;unfold IntRes;go_enter Tryz.func223, Tryz.ntmps223;go_wp2_with fail;refine wp_region_calm (fun _ w' => w'.cell? { block := g, off := 0 } = some (.int .i64 d0) ∧ w'.cell? { block := g, off := 1 } = some (.int .i64 d0)) (fun _ => false) [0, 1, 2, 3, 4, 5, 6, 7, 8, 9, 10, 11, 12] 0 (by kernel_rfl) (by kernel_rfl) ?hst ?hS0 (fun w0 h0 => ?_)
 case hst => exact fun _ _ _ h r => ⟨r.cell h.1, r.cell h.2⟩
 case hS0 => exact ⟨by go_simp, by go_simp⟩
 iterate 13
  refine wpCalm_go rfl (by kernel_rfl) (fun K hK => ?_);apply Exists.intro;refine ⟨fun M w hM hS => ?_, hK _ ?_⟩
  ·have hc0 := hS.1;have hc1 := hS.2;unfold calmAt;go_simp;exact ⟨rfl, Rel.refl _⟩
  clear hK K
 refine wpAnyR_end (by kernel_rfl) (fun w3 h3' => ?_);(try simp only [Act.put, zla, zlb, zlc]);have h3 := h0.trans h3';clear h0 h3';have kz3 := h3.size;(try simp only [zsa, zsc, zsd] at kz3);have H3 := Hj h3;clear h3;have k0 := H3.out.cell c0;have k1 := H3.out.cell c1;go_wp2;go_ret;exact ⟨int_ret key.out, H3.out⟩
set_option maxRecDepth 20000 in
theorem rres19_48 (d0 d1 d2 : Int) (g cap : Nat) (w : World) (hg : g < w.heap.size) (h0 : 1 ≤ d0 ∧ d0 ≤ 4) (h1 : 1 ≤ d1 ∧ d1 ≤ 4) (c0 : w.cell? ⟨g, 0, none⟩ = some (.int .i64 d0)) (c1 : w.cell? ⟨g, 1, none⟩ = some (.int .i64 d1)) (f0 : ¬ d0 = d1) :
  Calls Tryz.prog 223 #[.int .i64 19, .slice (some ⟨g, 0, none⟩) 2 cap] w (IntRes (resV 19 d0 d1 d2) w) := by
 have key : Hid (0 = resV 19 d0 d1 d2) := by
  show _ = _
  have e2 : resV 19 d0 d1 d2 = resV 19 d0 d1 1 := rfl;rw [e2];clear c0 c1 hg
  rcases (show d0 = 1 ∨ d0 = 2 ∨ d0 = 3 ∨ d0 = 4 by omega) with rfl | rfl | rfl | rfl <;>
  rcases (show d1 = 1 ∨ d1 = 2 ∨ d1 = 3 ∨ d1 = 4 by omega) with rfl | rfl | rfl | rfl <;>
  first | decide | (exfalso; omega)
 obtain ⟨R, hR⟩ : ∃ R, resV 19 d0 d1 d2 = R := ⟨_, rfl⟩;rw [hR] at key ⊢;clear hR;have b0 : (d0 == d1) = false := by rw [zn]; exact f0
 have e0 : (d0 != d1) = true := by rw [bne_iff_ne]; exact f0
 clear f0;clear h0 h1;unfold IntRes;go_enter Tryz.func223, Tryz.ntmps223;go_wp2_with fail;refine wp_region_calm (fun _ w' => w'.cell? { block := g, off := 0 } = some (.int .i64 d0) ∧ w'.cell? { block := g, off := 1 } = some (.int .i64 d1)) (fun _ => false) [0, 1, 2, 3, 4, 5, 6, 7, 8, 9, 10, 11, 12] 0 (by kernel_rfl) (by kernel_rfl) ?hst ?hS0 (fun w0 h0 => ?_)
 case hst => exact fun _ _ _ h r => ⟨r.cell h.1, r.cell h.2⟩
 case hS0 => exact ⟨by go_simp, by go_simp⟩
 iterate 8
  refine wpCalm_go rfl (by kernel_rfl) (fun K hK => ?_);apply Exists.intro;refine ⟨fun M w hM hS => ?_, hK _ ?_⟩
  ·have hc0 := hS.1;have hc1 := hS.2;unfold calmAt;go_simp;exact ⟨rfl, Rel.refl _⟩
  clear hK K
 iterate 4 (refine wpCalm_no rfl (by kernel_rfl) (fun K hK => hK _ ?_); clear hK K)
 iterate 1
  refine wpCalm_go rfl (by kernel_rfl) (fun K hK => ?_);apply Exists.intro;refine ⟨fun M w hM hS => ?_, hK _ ?_⟩
  ·have hc0 := hS.1;have hc1 := hS.2;unfold calmAt;go_simp;exact ⟨rfl, Rel.refl _⟩
  clear hK K
 refine wpAnyR_end (by kernel_rfl) (fun w3 h3' => ?_);(try simp only [Act.put, zla, zlb, zlc]);have h3 := h0.trans h3';clear h0 h3';have kz3 := h3.size;(try simp only [zsa, zsc, zsd] at kz3);have H3 := Hj h3;clear h3;have k0 := H3.out.cell c0;have k1 := H3.out.cell c1;go_wp2;go_ret;exact ⟨int_ret key.out, H3.out⟩
set_option maxRecDepth 20000 in
theorem rres20_49 (d0 d1 d2 : Int) (g cap : Nat) (w : World) (hg : g < w.heap.size) (h0 : 1 ≤ d0 ∧ d0 ≤ 4) (h1 : 1 ≤ d1 ∧ d1 ≤ 4) (c0 : w.cell? ⟨g, 0, none⟩ = some (.int .i64 d0)) (c1 : w.cell? ⟨g, 1, none⟩ = some (.int .i64 d1)) (f0 : d0 = d1) (f1 : d0 = 1) :
  Calls Tryz.prog 223 #[.int .i64 20, .slice (some ⟨g, 0, none⟩) 2 cap] w (IntRes (resV 20 d0 d1 d2) w) := by
 have key : Hid (0 = resV 20 d0 d1 d2) := by
  show _ = _
  have e2 : resV 20 d0 d1 d2 = resV 20 d0 d1 1 := rfl;rw [e2];clear c0 c1 hg
  rcases (show d0 = 1 ∨ d0 = 2 ∨ d0 = 3 ∨ d0 = 4 by omega) with rfl | rfl | rfl | rfl <;>
  rcases (show d1 = 1 ∨ d1 = 2 ∨ d1 = 3 ∨ d1 = 4 by omega) with rfl | rfl | rfl | rfl <;>
  first | decide | (exfalso; omega)
 obtain ⟨R, hR⟩ : ∃ R, resV 20 d0 d1 d2 = R := ⟨_, rfl⟩;rw [hR] at key ⊢;clear hR;subst f0;subst f1;clear h0 h1;unfold IntRes;go_enter Tryz.func223, Tryz.ntmps223;go_wp2_with fail;refine wp_region_calm (fun _ w' => w'.cell? { block := g, off := 0 } = some (.int .i64 1) ∧ w'.cell? { block := g, off := 1 } = some (.int .i64 1)) (fun _ => false) [0, 1, 2, 3, 4, 5, 6, 7, 8, 9, 10, 11, 12] 0 (by kernel_rfl) (by kernel_rfl) ?hst ?hS0 (fun w0 h0 => ?_)
 case hst => exact fun _ _ _ h r => ⟨r.cell h.1, r.cell h.2⟩
 case hS0 => exact ⟨by go_simp, by go_simp⟩
 iterate 13
  refine wpCalm_go rfl (by kernel_rfl) (fun K hK => ?_);apply Exists.intro;refine ⟨fun M w hM hS => ?_, hK _ ?_⟩
  ·have hc0 := hS.1;have hc1 := hS.2;unfold calmAt;go_simp;exact ⟨rfl, Rel.refl _⟩
  clear hK K
 refine wpAnyR_end (by kernel_rfl) (fun w3 h3' => ?_);(try simp only [Act.put, zla, zlb, zlc]);have h3 := h0.trans h3';clear h0 h3';have kz3 := h3.size;(try simp only [zsa, zsc, zsd] at kz3);have H3 := Hj h3;clear h3;have k0 := H3.out.cell c0;have k1 := H3.out.cell c1;go_wp2;go_ret;exact ⟨int_ret key.out, H3.out⟩
set_option maxRecDepth 20000 in
theorem rres20_50 (d0 d1 d2 : Int) (g cap : Nat) (w : World) (hg : g < w.heap.size) (h0 : 1 ≤ d0 ∧ d0 ≤ 4) (h1 : 1 ≤ d1 ∧ d1 ≤ 4) (c0 : w.cell? ⟨g, 0, none⟩ = some (.int .i64 d0)) (c1 : w.cell? ⟨g, 1, none⟩ = some (.int .i64 d1)) (f0 : d0 = d1) (f1 : ¬ d0 = 1) :
  Calls Tryz.prog 223 #[.int .i64 20, .slice (some ⟨g, 0, none⟩) 2 cap] w (IntRes (resV 20 d0 d1 d2) w) := by
 have key : Hid (d0 = resV 20 d0 d1 d2) := by
  show _ = _
  have e2 : resV 20 d0 d1 d2 = resV 20 d0 d1 1 := rfl;rw [e2];clear c0 c1 hg
  rcases (show d0 = 1 ∨ d0 = 2 ∨ d0 = 3 ∨ d0 = 4 by omega) with rfl | rfl | rfl | rfl <;>
  rcases (show d1 = 1 ∨ d1 = 2 ∨ d1 = 3 ∨ d1 = 4 by omega) with rfl | rfl | rfl | rfl <;>
  first | decide | (exfalso; omega)
 obtain ⟨R, hR⟩ : ∃ R, resV 20 d0 d1 d2 = R := ⟨_, rfl⟩;rw [hR] at key ⊢;clear hR;subst f0;have b1 : (d0 == 1) = false := by rw [zn]; exact f1
 have e1 : (d0 != 1) = true := by rw [bne_iff_ne]; exact f1
 clear f1;clear h0 h1;unfold IntRes;go_enter Tryz.func223, Tryz.ntmps223;go_wp2_with fail;refine wp_region_calm (fun _ w' => w'.cell? { block := g, off := 0 } = some (.int .i64 d0) ∧ w'.cell? { block := g, off := 1 } = some (.int .i64 d0)) (fun _ => false) [0, 1, 2, 3, 4, 5, 6, 7, 8, 9, 10, 11, 12] 0 (by kernel_rfl) (by kernel_rfl) ?hst ?hS0 (fun w0 h0 => ?_)
 case hst => exact fun _ _ _ h r => ⟨r.cell h.1, r.cell h.2⟩
 case hS0 => exact ⟨by go_simp, by go_simp⟩
 iterate 13
  refine wpCalm_go rfl (by kernel_rfl) (fun K hK => ?_);apply Exists.intro;refine ⟨fun M w hM hS => ?_, hK _ ?_⟩
  ·have hc0 := hS.1;have hc1 := hS.2;unfold calmAt;go_simp;exact ⟨rfl, Rel.refl _⟩
  clear hK K
 refine wpAnyR_end (by kernel_rfl) (fun w3 h3' => ?_);(try simp only [Act.put, zla, zlb, zlc]);have h3 := h0.trans h3';clear h0 h3';have kz3 := h3.size;(try simp only [zsa, zsc, zsd] at kz3);have H3 := Hj h3;clear h3;have k0 := H3.out.cell c0;have k1 := H3.out.cell c1;go_wp2;go_ret;exact ⟨int_ret key.out, H3.out⟩
set_option maxRecDepth 20000 in
theorem rres20_51 (d0 d1 d2 : Int) (g cap : Nat) (w : World) (hg : g < w.heap.size) (h0 : 1 ≤ d0 ∧ d0 ≤ 4) (h1 : 1 ≤ d1 ∧ d1 ≤ 4) (c0 : w.cell? ⟨g, 0, none⟩ = some (.int .i64 d0)) (c1 : w.cell? ⟨g, 1, none⟩ = some (.int .i64 d1)) (f0 : ¬ d0 = d1) :
  Calls Tryz.prog 223 #[.int .i64 20, .slice (some ⟨g, 0, none⟩) 2 cap] w (IntRes (resV 20 d0 d1 d2) w) := by
 have key : Hid (0 = resV 20 d0 d1 d2) := by
  show _ = _
  have e2 : resV 20 d0 d1 d2 = resV 20 d0 d1 1 := rfl;rw [e2];clear c0 c1 hg
  rcases (show d0 = 1 ∨ d0 = 2 ∨ d0 = 3 ∨ d0 = 4 by omega) with rfl | rfl | rfl | rfl <;>
  rcases (show d1 = 1 ∨ d1 = 2 ∨ d1 = 3 ∨ d1 = 4 by omega) with rfl | rfl | rfl | rfl <;>
  first | decide | (exfalso; omega)
 obtain ⟨R, hR⟩ : ∃ R, resV 20 d0 d1 d2 = R := ⟨_, rfl⟩;rw [hR] at key ⊢;clear hR;have b0 : (d0 == d1) = false := by rw [zn]; exact f0
 have e0 : (d0 != d1) = true := by rw [bne_iff_ne]; exact f0
 clear f0;clear h0 h1;unfold IntRes;go_enter Tryz.func223, Tryz.ntmps223;go_wp2_with fail;refine wp_region_calm (fun _ w' => w'.cell? { block := g, off := 0 } = some (.int .i64 d0) ∧ w'.cell? { block := g, off := 1 } = some (.int .i64 d1)) (fun _ => false) [0, 1, 2, 3, 4, 5, 6, 7, 8, 9, 10, 11, 12] 0 (by kernel_rfl) (by kernel_rfl) ?hst ?hS0 (fun w0 h0 => ?_)
 case hst => exact fun _ _ _ h r => ⟨r.cell h.1, r.cell h.2⟩
 case hS0 => exact ⟨by go_simp, by go_simp⟩
 iterate 8
  refine wpCalm_go rfl (by kernel_rfl) (fun K hK => ?_);apply Exists.intro;refine ⟨fun M w hM hS => ?_, hK _ ?_⟩
  ·have hc0 := hS.1;have hc1 := hS.2;unfold calmAt;go_simp;exact ⟨rfl, Rel.refl _⟩
  clear hK K
 iterate 4 (refine wpCalm_no rfl (by kernel_rfl) (fun K hK => hK _ ?_); clear hK K)
 iterate 1
  refine wpCalm_go rfl (by kernel_rfl) (fun K hK => ?_);apply Exists.intro;refine ⟨fun M w hM hS => ?_, hK _ ?_⟩
  ·have hc0 := hS.1;have hc1 := hS.2;unfold calmAt;go_simp;exact ⟨rfl, Rel.refl _⟩
  clear hK K
 refine wpAnyR_end (by kernel_rfl) (fun w3 h3' => ?_);(try simp only [Act.put, zla, zlb, zlc]);have h3 := h0.trans h3';clear h0 h3';have kz3 := h3.size;(try simp only [zsa, zsc, zsd] at kz3);have H3 := Hj h3;clear h3;have k0 := H3.out.cell c0;have k1 := H3.out.cell c1;go_wp2;go_ret;exact ⟨int_ret key.out, H3.out⟩
set_option maxRecDepth 20000 in
theorem rres21_52 (d0 d1 d2 : Int) (g cap : Nat) (w : World) (hg : g < w.heap.size) (h0 : 1 ≤ d0 ∧ d0 ≤ 4) (h1 : 1 ≤ d1 ∧ d1 ≤ 4) (h2 : 1 ≤ d2 ∧ d2 ≤ 4) (c0 : w.cell? ⟨g, 0, none⟩ = some (.int .i64 d0)) (c1 : w.cell? ⟨g, 1, none⟩ = some (.int .i64 d1)) (c2 : w.cell? ⟨g, 2, none⟩ = some (.int .i64 d2)) (f0 : d0 = 1) (f1 : d1 = d2) :
  Calls Tryz.prog 223 #[.int .i64 21, .slice (some ⟨g, 0, none⟩) 3 cap] w (IntRes (resV 21 d0 d1 d2) w) := by
 have key : Hid (d1 = resV 21 d0 d1 d2) := by
  show _ = _
  clear c0 c1 c2 hg
  rcases (show d0 = 1 ∨ d0 = 2 ∨ d0 = 3 ∨ d0 = 4 by omega) with rfl | rfl | rfl | rfl <;>
  rcases (show d1 = 1 ∨ d1 = 2 ∨ d1 = 3 ∨ d1 = 4 by omega) with rfl | rfl | rfl | rfl <;>
  rcases (show d2 = 1 ∨ d2 = 2 ∨ d2 = 3 ∨ d2 = 4 by omega) with rfl | rfl | rfl | rfl <;>
  first | decide | (exfalso; omega)
 obtain ⟨R, hR⟩ : ∃ R, resV 21 d0 d1 d2 = R := ⟨_, rfl⟩;rw [hR] at key ⊢;clear hR;subst f0;subst f1;clear h0 h1 h2;unfold IntRes;go_enter Tryz.func223, Tryz.ntmps223;go_wp2_with fail;refine wp_region_calm (fun _ w' => w'.cell? { block := g, off := 0 } = some (.int .i64 1) ∧ w'.cell? { block := g, off := 1 } = some (.int .i64 d1) ∧ w'.cell? { block := g, off := 2 } = some (.int .i64 d1)) (fun _ => false) [0, 1, 2, 3, 4, 5, 6, 7, 8, 9, 10, 11, 12] 0 (by kernel_rfl) (by kernel_rfl) ?hst ?hS0 (fun w0 h0 => ?_)
 case hst => exact fun _ _ _ h r => ⟨r.cell h.1, r.cell h.2.1, r.cell h.2.2⟩
 case hS0 => exact ⟨by go_simp, by go_simp, by go_simp⟩
 iterate 13
  refine wpCalm_go rfl (by kernel_rfl) (fun K hK => ?_);apply Exists.intro;refine ⟨fun M w hM hS => ?_, hK _ ?_⟩
  ·have hc0 := hS.1;have hc1 := hS.2.1;have hc2 := hS.2.2;unfold calmAt;go_simp;exact ⟨rfl, Rel.refl _⟩
  clear hK K
 refine wpAnyR_end (by kernel_rfl) (fun w3 h3' => ?_);(try simp only [Act.put, zla, zlb, zlc]);have h3 := h0.trans h3';clear h0 h3';have kz3 := h3.size;(try simp only [zsa, zsc, zsd] at kz3);have H3 := Hj h3;clear h3;have k0 := H3.out.cell c0;have k1 := H3.out.cell c1;have k2 := H3.out.cell c2;go_wp2;go_ret;exact ⟨int_ret key.out, H3.out⟩
set_option maxRecDepth 20000 in
theorem rres21_53 (d0 d1 d2 : Int) (g cap : Nat) (w : World) (hg : g < w.heap.size) (h0 : 1 ≤ d0 ∧ d0 ≤ 4) (h1 : 1 ≤ d1 ∧ d1 ≤ 4) (h2 : 1 ≤ d2 ∧ d2 ≤ 4) (c0 : w.cell? ⟨g, 0, none⟩ = some (.int .i64 d0)) (c1 : w.cell? ⟨g, 1, none⟩ = some (.int .i64 d1)) (c2 : w.cell? ⟨g, 2, none⟩ = some (.int .i64 d2)) (f0 : d0 = 1) (f1 : ¬ d1 = d2) :
  Calls Tryz.prog 223 #[.int .i64 21, .slice (some ⟨g, 0, none⟩) 3 cap] w (IntRes (resV 21 d0 d1 d2) w) := by
 have key : Hid (0 = resV 21 d0 d1 d2) := by
  show _ = _
  clear c0 c1 c2 hg
  rcases (show d0 = 1 ∨ d0 = 2 ∨ d0 = 3 ∨ d0 = 4 by omega) with rfl | rfl | rfl | rfl <;>
  rcases (show d1 = 1 ∨ d1 = 2 ∨ d1 = 3 ∨ d1 = 4 by omega) with rfl | rfl | rfl | rfl <;>
  rcases (show d2 = 1 ∨ d2 = 2 ∨ d2 = 3 ∨ d2 = 4 by omega) with rfl | rfl | rfl | rfl <;>
  first | decide | (exfalso; omega)
 obtain ⟨R, hR⟩ : ∃ R, resV 21 d0 d1 d2 = R := ⟨_, rfl⟩;rw [hR] at key ⊢;clear hR;subst f0;have b1 : (d1 == d2) = false := by rw [zn]; exact f1
 have e1 : (d1 != d2) = true := by rw [bne_iff_ne]; exact f1
 clear f1;clear h0 h1 h2;unfold IntRes;go_enter Tryz.func223, Tryz.ntmps223;go_wp2_with fail;refine wp_region_calm (fun _ w' => w'.cell? { block := g, off := 0 } = some (.int .i64 1) ∧ w'.cell? { block := g, off := 1 } = some (.int .i64 d1) ∧ w'.cell? { block := g, off := 2 } = some (.int .i64 d2)) (fun _ => false) [0, 1, 2, 3, 4, 5, 6, 7, 8, 9, 10, 11, 12] 0 (by kernel_rfl) (by kernel_rfl) ?hst ?hS0 (fun w0 h0 => ?_)
 case hst => exact fun _ _ _ h r => ⟨r.cell h.1, r.cell h.2.1, r.cell h.2.2⟩
 case hS0 => exact ⟨by go_simp, by go_simp, by go_simp⟩
 iterate 13
  refine wpCalm_go rfl (by kernel_rfl) (fun K hK => ?_);apply Exists.intro;refine ⟨fun M w hM hS => ?_, hK _ ?_⟩
  ·have hc0 := hS.1;have hc1 := hS.2.1;have hc2 := hS.2.2;unfold calmAt;go_simp;exact ⟨rfl, Rel.refl _⟩
  clear hK K
 refine wpAnyR_end (by kernel_rfl) (fun w3 h3' => ?_);(try simp only [Act.put, zla, zlb, zlc]);have h3 := h0.trans h3';clear h0 h3';have kz3 := h3.size;(try simp only [zsa, zsc, zsd] at kz3);have H3 := Hj h3;clear h3;have k0 := H3.out.cell c0;have k1 := H3.out.cell c1;have k2 := H3.out.cell c2;go_wp2;go_ret;exact ⟨int_ret key.out, H3.out⟩
set_option maxRecDepth 20000 in
theorem rres21_54 (d0 d1 d2 : Int) (g cap : Nat) (w : World) (hg : g < w.heap.size) (h0 : 1 ≤ d0 ∧ d0 ≤ 4) (h1 : 1 ≤ d1 ∧ d1 ≤ 4) (h2 : 1 ≤ d2 ∧ d2 ≤ 4) (c0 : w.cell? ⟨g, 0, none⟩ = some (.int .i64 d0)) (c1 : w.cell? ⟨g, 1, none⟩ = some (.int .i64 d1)) (c2 : w.cell? ⟨g, 2, none⟩ = some (.int .i64 d2)) (f0 : ¬ d0 = 1) :
  Calls Tryz.prog 223 #[.int .i64 21, .slice (some ⟨g, 0, none⟩) 3 cap] w (IntRes (resV 21 d0 d1 d2) w) := by
 have key : Hid (0 = resV 21 d0 d1 d2) := by
  show _ = _
  clear c0 c1 c2 hg
  rcases (show d0 = 1 ∨ d0 = 2 ∨ d0 = 3 ∨ d0 = 4 by omega) with rfl | rfl | rfl | rfl <;>
  rcases (show d1 = 1 ∨ d1 = 2 ∨ d1 = 3 ∨ d1 = 4 by omega) with rfl | rfl | rfl | rfl <;>
  rcases (show d2 = 1 ∨ d2 = 2 ∨ d2 = 3 ∨ d2 = 4 by omega) with rfl | rfl | rfl | rfl <;>
  first | decide | (exfalso; omega)
 obtain ⟨R, hR⟩ : ∃ R, resV 21 d0 d1 d2 = R := ⟨_, rfl⟩;rw [hR] at key ⊢;clear hR;have b0 : (d0 == 1) = false := by rw [zn]; exact f0
 have e0 : (d0 != 1) = true := by rw [bne_iff_ne]; exact f0
 clear f0;clear h0 h1 h2;unfold IntRes;go_enter Tryz.func223, Tryz.ntmps223;go_wp2_with fail;refine wp_region_calm (fun _ w' => w'.cell? { block := g, off := 0 } = some (.int .i64 d0) ∧ w'.cell? { block := g, off := 1 } = some (.int .i64 d1) ∧ w'.cell? { block := g, off := 2 } = some (.int .i64 d2)) (fun _ => false) [0, 1, 2, 3, 4, 5, 6, 7, 8, 9, 10, 11, 12] 0 (by kernel_rfl) (by kernel_rfl) ?hst ?hS0 (fun w0 h0 => ?_)
 case hst => exact fun _ _ _ h r => ⟨r.cell h.1, r.cell h.2.1, r.cell h.2.2⟩
 case hS0 => exact ⟨by go_simp, by go_simp, by go_simp⟩
 iterate 5
  refine wpCalm_go rfl (by kernel_rfl) (fun K hK => ?_);apply Exists.intro;refine ⟨fun M w hM hS => ?_, hK _ ?_⟩
  ·have hc0 := hS.1;have hc1 := hS.2.1;have hc2 := hS.2.2;unfold calmAt;go_simp;exact ⟨rfl, Rel.refl _⟩
  clear hK K
 iterate 7 (refine wpCalm_no rfl (by kernel_rfl) (fun K hK => hK _ ?_); clear hK K)
 iterate 1
  refine wpCalm_go rfl (by kernel_rfl) (fun K hK => ?_);apply Exists.intro;refine ⟨fun M w hM hS => ?_, hK _ ?_⟩
  ·have hc0 := hS.1;have hc1 := hS.2.1;have hc2 := hS.2.2;unfold calmAt;go_simp;exact ⟨rfl, Rel.refl _⟩
  clear hK K
 refine wpAnyR_end (by kernel_rfl) (fun w3 h3' => ?_);(try simp only [Act.put, zla, zlb, zlc]);have h3 := h0.trans h3';clear h0 h3';have kz3 := h3.size;(try simp only [zsa, zsc, zsd] at kz3);have H3 := Hj h3;clear h3;have k0 := H3.out.cell c0;have k1 := H3.out.cell c1;have k2 := H3.out.cell c2;go_wp2;go_ret;exact ⟨int_ret key.out, H3.out⟩
theorem rresult_any (op : Int) (n g cap : Nat) (D : Nat → Int) (w : World) (ho : 4 ≤ op ∧ op ≤ 21) (hn : (n : Int) = arI op) (hg : g < w.heap.size) (hD : ∀ i, i < n → 1 ≤ D i ∧ D i ≤ 4) (hc : ∀ i, i < n → w.cell? ⟨g, i, none⟩ = some (.int .i64 (D i))) :
  Calls Tryz.prog 223 #[.int .i64 op, .slice (some ⟨g, 0, none⟩) n cap] w (IntRes (resI op D) w) := by
 rw [resI_eq]
 rcases (show op = 4 ∨ op = 5 ∨ op = 6 ∨ op = 7 ∨ op = 8 ∨ op = 9 ∨ op = 10 ∨ op = 11 ∨ op = 12 ∨ op = 13 ∨ op = 14 ∨ op = 15 ∨ op = 16 ∨ op = 17 ∨ op = 18 ∨ op = 19 ∨ op = 20 ∨ op = 21 by omega) with rfl | rfl | rfl | rfl | rfl | rfl | rfl | rfl | rfl | rfl | rfl | rfl | rfl | rfl | rfl | rfl | rfl | rfl
 ·obtain rfl : n = 1 := by
   have : arI 4 = 1 := rfl;omega
  by_cases f0 : D 0 = 1
  ·exact rres4_0 (D 0) (D 1) (D 2) g cap w hg (hD 0 (by decide)) (hc 0 (by decide)) f0
  ·exact rres4_1 (D 0) (D 1) (D 2) g cap w hg (hD 0 (by decide)) (hc 0 (by decide)) f0
 ·obtain rfl : n = 1 := by
   have : arI 5 = 1 := rfl;omega
  by_cases f0 : D 0 = 1
  ·exact rres5_2 (D 0) (D 1) (D 2) g cap w hg (hD 0 (by decide)) (hc 0 (by decide)) f0
  ·exact rres5_3 (D 0) (D 1) (D 2) g cap w hg (hD 0 (by decide)) (hc 0 (by decide)) f0
 ·obtain rfl : n = 1 := by
   have : arI 6 = 1 := rfl;omega
  by_cases f0 : D 0 = 1
  ·exact rres6_4 (D 0) (D 1) (D 2) g cap w hg (hD 0 (by decide)) (hc 0 (by decide)) f0
  ·exact rres6_5 (D 0) (D 1) (D 2) g cap w hg (hD 0 (by decide)) (hc 0 (by decide)) f0
 ·obtain rfl : n = 2 := by
   have : arI 7 = 2 := rfl;omega
  by_cases f0 : D 0 = D 1
  ·by_cases f1 : D 0 = 1
   ·exact rres7_6 (D 0) (D 1) (D 2) g cap w hg (hD 0 (by decide)) (hD 1 (by decide)) (hc 0 (by decide)) (hc 1 (by decide)) f0 f1
   ·exact rres7_7 (D 0) (D 1) (D 2) g cap w hg (hD 0 (by decide)) (hD 1 (by decide)) (hc 0 (by decide)) (hc 1 (by decide)) f0 f1
  ·exact rres7_8 (D 0) (D 1) (D 2) g cap w hg (hD 0 (by decide)) (hD 1 (by decide)) (hc 0 (by decide)) (hc 1 (by decide)) f0
 ·obtain rfl : n = 2 := by
   have : arI 8 = 2 := rfl;omega
  by_cases f0 : D 0 = D 1
  ·by_cases f1 : D 0 = 1
   ·exact rres8_9 (D 0) (D 1) (D 2) g cap w hg (hD 0 (by decide)) (hD 1 (by decide)) (hc 0 (by decide)) (hc 1 (by decide)) f0 f1
   ·exact rres8_10 (D 0) (D 1) (D 2) g cap w hg (hD 0 (by decide)) (hD 1 (by decide)) (hc 0 (by decide)) (hc 1 (by decide)) f0 f1
  ·exact rres8_11 (D 0) (D 1) (D 2) g cap w hg (hD 0 (by decide)) (hD 1 (by decide)) (hc 0 (by decide)) (hc 1 (by decide)) f0
 ·obtain rfl : n = 2 := by
   have : arI 9 = 2 := rfl;omega
  by_cases f0 : D 0 = 2
  ·by_cases f1 : D 1 = 1
   ·exact rres9_12 (D 0) (D 1) (D 2) g cap w hg (hD 0 (by decide)) (hD 1 (by decide)) (hc 0 (by decide)) (hc 1 (by decide)) f0 f1
   ·exact rres9_13 (D 0) (D 1) (D 2) g cap w hg (hD 0 (by decide)) (hD 1 (by decide)) (hc 0 (by decide)) (hc 1 (by decide)) f0 f1
  ·by_cases f1 : D 1 = 2
   ·by_cases f2 : D 0 = 1
    ·exact rres9_14 (D 0) (D 1) (D 2) g cap w hg (hD 0 (by decide)) (hD 1 (by decide)) (hc 0 (by decide)) (hc 1 (by decide)) f0 f1 f2
    ·exact rres9_15 (D 0) (D 1) (D 2) g cap w hg (hD 0 (by decide)) (hD 1 (by decide)) (hc 0 (by decide)) (hc 1 (by decide)) f0 f1 f2
   ·exact rres9_16 (D 0) (D 1) (D 2) g cap w hg (hD 0 (by decide)) (hD 1 (by decide)) (hc 0 (by decide)) (hc 1 (by decide)) f0 f1
 ·obtain rfl : n = 2 := by
   have : arI 10 = 2 := rfl;omega
  by_cases f0 : D 1 = 2
  ·by_cases f1 : D 0 = 1
   ·exact rres10_17 (D 0) (D 1) (D 2) g cap w hg (hD 0 (by decide)) (hD 1 (by decide)) (hc 0 (by decide)) (hc 1 (by decide)) f0 f1
   ·exact rres10_18 (D 0) (D 1) (D 2) g cap w hg (hD 0 (by decide)) (hD 1 (by decide)) (hc 0 (by decide)) (hc 1 (by decide)) f0 f1
  ·by_cases f1 : D 0 = D 1
   ·by_cases f2 : D 0 = 1
    ·exact rres10_19 (D 0) (D 1) (D 2) g cap w hg (hD 0 (by decide)) (hD 1 (by decide)) (hc 0 (by decide)) (hc 1 (by decide)) f0 f1 f2
    ·exact rres10_20 (D 0) (D 1) (D 2) g cap w hg (hD 0 (by decide)) (hD 1 (by decide)) (hc 0 (by decide)) (hc 1 (by decide)) f0 f1 f2
   ·exact rres10_21 (D 0) (D 1) (D 2) g cap w hg (hD 0 (by decide)) (hD 1 (by decide)) (hc 0 (by decide)) (hc 1 (by decide)) f0 f1
 ·obtain rfl : n = 2 := by
   have : arI 11 = 2 := rfl;omega
  by_cases f0 : D 0 = D 1
  ·by_cases f1 : D 0 = 1
   ·exact rres11_22 (D 0) (D 1) (D 2) g cap w hg (hD 0 (by decide)) (hD 1 (by decide)) (hc 0 (by decide)) (hc 1 (by decide)) f0 f1
   ·exact rres11_23 (D 0) (D 1) (D 2) g cap w hg (hD 0 (by decide)) (hD 1 (by decide)) (hc 0 (by decide)) (hc 1 (by decide)) f0 f1
  ·exact rres11_24 (D 0) (D 1) (D 2) g cap w hg (hD 0 (by decide)) (hD 1 (by decide)) (hc 0 (by decide)) (hc 1 (by decide)) f0
 ·obtain rfl : n = 2 := by
   have : arI 12 = 2 := rfl;omega
  by_cases f0 : D 0 = D 1
  ·by_cases f1 : D 0 = 1
   ·exact rres12_25 (D 0) (D 1) (D 2) g cap w hg (hD 0 (by decide)) (hD 1 (by decide)) (hc 0 (by decide)) (hc 1 (by decide)) f0 f1
   ·exact rres12_26 (D 0) (D 1) (D 2) g cap w hg (hD 0 (by decide)) (hD 1 (by decide)) (hc 0 (by decide)) (hc 1 (by decide)) f0 f1
  ·exact rres12_27 (D 0) (D 1) (D 2) g cap w hg (hD 0 (by decide)) (hD 1 (by decide)) (hc 0 (by decide)) (hc 1 (by decide)) f0
 ·obtain rfl : n = 2 := by
   have : arI 13 = 2 := rfl;omega
  by_cases f0 : D 0 = D 1
  ·by_cases f1 : D 0 = 1
   ·exact rres13_28 (D 0) (D 1) (D 2) g cap w hg (hD 0 (by decide)) (hD 1 (by decide)) (hc 0 (by decide)) (hc 1 (by decide)) f0 f1
   ·exact rres13_29 (D 0) (D 1) (D 2) g cap w hg (hD 0 (by decide)) (hD 1 (by decide)) (hc 0 (by decide)) (hc 1 (by decide)) f0 f1
  ·exact rres13_30 (D 0) (D 1) (D 2) g cap w hg (hD 0 (by decide)) (hD 1 (by decide)) (hc 0 (by decide)) (hc 1 (by decide)) f0
 ·obtain rfl : n = 2 := by
   have : arI 14 = 2 := rfl;omega
  by_cases f0 : D 0 = D 1
  ·by_cases f1 : D 0 = 1
   ·exact rres14_31 (D 0) (D 1) (D 2) g cap w hg (hD 0 (by decide)) (hD 1 (by decide)) (hc 0 (by decide)) (hc 1 (by decide)) f0 f1
   ·exact rres14_32 (D 0) (D 1) (D 2) g cap w hg (hD 0 (by decide)) (hD 1 (by decide)) (hc 0 (by decide)) (hc 1 (by decide)) f0 f1
  ·exact rres14_33 (D 0) (D 1) (D 2) g cap w hg (hD 0 (by decide)) (hD 1 (by decide)) (hc 0 (by decide)) (hc 1 (by decide)) f0
 ·obtain rfl : n = 2 := by
   have : arI 15 = 2 := rfl;omega
  by_cases f0 : D 0 = D 1
  ·by_cases f1 : D 0 = 1
   ·exact rres15_34 (D 0) (D 1) (D 2) g cap w hg (hD 0 (by decide)) (hD 1 (by decide)) (hc 0 (by decide)) (hc 1 (by decide)) f0 f1
   ·exact rres15_35 (D 0) (D 1) (D 2) g cap w hg (hD 0 (by decide)) (hD 1 (by decide)) (hc 0 (by decide)) (hc 1 (by decide)) f0 f1
  ·exact rres15_36 (D 0) (D 1) (D 2) g cap w hg (hD 0 (by decide)) (hD 1 (by decide)) (hc 0 (by decide)) (hc 1 (by decide)) f0
 ·obtain rfl : n = 2 := by
   have : arI 16 = 2 := rfl;omega
  by_cases f0 : D 0 = D 1
  ·by_cases f1 : D 0 = 1
   ·exact rres16_37 (D 0) (D 1) (D 2) g cap w hg (hD 0 (by decide)) (hD 1 (by decide)) (hc 0 (by decide)) (hc 1 (by decide)) f0 f1
   ·exact rres16_38 (D 0) (D 1) (D 2) g cap w hg (hD 0 (by decide)) (hD 1 (by decide)) (hc 0 (by decide)) (hc 1 (by decide)) f0 f1
  ·exact rres16_39 (D 0) (D 1) (D 2) g cap w hg (hD 0 (by decide)) (hD 1 (by decide)) (hc 0 (by decide)) (hc 1 (by decide)) f0
 ·obtain rfl : n = 2 := by
   have : arI 17 = 2 := rfl;omega
  by_cases f0 : D 0 = 1
  ·by_cases f1 : D 1 = 1
   ·exact rres17_40 (D 0) (D 1) (D 2) g cap w hg (hD 0 (by decide)) (hD 1 (by decide)) (hc 0 (by decide)) (hc 1 (by decide)) f0 f1
   ·exact rres17_41 (D 0) (D 1) (D 2) g cap w hg (hD 0 (by decide)) (hD 1 (by decide)) (hc 0 (by decide)) (hc 1 (by decide)) f0 f1
  ·exact rres17_42 (D 0) (D 1) (D 2) g cap w hg (hD 0 (by decide)) (hD 1 (by decide)) (hc 0 (by decide)) (hc 1 (by decide)) f0
 ·obtain rfl : n = 2 := by
   have : arI 18 = 2 := rfl;omega
  by_cases f0 : D 0 = 1
  ·by_cases f1 : D 1 = 1
   ·exact rres18_43 (D 0) (D 1) (D 2) g cap w hg (hD 0 (by decide)) (hD 1 (by decide)) (hc 0 (by decide)) (hc 1 (by decide)) f0 f1
   ·exact rres18_44 (D 0) (D 1) (D 2) g cap w hg (hD 0 (by decide)) (hD 1 (by decide)) (hc 0 (by decide)) (hc 1 (by decide)) f0 f1
  ·exact rres18_45 (D 0) (D 1) (D 2) g cap w hg (hD 0 (by decide)) (hD 1 (by decide)) (hc 0 (by decide)) (hc 1 (by decide)) f0
 ·obtain rfl : n = 2 := by
   have : arI 19 = 2 := rfl;omega
  by_cases f0 : D 0 = D 1
  ·by_cases f1 : D 0 = 1
   ·exact rres19_46 (D 0) (D 1) (D 2) g cap w hg (hD 0 (by decide)) (hD 1 (by decide)) (hc 0 (by decide)) (hc 1 (by decide)) f0 f1
   ·exact rres19_47 (D 0) (D 1) (D 2) g cap w hg (hD 0 (by decide)) (hD 1 (by decide)) (hc 0 (by decide)) (hc 1 (by decide)) f0 f1
  ·exact rres19_48 (D 0) (D 1) (D 2) g cap w hg (hD 0 (by decide)) (hD 1 (by decide)) (hc 0 (by decide)) (hc 1 (by decide)) f0
 ·obtain rfl : n = 2 := by
   have : arI 20 = 2 := rfl;omega
  by_cases f0 : D 0 = D 1
  ·by_cases f1 : D 0 = 1
   ·exact rres20_49 (D 0) (D 1) (D 2) g cap w hg (hD 0 (by decide)) (hD 1 (by decide)) (hc 0 (by decide)) (hc 1 (by decide)) f0 f1
   ·exact rres20_50 (D 0) (D 1) (D 2) g cap w hg (hD 0 (by decide)) (hD 1 (by decide)) (hc 0 (by decide)) (hc 1 (by decide)) f0 f1
  ·exact rres20_51 (D 0) (D 1) (D 2) g cap w hg (hD 0 (by decide)) (hD 1 (by decide)) (hc 0 (by decide)) (hc 1 (by decide)) f0
 ·obtain rfl : n = 3 := by
   have : arI 21 = 3 := rfl;omega
  by_cases f0 : D 0 = 1
  ·by_cases f1 : D 1 = D 2
   ·exact rres21_52 (D 0) (D 1) (D 2) g cap w hg (hD 0 (by decide)) (hD 1 (by decide)) (hD 2 (by decide)) (hc 0 (by decide)) (hc 1 (by decide)) (hc 2 (by decide)) f0 f1
   ·exact rres21_53 (D 0) (D 1) (D 2) g cap w hg (hD 0 (by decide)) (hD 1 (by decide)) (hD 2 (by decide)) (hc 0 (by decide)) (hc 1 (by decide)) (hc 2 (by decide)) f0 f1
  ·exact rres21_54 (D 0) (D 1) (D 2) g cap w hg (hD 0 (by decide)) (hD 1 (by decide)) (hD 2 (by decide)) (hc 0 (by decide)) (hc 1 (by decide)) (hc 2 (by decide)) f0
end Go.Proofs.YtlmclkaighlfaaaGreatDoor

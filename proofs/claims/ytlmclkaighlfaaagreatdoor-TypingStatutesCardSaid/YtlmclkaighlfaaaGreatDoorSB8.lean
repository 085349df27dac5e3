/- Bundle of texts: each says at its head what it proves; no conditions but those printed. -/
import Derived.Test.YtlmclkaighlfaaaGreatDoorSB6
import Derived.Test.YtlmclkaighlfaaaGreatDoorSB7
import Derived.Test.YtlmclkaighlfaaaGreatDoorSB4
namespace Go.Proofs.YtlmclkaighlfaaaGreatDoor
set_option maxHeartbeats 16000000
open Go.RowKit Cal Str Tok Frac Txt Tree
attribute [local go_sem] calmUpon
set_option linter.unusedVariables false
set_option linter.unusedSimpArgs false
def resV (op d0 d1 d2 : Int) : Int := resI op (fun i => if i = 0 then d0 else if i = 1 then d1 else d2)
theorem resI_eq (op : Int) (D : Nat → Int) : resI op D = resV op (D 0) (D 1) (D 2) := by
 unfold resV resI; simp
def RsRes (R : Int) (w : World) (e : Ending) (w' : World) : Prop := ∃ (x : Int) (B : Bool), e = .returned (.tuple #[.int .i64 x, .bool B]) ∧ B = (!(R == 0)) ∧ (B = true → x = R) ∧ Rel w w'
set_option maxRecDepth 20000 in
theorem res4_0 (d0 d1 d2 : Int) (g cap : Nat) (w : World) (hg : g < w.heap.size) (h0 : 1 ≤ d0 ∧ d0 ≤ 4) (c0 : w.cell? ⟨g, 0, none⟩ = some (.int .i64 d0))  :
  Calls Tryz.prog 156 #[.int .i64 4, .slice (some ⟨g, 0, none⟩) 1 cap] w (RsRes (resV 4 d0 d1 d2) w) := by
 have key : Hid (((d0 != 1)) = (!(resV 4 d0 d1 d2 == 0)) ∧ (((d0 != 1)) = true → d0 = resV 4 d0 d1 d2)) := by
  show _ ∧ _
  have e2 : resV 4 d0 d1 d2 = resV 4 d0 1 1 := rfl;rw [e2];clear c0 hg
  rcases (show d0 = 1 ∨ d0 = 2 ∨ d0 = 3 ∨ d0 = 4 by omega) with rfl | rfl | rfl | rfl <;>
  first | decide | (exfalso; omega)
 obtain ⟨R, hR⟩ : ∃ R, resV 4 d0 d1 d2 = R := ⟨_, rfl⟩;rw [hR] at key ⊢;clear hR h0;unfold RsRes;go_enter Tryz.func156, Tryz.ntmps156;go_wp2_with fail;refine wp_region_calm (fun _ w' => w'.cell? { block := g, off := 0 } = some (.int .i64 d0)) (fun _ => false) [0, 1, 2, 3, 4, 5, 6, 7, 8] 0 (by kernel_rfl) (by kernel_rfl) ?hst ?hS0 (fun w0 h0 => ?_)
 case hst => exact fun _ _ _ h r => r.cell h
 case hS0 => exact by go_simp
 iterate 9
  refine wpCalm_go rfl (by kernel_rfl) (fun K hK => ?_);apply Exists.intro;refine ⟨fun M w hM hS => ?_, hK _ ?_⟩
  ·have hc0 := hS;unfold calmAt;go_simp;exact ⟨rfl, Rel.refl _⟩
  clear hK K
 refine wpAnyR_end (by kernel_rfl) (fun w3 h3' => ?_);(try simp only [Act.put, zla, zlb, zlc]);have h3 := h0.trans h3';clear h0 h3';have kz3 := h3.size;(try simp only [zsa, zsc, zsd] at kz3);have H3 := Hj h3;clear h3;go_wp2
 go_ret2
 exact ⟨_, _, rfl, key.out.1, key.out.2, H3.out⟩
set_option maxRecDepth 20000 in
theorem res6_1 (d0 d1 d2 : Int) (g cap : Nat) (w : World) (hg : g < w.heap.size) (h0 : 1 ≤ d0 ∧ d0 ≤ 4) (c0 : w.cell? ⟨g, 0, none⟩ = some (.int .i64 d0))  :
  Calls Tryz.prog 156 #[.int .i64 6, .slice (some ⟨g, 0, none⟩) 1 cap] w (RsRes (resV 6 d0 d1 d2) w) := by
 have key : Hid (((d0 != 1)) = (!(resV 6 d0 d1 d2 == 0)) ∧ (((d0 != 1)) = true → d0 = resV 6 d0 d1 d2)) := by
  show _ ∧ _
  have e2 : resV 6 d0 d1 d2 = resV 6 d0 1 1 := rfl;rw [e2];clear c0 hg
  rcases (show d0 = 1 ∨ d0 = 2 ∨ d0 = 3 ∨ d0 = 4 by omega) with rfl | rfl | rfl | rfl <;>
  first | decide | (exfalso; omega)
 obtain ⟨R, hR⟩ : ∃ R, resV 6 d0 d1 d2 = R := ⟨_, rfl⟩;rw [hR] at key ⊢;clear hR h0;unfold RsRes;go_enter Tryz.func156, Tryz.ntmps156;go_wp2_with fail;refine wp_region_calm (fun _ w' => w'.cell? { block := g, off := 0 } = some (.int .i64 d0)) (fun _ => false) [0, 1, 2, 3, 4, 5, 6, 7, 8] 0 (by kernel_rfl) (by kernel_rfl) ?hst ?hS0 (fun w0 h0 => ?_)
 case hst => exact fun _ _ _ h r => r.cell h
 case hS0 => exact by go_simp
 iterate 9
  refine wpCalm_go rfl (by kernel_rfl) (fun K hK => ?_);apply Exists.intro;refine ⟨fun M w hM hS => ?_, hK _ ?_⟩
  ·have hc0 := hS;unfold calmAt;go_simp;exact ⟨rfl, Rel.refl _⟩
  clear hK K
 refine wpAnyR_end (by kernel_rfl) (fun w3 h3' => ?_);(try simp only [Act.put, zla, zlb, zlc]);have h3 := h0.trans h3';clear h0 h3';have kz3 := h3.size;(try simp only [zsa, zsc, zsd] at kz3);have H3 := Hj h3;clear h3;go_wp2
 go_ret2
 exact ⟨_, _, rfl, key.out.1, key.out.2, H3.out⟩
set_option maxRecDepth 20000 in
theorem res5_2 (d0 d1 d2 : Int) (g cap : Nat) (w : World) (hg : g < w.heap.size) (h0 : 1 ≤ d0 ∧ d0 ≤ 4) (c0 : w.cell? ⟨g, 0, none⟩ = some (.int .i64 d0))  :
  Calls Tryz.prog 156 #[.int .i64 5, .slice (some ⟨g, 0, none⟩) 1 cap] w (RsRes (resV 5 d0 d1 d2) w) := by
 have key : Hid (((d0 == 1)) = (!(resV 5 d0 d1 d2 == 0)) ∧ (((d0 == 1)) = true → 1 = resV 5 d0 d1 d2)) := by
  show _ ∧ _
  have e2 : resV 5 d0 d1 d2 = resV 5 d0 1 1 := rfl;rw [e2];clear c0 hg
  rcases (show d0 = 1 ∨ d0 = 2 ∨ d0 = 3 ∨ d0 = 4 by omega) with rfl | rfl | rfl | rfl <;>
  first | decide | (exfalso; omega)
 obtain ⟨R, hR⟩ : ∃ R, resV 5 d0 d1 d2 = R := ⟨_, rfl⟩;rw [hR] at key ⊢;clear hR h0;unfold RsRes;go_enter Tryz.func156, Tryz.ntmps156;go_wp2_with fail;refine wp_region_calm (fun _ w' => w'.cell? { block := g, off := 0 } = some (.int .i64 d0)) (fun _ => false) [0, 1, 2, 3, 4, 5] 0 (by kernel_rfl) (by kernel_rfl) ?hst ?hS0 (fun w0 h0 => ?_)
 case hst => exact fun _ _ _ h r => r.cell h
 case hS0 => exact by go_simp
 iterate 6
  refine wpCalm_go rfl (by kernel_rfl) (fun K hK => ?_);apply Exists.intro;refine ⟨fun M w hM hS => ?_, hK _ ?_⟩
  ·have hc0 := hS;unfold calmAt;go_simp;exact ⟨rfl, Rel.refl _⟩
  clear hK K
 refine wpAnyR_end (by kernel_rfl) (fun w3 h3' => ?_);(try simp only [Act.put, zla, zlb, zlc]);have h3 := h0.trans h3';clear h0 h3';have kz3 := h3.size;(try simp only [zsa, zsc, zsd] at kz3);have H3 := Hj h3;clear h3;go_wp2
 go_ret2
 exact ⟨_, _, rfl, key.out.1, key.out.2, H3.out⟩
set_option maxRecDepth 20000 in
theorem res7_3 (d0 d1 d2 : Int) (g cap : Nat) (w : World) (hg : g < w.heap.size) (h0 : 1 ≤ d0 ∧ d0 ≤ 4) (h1 : 1 ≤ d1 ∧ d1 ≤ 4) (c0 : w.cell? ⟨g, 0, none⟩ = some (.int .i64 d0)) (c1 : w.cell? ⟨g, 1, none⟩ = some (.int .i64 d1)) (f0 : d0 = d1) :
  Calls Tryz.prog 156 #[.int .i64 7, .slice (some ⟨g, 0, none⟩) 2 cap] w (RsRes (resV 7 d0 d1 d2) w) := by
 subst f0
 have key : Hid (((d0 != 1)) = (!(resV 7 d0 d0 d2 == 0)) ∧ (((d0 != 1)) = true → d0 = resV 7 d0 d0 d2)) := by
  show _ ∧ _
  have e2 : resV 7 d0 d0 d2 = resV 7 d0 d0 1 := rfl;rw [e2];clear c0 c1 hg
  rcases (show d0 = 1 ∨ d0 = 2 ∨ d0 = 3 ∨ d0 = 4 by omega) with rfl | rfl | rfl | rfl <;>
  first | decide | (exfalso; omega)
 obtain ⟨R, hR⟩ : ∃ R, resV 7 d0 d0 d2 = R := ⟨_, rfl⟩;rw [hR] at key ⊢;clear hR h0 h1;unfold RsRes;go_enter Tryz.func156, Tryz.ntmps156;go_wp2_with fail;refine wp_region_calm (fun _ w' => w'.cell? { block := g, off := 0 } = some (.int .i64 d0) ∧ w'.cell? { block := g, off := 1 } = some (.int .i64 d0)) (fun _ => false) [0, 1, 2, 3, 4, 5, 6, 7, 8, 9, 10, 11, 12, 13, 14, 15, 16, 17] 0 (by kernel_rfl) (by kernel_rfl) ?hst ?hS0 (fun w0 h0 => ?_)
 case hst => exact fun _ _ _ h r => ⟨r.cell h.1, r.cell h.2⟩
 case hS0 => exact ⟨by go_simp, by go_simp⟩
 iterate 18
  refine wpCalm_go rfl (by kernel_rfl) (fun K hK => ?_);apply Exists.intro;refine ⟨fun M w hM hS => ?_, hK _ ?_⟩
  ·have hc0 := hS.1;have hc1 := hS.2;unfold calmAt;go_simp;exact ⟨rfl, Rel.refl _⟩
  clear hK K
 refine wpAnyR_end (by kernel_rfl) (fun w3 h3' => ?_);(try simp only [Act.put, zla, zlb, zlc]);have h3 := h0.trans h3';clear h0 h3';have kz3 := h3.size;(try simp only [zsa, zsc, zsd] at kz3);have H3 := Hj h3;clear h3;go_wp2
 go_ret2
 exact ⟨_, _, rfl, key.out.1, key.out.2, H3.out⟩
set_option maxRecDepth 20000 in
theorem res7_4 (d0 d1 d2 : Int) (g cap : Nat) (w : World) (hg : g < w.heap.size) (h0 : 1 ≤ d0 ∧ d0 ≤ 4) (h1 : 1 ≤ d1 ∧ d1 ≤ 4) (c0 : w.cell? ⟨g, 0, none⟩ = some (.int .i64 d0)) (c1 : w.cell? ⟨g, 1, none⟩ = some (.int .i64 d1)) (f0 : ¬ d0 = d1) :
  Calls Tryz.prog 156 #[.int .i64 7, .slice (some ⟨g, 0, none⟩) 2 cap] w (RsRes (resV 7 d0 d1 d2) w) := by
 have key : Hid ((false) = (!(resV 7 d0 d1 d2 == 0)) ∧ ((false) = true → d0 = resV 7 d0 d1 d2)) := by
  show _ ∧ _
  have e2 : resV 7 d0 d1 d2 = resV 7 d0 d1 1 := rfl;rw [e2];clear c0 c1 hg
  rcases (show d0 = 1 ∨ d0 = 2 ∨ d0 = 3 ∨ d0 = 4 by omega) with rfl | rfl | rfl | rfl <;>
  rcases (show d1 = 1 ∨ d1 = 2 ∨ d1 = 3 ∨ d1 = 4 by omega) with rfl | rfl | rfl | rfl <;>
  first | decide | (exfalso; omega)
 have b0 : (d0 == d1) = false := by simp; omega
 obtain ⟨R, hR⟩ : ∃ R, resV 7 d0 d1 d2 = R := ⟨_, rfl⟩;rw [hR] at key ⊢;clear hR h0 h1 f0;unfold RsRes;go_enter Tryz.func156, Tryz.ntmps156;go_wp2_with fail;refine wp_region_calm (fun _ w' => w'.cell? { block := g, off := 0 } = some (.int .i64 d0) ∧ w'.cell? { block := g, off := 1 } = some (.int .i64 d1)) (fun _ => false) [0, 1, 2, 3, 4, 5, 6, 7, 8, 9, 10, 11, 12, 13, 14, 15, 16, 17] 0 (by kernel_rfl) (by kernel_rfl) ?hst ?hS0 (fun w0 h0 => ?_)
 case hst => exact fun _ _ _ h r => ⟨r.cell h.1, r.cell h.2⟩
 case hS0 => exact ⟨by go_simp, by go_simp⟩
 iterate 11
  refine wpCalm_go rfl (by kernel_rfl) (fun K hK => ?_);apply Exists.intro;refine ⟨fun M w hM hS => ?_, hK _ ?_⟩
  ·have hc0 := hS.1;have hc1 := hS.2;unfold calmAt;go_simp;exact ⟨rfl, Rel.refl _⟩
  clear hK K
 iterate 4 (refine wpCalm_no rfl (by kernel_rfl) (fun K hK => hK _ ?_); clear hK K)
 iterate 3
  refine wpCalm_go rfl (by kernel_rfl) (fun K hK => ?_);apply Exists.intro;refine ⟨fun M w hM hS => ?_, hK _ ?_⟩
  ·have hc0 := hS.1;have hc1 := hS.2;unfold calmAt;go_simp;exact ⟨rfl, Rel.refl _⟩
  clear hK K
 refine wpAnyR_end (by kernel_rfl) (fun w3 h3' => ?_);(try simp only [Act.put, zla, zlb, zlc]);have h3 := h0.trans h3';clear h0 h3';have kz3 := h3.size;(try simp only [zsa, zsc, zsd] at kz3);have H3 := Hj h3;clear h3;go_wp2
 go_ret2
 exact ⟨_, _, rfl, key.out.1, key.out.2, H3.out⟩
set_option maxRecDepth 20000 in
theorem res8_5 (d0 d1 d2 : Int) (g cap : Nat) (w : World) (hg : g < w.heap.size) (h0 : 1 ≤ d0 ∧ d0 ≤ 4) (h1 : 1 ≤ d1 ∧ d1 ≤ 4) (c0 : w.cell? ⟨g, 0, none⟩ = some (.int .i64 d0)) (c1 : w.cell? ⟨g, 1, none⟩ = some (.int .i64 d1)) (f0 : d0 = d1) :
  Calls Tryz.prog 156 #[.int .i64 8, .slice (some ⟨g, 0, none⟩) 2 cap] w (RsRes (resV 8 d0 d1 d2) w) := by
 subst f0
 have key : Hid (((d0 != 1)) = (!(resV 8 d0 d0 d2 == 0)) ∧ (((d0 != 1)) = true → d0 = resV 8 d0 d0 d2)) := by
  show _ ∧ _
  have e2 : resV 8 d0 d0 d2 = resV 8 d0 d0 1 := rfl;rw [e2];clear c0 c1 hg
  rcases (show d0 = 1 ∨ d0 = 2 ∨ d0 = 3 ∨ d0 = 4 by omega) with rfl | rfl | rfl | rfl <;>
  first | decide | (exfalso; omega)
 obtain ⟨R, hR⟩ : ∃ R, resV 8 d0 d0 d2 = R := ⟨_, rfl⟩;rw [hR] at key ⊢;clear hR h0 h1;unfold RsRes;go_enter Tryz.func156, Tryz.ntmps156;go_wp2_with fail;refine wp_region_calm (fun _ w' => w'.cell? { block := g, off := 0 } = some (.int .i64 d0) ∧ w'.cell? { block := g, off := 1 } = some (.int .i64 d0)) (fun _ => false) [0, 1, 2, 3, 4, 5, 6, 7, 8, 9, 10, 11, 12, 13, 14, 15, 16, 17] 0 (by kernel_rfl) (by kernel_rfl) ?hst ?hS0 (fun w0 h0 => ?_)
 case hst => exact fun _ _ _ h r => ⟨r.cell h.1, r.cell h.2⟩
 case hS0 => exact ⟨by go_simp, by go_simp⟩
 iterate 18
  refine wpCalm_go rfl (by kernel_rfl) (fun K hK => ?_);apply Exists.intro;refine ⟨fun M w hM hS => ?_, hK _ ?_⟩
  ·have hc0 := hS.1;have hc1 := hS.2;unfold calmAt;go_simp;exact ⟨rfl, Rel.refl _⟩
  clear hK K
 refine wpAnyR_end (by kernel_rfl) (fun w3 h3' => ?_);(try simp only [Act.put, zla, zlb, zlc]);have h3 := h0.trans h3';clear h0 h3';have kz3 := h3.size;(try simp only [zsa, zsc, zsd] at kz3);have H3 := Hj h3;clear h3;go_wp2
 go_ret2
 exact ⟨_, _, rfl, key.out.1, key.out.2, H3.out⟩
set_option maxRecDepth 20000 in
theorem res8_6 (d0 d1 d2 : Int) (g cap : Nat) (w : World) (hg : g < w.heap.size) (h0 : 1 ≤ d0 ∧ d0 ≤ 4) (h1 : 1 ≤ d1 ∧ d1 ≤ 4) (c0 : w.cell? ⟨g, 0, none⟩ = some (.int .i64 d0)) (c1 : w.cell? ⟨g, 1, none⟩ = some (.int .i64 d1)) (f0 : ¬ d0 = d1) :
  Calls Tryz.prog 156 #[.int .i64 8, .slice (some ⟨g, 0, none⟩) 2 cap] w (RsRes (resV 8 d0 d1 d2) w) := by
 have key : Hid ((false) = (!(resV 8 d0 d1 d2 == 0)) ∧ ((false) = true → d0 = resV 8 d0 d1 d2)) := by
  show _ ∧ _
  have e2 : resV 8 d0 d1 d2 = resV 8 d0 d1 1 := rfl;rw [e2];clear c0 c1 hg
  rcases (show d0 = 1 ∨ d0 = 2 ∨ d0 = 3 ∨ d0 = 4 by omega) with rfl | rfl | rfl | rfl <;>
  rcases (show d1 = 1 ∨ d1 = 2 ∨ d1 = 3 ∨ d1 = 4 by omega) with rfl | rfl | rfl | rfl <;>
  first | decide | (exfalso; omega)
 have b0 : (d0 == d1) = false := by simp; omega
 obtain ⟨R, hR⟩ : ∃ R, resV 8 d0 d1 d2 = R := ⟨_, rfl⟩;rw [hR] at key ⊢;clear hR h0 h1 f0;unfold RsRes;go_enter Tryz.func156, Tryz.ntmps156;go_wp2_with fail;refine wp_region_calm (fun _ w' => w'.cell? { block := g, off := 0 } = some (.int .i64 d0) ∧ w'.cell? { block := g, off := 1 } = some (.int .i64 d1)) (fun _ => false) [0, 1, 2, 3, 4, 5, 6, 7, 8, 9, 10, 11, 12, 13, 14, 15, 16, 17] 0 (by kernel_rfl) (by kernel_rfl) ?hst ?hS0 (fun w0 h0 => ?_)
 case hst => exact fun _ _ _ h r => ⟨r.cell h.1, r.cell h.2⟩
 case hS0 => exact ⟨by go_simp, by go_simp⟩
 iterate 11
  refine wpCalm_go rfl (by kernel_rfl) (fun K hK => ?_);apply Exists.intro;refine ⟨fun M w hM hS => ?_, hK _ ?_⟩
  ·have hc0 := hS.1;have hc1 := hS.2;unfold calmAt;go_simp;exact ⟨rfl, Rel.refl _⟩
  clear hK K
 iterate 4 (refine wpCalm_no rfl (by kernel_rfl) (fun K hK => hK _ ?_); clear hK K)
 iterate 3
  refine wpCalm_go rfl (by kernel_rfl) (fun K hK => ?_);apply Exists.intro;refine ⟨fun M w hM hS => ?_, hK _ ?_⟩
  ·have hc0 := hS.1;have hc1 := hS.2;unfold calmAt;go_simp;exact ⟨rfl, Rel.refl _⟩
  clear hK K
 refine wpAnyR_end (by kernel_rfl) (fun w3 h3' => ?_);(try simp only [Act.put, zla, zlb, zlc]);have h3 := h0.trans h3';clear h0 h3';have kz3 := h3.size;(try simp only [zsa, zsc, zsd] at kz3);have H3 := Hj h3;clear h3;go_wp2
 go_ret2
 exact ⟨_, _, rfl, key.out.1, key.out.2, H3.out⟩
set_option maxRecDepth 20000 in
theorem res19_7 (d0 d1 d2 : Int) (g cap : Nat) (w : World) (hg : g < w.heap.size) (h0 : 1 ≤ d0 ∧ d0 ≤ 4) (h1 : 1 ≤ d1 ∧ d1 ≤ 4) (c0 : w.cell? ⟨g, 0, none⟩ = some (.int .i64 d0)) (c1 : w.cell? ⟨g, 1, none⟩ = some (.int .i64 d1)) (f0 : d0 = d1) :
  Calls Tryz.prog 156 #[.int .i64 19, .slice (some ⟨g, 0, none⟩) 2 cap] w (RsRes (resV 19 d0 d1 d2) w) := by
 subst f0
 have key : Hid (((d0 != 1)) = (!(resV 19 d0 d0 d2 == 0)) ∧ (((d0 != 1)) = true → d0 = resV 19 d0 d0 d2)) := by
  show _ ∧ _
  have e2 : resV 19 d0 d0 d2 = resV 19 d0 d0 1 := rfl;rw [e2];clear c0 c1 hg
  rcases (show d0 = 1 ∨ d0 = 2 ∨ d0 = 3 ∨ d0 = 4 by omega) with rfl | rfl | rfl | rfl <;>
  first | decide | (exfalso; omega)
 obtain ⟨R, hR⟩ : ∃ R, resV 19 d0 d0 d2 = R := ⟨_, rfl⟩;rw [hR] at key ⊢;clear hR h0 h1;unfold RsRes;go_enter Tryz.func156, Tryz.ntmps156;go_wp2_with fail;refine wp_region_calm (fun _ w' => w'.cell? { block := g, off := 0 } = some (.int .i64 d0) ∧ w'.cell? { block := g, off := 1 } = some (.int .i64 d0)) (fun _ => false) [0, 1, 2, 3, 4, 5, 6, 7, 8, 9, 10, 11, 12, 13, 14, 15, 16, 17] 0 (by kernel_rfl) (by kernel_rfl) ?hst ?hS0 (fun w0 h0 => ?_)
 case hst => exact fun _ _ _ h r => ⟨r.cell h.1, r.cell h.2⟩
 case hS0 => exact ⟨by go_simp, by go_simp⟩
 iterate 18
  refine wpCalm_go rfl (by kernel_rfl) (fun K hK => ?_);apply Exists.intro;refine ⟨fun M w hM hS => ?_, hK _ ?_⟩
  ·have hc0 := hS.1;have hc1 := hS.2;unfold calmAt;go_simp;exact ⟨rfl, Rel.refl _⟩
  clear hK K
 refine wpAnyR_end (by kernel_rfl) (fun w3 h3' => ?_);(try simp only [Act.put, zla, zlb, zlc]);have h3 := h0.trans h3';clear h0 h3';have kz3 := h3.size;(try simp only [zsa, zsc, zsd] at kz3);have H3 := Hj h3;clear h3;go_wp2
 go_ret2
 exact ⟨_, _, rfl, key.out.1, key.out.2, H3.out⟩
set_option maxRecDepth 20000 in
theorem res19_8 (d0 d1 d2 : Int) (g cap : Nat) (w : World) (hg : g < w.heap.size) (h0 : 1 ≤ d0 ∧ d0 ≤ 4) (h1 : 1 ≤ d1 ∧ d1 ≤ 4) (c0 : w.cell? ⟨g, 0, none⟩ = some (.int .i64 d0)) (c1 : w.cell? ⟨g, 1, none⟩ = some (.int .i64 d1)) (f0 : ¬ d0 = d1) :
  Calls Tryz.prog 156 #[.int .i64 19, .slice (some ⟨g, 0, none⟩) 2 cap] w (RsRes (resV 19 d0 d1 d2) w) := by
 have key : Hid ((false) = (!(resV 19 d0 d1 d2 == 0)) ∧ ((false) = true → d0 = resV 19 d0 d1 d2)) := by
  show _ ∧ _
  have e2 : resV 19 d0 d1 d2 = resV 19 d0 d1 1 := rfl;rw [e2];clear c0 c1 hg
  rcases (show d0 = 1 ∨ d0 = 2 ∨ d0 = 3 ∨ d0 = 4 by omega) with rfl | rfl | rfl | rfl <;>
  rcases (show d1 = 1 ∨ d1 = 2 ∨ d1 = 3 ∨ d1 = 4 by omega) with rfl | rfl | rfl | rfl <;>
  first | decide | (exfalso; omega)
 have b0 : (d0 == d1) = false := by simp; omega
 obtain ⟨R, hR⟩ : ∃ R, resV 19 d0 d1 d2 = R := ⟨_, rfl⟩;rw [hR] at key ⊢;clear hR h0 h1 f0;unfold RsRes;go_enter Tryz.func156, Tryz.ntmps156;go_wp2_with fail;refine wp_region_calm (fun _ w' => w'.cell? { block := g, off := 0 } = some (.int .i64 d0) ∧ w'.cell? { block := g, off := 1 } = some (.int .i64 d1)) (fun _ => false) [0, 1, 2, 3, 4, 5, 6, 7, 8, 9, 10, 11, 12, 13, 14, 15, 16, 17] 0 (by kernel_rfl) (by kernel_rfl) ?hst ?hS0 (fun w0 h0 => ?_)
 case hst => exact fun _ _ _ h r => ⟨r.cell h.1, r.cell h.2⟩
 case hS0 => exact ⟨by go_simp, by go_simp⟩
 iterate 11
  refine wpCalm_go rfl (by kernel_rfl) (fun K hK => ?_);apply Exists.intro;refine ⟨fun M w hM hS => ?_, hK _ ?_⟩
  ·have hc0 := hS.1;have hc1 := hS.2;unfold calmAt;go_simp;exact ⟨rfl, Rel.refl _⟩
  clear hK K
 iterate 4 (refine wpCalm_no rfl (by kernel_rfl) (fun K hK => hK _ ?_); clear hK K)
 iterate 3
  refine wpCalm_go rfl (by kernel_rfl) (fun K hK => ?_);apply Exists.intro;refine ⟨fun M w hM hS => ?_, hK _ ?_⟩
  ·have hc0 := hS.1;have hc1 := hS.2;unfold calmAt;go_simp;exact ⟨rfl, Rel.refl _⟩
  clear hK K
 refine wpAnyR_end (by kernel_rfl) (fun w3 h3' => ?_);(try simp only [Act.put, zla, zlb, zlc]);have h3 := h0.trans h3';clear h0 h3';have kz3 := h3.size;(try simp only [zsa, zsc, zsd] at kz3);have H3 := Hj h3;clear h3;go_wp2
 go_ret2
 exact ⟨_, _, rfl, key.out.1, key.out.2, H3.out⟩
set_option maxRecDepth 20000 in
theorem res20_9 (d0 d1 d2 : Int) (g cap : Nat) (w : World) (hg : g < w.heap.size) (h0 : 1 ≤ d0 ∧ d0 ≤ 4) (h1 : 1 ≤ d1 ∧ d1 ≤ 4) (c0 : w.cell? ⟨g, 0, none⟩ = some (.int .i64 d0)) (c1 : w.cell? ⟨g, 1, none⟩ = some (.int .i64 d1)) (f0 : d0 = d1) :
  Calls Tryz.prog 156 #[.int .i64 20, .slice (some ⟨g, 0, none⟩) 2 cap] w (RsRes (resV 20 d0 d1 d2) w) := by
 subst f0
 have key : Hid (((d0 != 1)) = (!(resV 20 d0 d0 d2 == 0)) ∧ (((d0 != 1)) = true → d0 = resV 20 d0 d0 d2)) := by
  show _ ∧ _
  have e2 : resV 20 d0 d0 d2 = resV 20 d0 d0 1 := rfl;rw [e2];clear c0 c1 hg
  rcases (show d0 = 1 ∨ d0 = 2 ∨ d0 = 3 ∨ d0 = 4 by omega) with rfl | rfl | rfl | rfl <;>
  first | decide | (exfalso; omega)
 obtain ⟨R, hR⟩ : ∃ R, resV 20 d0 d0 d2 = R := ⟨_, rfl⟩;rw [hR] at key ⊢;clear hR h0 h1;unfold RsRes;go_enter Tryz.func156, Tryz.ntmps156;go_wp2_with fail;refine wp_region_calm (fun _ w' => w'.cell? { block := g, off := 0 } = some (.int .i64 d0) ∧ w'.cell? { block := g, off := 1 } = some (.int .i64 d0)) (fun _ => false) [0, 1, 2, 3, 4, 5, 6, 7, 8, 9, 10, 11, 12, 13, 14, 15, 16, 17] 0 (by kernel_rfl) (by kernel_rfl) ?hst ?hS0 (fun w0 h0 => ?_)
 case hst => exact fun _ _ _ h r => ⟨r.cell h.1, r.cell h.2⟩
 case hS0 => exact ⟨by go_simp, by go_simp⟩
 iterate 18
  refine wpCalm_go rfl (by kernel_rfl) (fun K hK => ?_);apply Exists.intro;refine ⟨fun M w hM hS => ?_, hK _ ?_⟩
  ·have hc0 := hS.1;have hc1 := hS.2;unfold calmAt;go_simp;exact ⟨rfl, Rel.refl _⟩
  clear hK K
 refine wpAnyR_end (by kernel_rfl) (fun w3 h3' => ?_);(try simp only [Act.put, zla, zlb, zlc]);have h3 := h0.trans h3';clear h0 h3';have kz3 := h3.size;(try simp only [zsa, zsc, zsd] at kz3);have H3 := Hj h3;clear h3;go_wp2
 go_ret2
 exact ⟨_, _, rfl, key.out.1, key.out.2, H3.out⟩
set_option maxRecDepth 20000 in
theorem res20_10 (d0 d1 d2 : Int) (g cap : Nat) (w : World) (hg : g < w.heap.size) (h0 : 1 ≤ d0 ∧ d0 ≤ 4) (h1 : 1 ≤ d1 ∧ d1 ≤ 4) (c0 : w.cell? ⟨g, 0, none⟩ = some (.int .i64 d0)) (c1 : w.cell? ⟨g, 1, none⟩ = some (.int .i64 d1)) (f0 : ¬ d0 = d1) :
  Calls Tryz.prog 156 #[.int .i64 20, .slice (some ⟨g, 0, none⟩) 2 cap] w (RsRes (resV 20 d0 d1 d2) w) := by
 have key : Hid ((false) = (!(resV 20 d0 d1 d2 == 0)) ∧ ((false) = true → d0 = resV 20 d0 d1 d2)) := by
  show _ ∧ _
  have e2 : resV 20 d0 d1 d2 = resV 20 d0 d1 1 := rfl;rw [e2];clear c0 c1 hg
  rcases (show d0 = 1 ∨ d0 = 2 ∨ d0 = 3 ∨ d0 = 4 by omega) with rfl | rfl | rfl | rfl <;>
  rcases (show d1 = 1 ∨ d1 = 2 ∨ d1 = 3 ∨ d1 = 4 by omega) with rfl | rfl | rfl | rfl <;>
  first | decide | (exfalso; omega)
 have b0 : (d0 == d1) = false := by simp; omega
 obtain ⟨R, hR⟩ : ∃ R, resV 20 d0 d1 d2 = R := ⟨_, rfl⟩;rw [hR] at key ⊢;clear hR h0 h1 f0;unfold RsRes;go_enter Tryz.func156, Tryz.ntmps156;go_wp2_with fail;refine wp_region_calm (fun _ w' => w'.cell? { block := g, off := 0 } = some (.int .i64 d0) ∧ w'.cell? { block := g, off := 1 } = some (.int .i64 d1)) (fun _ => false) [0, 1, 2, 3, 4, 5, 6, 7, 8, 9, 10, 11, 12, 13, 14, 15, 16, 17] 0 (by kernel_rfl) (by kernel_rfl) ?hst ?hS0 (fun w0 h0 => ?_)
 case hst => exact fun _ _ _ h r => ⟨r.cell h.1, r.cell h.2⟩
 case hS0 => exact ⟨by go_simp, by go_simp⟩
 iterate 11
  refine wpCalm_go rfl (by kernel_rfl) (fun K hK => ?_);apply Exists.intro;refine ⟨fun M w hM hS => ?_, hK _ ?_⟩
  ·have hc0 := hS.1;have hc1 := hS.2;unfold calmAt;go_simp;exact ⟨rfl, Rel.refl _⟩
  clear hK K
 iterate 4 (refine wpCalm_no rfl (by kernel_rfl) (fun K hK => hK _ ?_); clear hK K)
 iterate 3
  refine wpCalm_go rfl (by kernel_rfl) (fun K hK => ?_);apply Exists.intro;refine ⟨fun M w hM hS => ?_, hK _ ?_⟩
  ·have hc0 := hS.1;have hc1 := hS.2;unfold calmAt;go_simp;exact ⟨rfl, Rel.refl _⟩
  clear hK K
 refine wpAnyR_end (by kernel_rfl) (fun w3 h3' => ?_);(try simp only [Act.put, zla, zlb, zlc]);have h3 := h0.trans h3';clear h0 h3';have kz3 := h3.size;(try simp only [zsa, zsc, zsd] at kz3);have H3 := Hj h3;clear h3;go_wp2
 go_ret2
 exact ⟨_, _, rfl, key.out.1, key.out.2, H3.out⟩
set_option maxRecDepth 20000 in
theorem res9_11 (d0 d1 d2 : Int) (g cap : Nat) (w : World) (hg : g < w.heap.size) (h0 : 1 ≤ d0 ∧ d0 ≤ 4) (h1 : 1 ≤ d1 ∧ d1 ≤ 4) (c0 : w.cell? ⟨g, 0, none⟩ = some (.int .i64 d0)) (c1 : w.cell? ⟨g, 1, none⟩ = some (.int .i64 d1)) (f0 : d0 = 2) :
  Calls Tryz.prog 156 #[.int .i64 9, .slice (some ⟨g, 0, none⟩) 2 cap] w (RsRes (resV 9 d0 d1 d2) w) := by
 have key : Hid (((d1 != 1)) = (!(resV 9 d0 d1 d2 == 0)) ∧ (((d1 != 1)) = true → d1 = resV 9 d0 d1 d2)) := by
  show _ ∧ _
  have e2 : resV 9 d0 d1 d2 = resV 9 d0 d1 1 := rfl;rw [e2];clear c0 c1 hg
  rcases (show d0 = 1 ∨ d0 = 2 ∨ d0 = 3 ∨ d0 = 4 by omega) with rfl | rfl | rfl | rfl <;>
  rcases (show d1 = 1 ∨ d1 = 2 ∨ d1 = 3 ∨ d1 = 4 by omega) with rfl | rfl | rfl | rfl <;>
  first | decide | (exfalso; omega)
 have b0 : (d0 == 2) = true := by simp; omega
 obtain ⟨R, hR⟩ : ∃ R, resV 9 d0 d1 d2 = R := ⟨_, rfl⟩;rw [hR] at key ⊢;clear hR h0 h1 f0;unfold RsRes;go_enter Tryz.func156, Tryz.ntmps156;go_wp2_with fail;refine wp_region_calm (fun _ w' => w'.cell? { block := g, off := 0 } = some (.int .i64 d0) ∧ w'.cell? { block := g, off := 1 } = some (.int .i64 d1)) (fun _ => false) [0, 1, 2, 3, 4, 5, 6, 7, 8] 0 (by kernel_rfl) (by kernel_rfl) ?hst ?hS0 (fun w0 h0 => ?_)
 case hst => exact fun _ _ _ h r => ⟨r.cell h.1, r.cell h.2⟩
 case hS0 => exact ⟨by go_simp, by go_simp⟩
 iterate 9
  refine wpCalm_go rfl (by kernel_rfl) (fun K hK => ?_);apply Exists.intro;refine ⟨fun M w hM hS => ?_, hK _ ?_⟩
  ·have hc0 := hS.1;have hc1 := hS.2;unfold calmAt;go_simp;exact ⟨rfl, Rel.refl _⟩
  clear hK K
 refine wpAnyR_end (by kernel_rfl) (fun w3 h3' => ?_);(try simp only [Act.put, zla, zlb, zlc]);have h3 := h0.trans h3';clear h0 h3';have kz3 := h3.size;(try simp only [zsa, zsc, zsd] at kz3);have H3 := Hj h3;clear h3;go_wp2
 go_ret2
 exact ⟨_, _, rfl, key.out.1, key.out.2, H3.out⟩
set_option maxRecDepth 20000 in
theorem res9_12 (d0 d1 d2 : Int) (g cap : Nat) (w : World) (hg : g < w.heap.size) (h0 : 1 ≤ d0 ∧ d0 ≤ 4) (h1 : 1 ≤ d1 ∧ d1 ≤ 4) (c0 : w.cell? ⟨g, 0, none⟩ = some (.int .i64 d0)) (c1 : w.cell? ⟨g, 1, none⟩ = some (.int .i64 d1)) (f0 : ¬ d0 = 2) (f1 : d1 = 2) :
  Calls Tryz.prog 156 #[.int .i64 9, .slice (some ⟨g, 0, none⟩) 2 cap] w (RsRes (resV 9 d0 d1 d2) w) := by
 have key : Hid (((d0 != 1)) = (!(resV 9 d0 d1 d2 == 0)) ∧ (((d0 != 1)) = true → d0 = resV 9 d0 d1 d2)) := by
  show _ ∧ _
  have e2 : resV 9 d0 d1 d2 = resV 9 d0 d1 1 := rfl;rw [e2];clear c0 c1 hg
  rcases (show d0 = 1 ∨ d0 = 2 ∨ d0 = 3 ∨ d0 = 4 by omega) with rfl | rfl | rfl | rfl <;>
  rcases (show d1 = 1 ∨ d1 = 2 ∨ d1 = 3 ∨ d1 = 4 by omega) with rfl | rfl | rfl | rfl <;>
  first | decide | (exfalso; omega)
 have b0 : (d0 == 2) = false := by simp; omega
 have b1 : (d1 == 2) = true := by simp; omega
 obtain ⟨R, hR⟩ : ∃ R, resV 9 d0 d1 d2 = R := ⟨_, rfl⟩;rw [hR] at key ⊢;clear hR h0 h1 f0 f1;unfold RsRes;go_enter Tryz.func156, Tryz.ntmps156;go_wp2_with fail;refine wp_region_calm (fun _ w' => w'.cell? { block := g, off := 0 } = some (.int .i64 d0) ∧ w'.cell? { block := g, off := 1 } = some (.int .i64 d1)) (fun _ => false) [0, 1, 2, 3, 4, 5, 6, 7, 8, 9, 10, 11, 12, 13, 14] 0 (by kernel_rfl) (by kernel_rfl) ?hst ?hS0 (fun w0 h0 => ?_)
 case hst => exact fun _ _ _ h r => ⟨r.cell h.1, r.cell h.2⟩
 case hS0 => exact ⟨by go_simp, by go_simp⟩
 iterate 15
  refine wpCalm_go rfl (by kernel_rfl) (fun K hK => ?_);apply Exists.intro;refine ⟨fun M w hM hS => ?_, hK _ ?_⟩
  ·have hc0 := hS.1;have hc1 := hS.2;unfold calmAt;go_simp;exact ⟨rfl, Rel.refl _⟩
  clear hK K
 refine wpAnyR_end (by kernel_rfl) (fun w3 h3' => ?_);(try simp only [Act.put, zla, zlb, zlc]);have h3 := h0.trans h3';clear h0 h3';have kz3 := h3.size;(try simp only [zsa, zsc, zsd] at kz3);have H3 := Hj h3;clear h3;go_wp2
 go_ret2
 exact ⟨_, _, rfl, key.out.1, key.out.2, H3.out⟩
set_option maxRecDepth 20000 in
theorem res9_13 (d0 d1 d2 : Int) (g cap : Nat) (w : World) (hg : g < w.heap.size) (h0 : 1 ≤ d0 ∧ d0 ≤ 4) (h1 : 1 ≤ d1 ∧ d1 ≤ 4) (c0 : w.cell? ⟨g, 0, none⟩ = some (.int .i64 d0)) (c1 : w.cell? ⟨g, 1, none⟩ = some (.int .i64 d1)) (f0 : ¬ d0 = 2) (f1 : ¬ d1 = 2) :
  Calls Tryz.prog 156 #[.int .i64 9, .slice (some ⟨g, 0, none⟩) 2 cap] w (RsRes (resV 9 d0 d1 d2) w) := by
 have key : Hid ((false) = (!(resV 9 d0 d1 d2 == 0)) ∧ ((false) = true → d0 = resV 9 d0 d1 d2)) := by
  show _ ∧ _
  have e2 : resV 9 d0 d1 d2 = resV 9 d0 d1 1 := rfl;rw [e2];clear c0 c1 hg
  rcases (show d0 = 1 ∨ d0 = 2 ∨ d0 = 3 ∨ d0 = 4 by omega) with rfl | rfl | rfl | rfl <;>
  rcases (show d1 = 1 ∨ d1 = 2 ∨ d1 = 3 ∨ d1 = 4 by omega) with rfl | rfl | rfl | rfl <;>
  first | decide | (exfalso; omega)
 have b0 : (d0 == 2) = false := by simp; omega
 have b1 : (d1 == 2) = false := by simp; omega
 obtain ⟨R, hR⟩ : ∃ R, resV 9 d0 d1 d2 = R := ⟨_, rfl⟩;rw [hR] at key ⊢;clear hR h0 h1 f0 f1;unfold RsRes;go_enter Tryz.func156, Tryz.ntmps156;go_wp2_with fail;refine wp_region_calm (fun _ w' => w'.cell? { block := g, off := 0 } = some (.int .i64 d0) ∧ w'.cell? { block := g, off := 1 } = some (.int .i64 d1)) (fun _ => false) [0, 1, 2, 3, 4, 5, 6, 7, 8, 9, 10, 11, 12, 13, 14] 0 (by kernel_rfl) (by kernel_rfl) ?hst ?hS0 (fun w0 h0 => ?_)
 case hst => exact fun _ _ _ h r => ⟨r.cell h.1, r.cell h.2⟩
 case hS0 => exact ⟨by go_simp, by go_simp⟩
 iterate 8
  refine wpCalm_go rfl (by kernel_rfl) (fun K hK => ?_);apply Exists.intro;refine ⟨fun M w hM hS => ?_, hK _ ?_⟩
  ·have hc0 := hS.1;have hc1 := hS.2;unfold calmAt;go_simp;exact ⟨rfl, Rel.refl _⟩
  clear hK K
 iterate 4 (refine wpCalm_no rfl (by kernel_rfl) (fun K hK => hK _ ?_); clear hK K)
 iterate 3
  refine wpCalm_go rfl (by kernel_rfl) (fun K hK => ?_);apply Exists.intro;refine ⟨fun M w hM hS => ?_, hK _ ?_⟩
  ·have hc0 := hS.1;have hc1 := hS.2;unfold calmAt;go_simp;exact ⟨rfl, Rel.refl _⟩
  clear hK K
 refine wpAnyR_end (by kernel_rfl) (fun w3 h3' => ?_);(try simp only [Act.put, zla, zlb, zlc]);have h3 := h0.trans h3';clear h0 h3';have kz3 := h3.size;(try simp only [zsa, zsc, zsd] at kz3);have H3 := Hj h3;clear h3;go_wp2
 go_ret2
 exact ⟨_, _, rfl, key.out.1, key.out.2, H3.out⟩
set_option maxRecDepth 20000 in
theorem res10_14 (d0 d1 d2 : Int) (g cap : Nat) (w : World) (hg : g < w.heap.size) (h0 : 1 ≤ d0 ∧ d0 ≤ 4) (h1 : 1 ≤ d1 ∧ d1 ≤ 4) (c0 : w.cell? ⟨g, 0, none⟩ = some (.int .i64 d0)) (c1 : w.cell? ⟨g, 1, none⟩ = some (.int .i64 d1)) (f0 : d1 = 2) :
  Calls Tryz.prog 156 #[.int .i64 10, .slice (some ⟨g, 0, none⟩) 2 cap] w (RsRes (resV 10 d0 d1 d2) w) := by
 have key : Hid (((d0 != 1)) = (!(resV 10 d0 d1 d2 == 0)) ∧ (((d0 != 1)) = true → d0 = resV 10 d0 d1 d2)) := by
  show _ ∧ _
  have e2 : resV 10 d0 d1 d2 = resV 10 d0 d1 1 := rfl;rw [e2];clear c0 c1 hg
  rcases (show d0 = 1 ∨ d0 = 2 ∨ d0 = 3 ∨ d0 = 4 by omega) with rfl | rfl | rfl | rfl <;>
  rcases (show d1 = 1 ∨ d1 = 2 ∨ d1 = 3 ∨ d1 = 4 by omega) with rfl | rfl | rfl | rfl <;>
  first | decide | (exfalso; omega)
 have b0 : (d1 == 2) = true := by simp; omega
 obtain ⟨R, hR⟩ : ∃ R, resV 10 d0 d1 d2 = R := ⟨_, rfl⟩;rw [hR] at key ⊢;clear hR h0 h1 f0;unfold RsRes;go_enter Tryz.func156, Tryz.ntmps156;go_wp2_with fail;refine wp_region_calm (fun _ w' => w'.cell? { block := g, off := 0 } = some (.int .i64 d0) ∧ w'.cell? { block := g, off := 1 } = some (.int .i64 d1)) (fun _ => false) [0, 1, 2, 3, 4, 5, 6, 7, 8] 0 (by kernel_rfl) (by kernel_rfl) ?hst ?hS0 (fun w0 h0 => ?_)
 case hst => exact fun _ _ _ h r => ⟨r.cell h.1, r.cell h.2⟩
 case hS0 => exact ⟨by go_simp, by go_simp⟩
 iterate 9
  refine wpCalm_go rfl (by kernel_rfl) (fun K hK => ?_);apply Exists.intro;refine ⟨fun M w hM hS => ?_, hK _ ?_⟩
  ·have hc0 := hS.1;have hc1 := hS.2;unfold calmAt;go_simp;exact ⟨rfl, Rel.refl _⟩
  clear hK K
 refine wpAnyR_end (by kernel_rfl) (fun w3 h3' => ?_);(try simp only [Act.put, zla, zlb, zlc]);have h3 := h0.trans h3';clear h0 h3';have kz3 := h3.size;(try simp only [zsa, zsc, zsd] at kz3);have H3 := Hj h3;clear h3;go_wp2
 go_ret2
 exact ⟨_, _, rfl, key.out.1, key.out.2, H3.out⟩
set_option maxRecDepth 20000 in
theorem res10_15 (d0 d1 d2 : Int) (g cap : Nat) (w : World) (hg : g < w.heap.size) (h0 : 1 ≤ d0 ∧ d0 ≤ 4) (h1 : 1 ≤ d1 ∧ d1 ≤ 4) (c0 : w.cell? ⟨g, 0, none⟩ = some (.int .i64 d0)) (c1 : w.cell? ⟨g, 1, none⟩ = some (.int .i64 d1)) (f0 : ¬ d1 = 2) (f1 : d0 = d1) :
  Calls Tryz.prog 156 #[.int .i64 10, .slice (some ⟨g, 0, none⟩) 2 cap] w (RsRes (resV 10 d0 d1 d2) w) := by
 have key : Hid (((d0 != 1)) = (!(resV 10 d0 d1 d2 == 0)) ∧ (((d0 != 1)) = true → 2 = resV 10 d0 d1 d2)) := by
  show _ ∧ _
  have e2 : resV 10 d0 d1 d2 = resV 10 d0 d1 1 := rfl;rw [e2];clear c0 c1 hg
  rcases (show d0 = 1 ∨ d0 = 2 ∨ d0 = 3 ∨ d0 = 4 by omega) with rfl | rfl | rfl | rfl <;>
  rcases (show d1 = 1 ∨ d1 = 2 ∨ d1 = 3 ∨ d1 = 4 by omega) with rfl | rfl | rfl | rfl <;>
  first | decide | (exfalso; omega)
 have b0 : (d1 == 2) = false := by simp; omega
 have b1 : (d0 == d1) = true := by simp; omega
 obtain ⟨R, hR⟩ : ∃ R, resV 10 d0 d1 d2 = R := ⟨_, rfl⟩;rw [hR] at key ⊢;clear hR h0 h1 f0 f1;unfold RsRes;go_enter Tryz.func156, Tryz.ntmps156;go_wp2_with fail;refine wp_region_calm (fun _ w' => w'.cell? { block := g, off := 0 } = some (.int .i64 d0) ∧ w'.cell? { block := g, off := 1 } = some (.int .i64 d1)) (fun _ => false) [0, 1, 2, 3, 4, 5, 6, 7, 8, 9, 10, 11, 12, 13, 14] 0 (by kernel_rfl) (by kernel_rfl) ?hst ?hS0 (fun w0 h0 => ?_)
 case hst => exact fun _ _ _ h r => ⟨r.cell h.1, r.cell h.2⟩
 case hS0 => exact ⟨by go_simp, by go_simp⟩
 iterate 15
  refine wpCalm_go rfl (by kernel_rfl) (fun K hK => ?_);apply Exists.intro;refine ⟨fun M w hM hS => ?_, hK _ ?_⟩
  ·have hc0 := hS.1;have hc1 := hS.2;unfold calmAt;go_simp;exact ⟨rfl, Rel.refl _⟩
  clear hK K
 refine wpAnyR_end (by kernel_rfl) (fun w3 h3' => ?_);(try simp only [Act.put, zla, zlb, zlc]);have h3 := h0.trans h3';clear h0 h3';have kz3 := h3.size;(try simp only [zsa, zsc, zsd] at kz3);have H3 := Hj h3;clear h3;go_wp2
 go_ret2
 exact ⟨_, _, rfl, key.out.1, key.out.2, H3.out⟩
set_option maxRecDepth 20000 in
theorem res10_16 (d0 d1 d2 : Int) (g cap : Nat) (w : World) (hg : g < w.heap.size) (h0 : 1 ≤ d0 ∧ d0 ≤ 4) (h1 : 1 ≤ d1 ∧ d1 ≤ 4) (c0 : w.cell? ⟨g, 0, none⟩ = some (.int .i64 d0)) (c1 : w.cell? ⟨g, 1, none⟩ = some (.int .i64 d1)) (f0 : ¬ d1 = 2) (f1 : ¬ d0 = d1) :
  Calls Tryz.prog 156 #[.int .i64 10, .slice (some ⟨g, 0, none⟩) 2 cap] w (RsRes (resV 10 d0 d1 d2) w) := by
 have key : Hid ((false) = (!(resV 10 d0 d1 d2 == 0)) ∧ ((false) = true → 2 = resV 10 d0 d1 d2)) := by
  show _ ∧ _
  have e2 : resV 10 d0 d1 d2 = resV 10 d0 d1 1 := rfl;rw [e2];clear c0 c1 hg
  rcases (show d0 = 1 ∨ d0 = 2 ∨ d0 = 3 ∨ d0 = 4 by omega) with rfl | rfl | rfl | rfl <;>
  rcases (show d1 = 1 ∨ d1 = 2 ∨ d1 = 3 ∨ d1 = 4 by omega) with rfl | rfl | rfl | rfl <;>
  first | decide | (exfalso; omega)
 have b0 : (d1 == 2) = false := by simp; omega
 have b1 : (d0 == d1) = false := by simp; omega
 obtain ⟨R, hR⟩ : ∃ R, resV 10 d0 d1 d2 = R := ⟨_, rfl⟩;rw [hR] at key ⊢;clear hR h0 h1 f0 f1;unfold RsRes;go_enter Tryz.func156, Tryz.ntmps156;go_wp2_with fail;refine wp_region_calm (fun _ w' => w'.cell? { block := g, off := 0 } = some (.int .i64 d0) ∧ w'.cell? { block := g, off := 1 } = some (.int .i64 d1)) (fun _ => false) [0, 1, 2, 3, 4, 5, 6, 7, 8, 9, 10, 11, 12, 13, 14] 0 (by kernel_rfl) (by kernel_rfl) ?hst ?hS0 (fun w0 h0 => ?_)
 case hst => exact fun _ _ _ h r => ⟨r.cell h.1, r.cell h.2⟩
 case hS0 => exact ⟨by go_simp, by go_simp⟩
 iterate 8
  refine wpCalm_go rfl (by kernel_rfl) (fun K hK => ?_);apply Exists.intro;refine ⟨fun M w hM hS => ?_, hK _ ?_⟩
  ·have hc0 := hS.1;have hc1 := hS.2;unfold calmAt;go_simp;exact ⟨rfl, Rel.refl _⟩
  clear hK K
 iterate 4 (refine wpCalm_no rfl (by kernel_rfl) (fun K hK => hK _ ?_); clear hK K)
 iterate 3
  refine wpCalm_go rfl (by kernel_rfl) (fun K hK => ?_);apply Exists.intro;refine ⟨fun M w hM hS => ?_, hK _ ?_⟩
  ·have hc0 := hS.1;have hc1 := hS.2;unfold calmAt;go_simp;exact ⟨rfl, Rel.refl _⟩
  clear hK K
 refine wpAnyR_end (by kernel_rfl) (fun w3 h3' => ?_);(try simp only [Act.put, zla, zlb, zlc]);have h3 := h0.trans h3';clear h0 h3';have kz3 := h3.size;(try simp only [zsa, zsc, zsd] at kz3);have H3 := Hj h3;clear h3;go_wp2
 go_ret2
 exact ⟨_, _, rfl, key.out.1, key.out.2, H3.out⟩
set_option maxRecDepth 20000 in
theorem res11_17 (d0 d1 d2 : Int) (g cap : Nat) (w : World) (hg : g < w.heap.size) (h0 : 1 ≤ d0 ∧ d0 ≤ 4) (h1 : 1 ≤ d1 ∧ d1 ≤ 4) (c0 : w.cell? ⟨g, 0, none⟩ = some (.int .i64 d0)) (c1 : w.cell? ⟨g, 1, none⟩ = some (.int .i64 d1)) (f0 : d0 = d1) :
  Calls Tryz.prog 156 #[.int .i64 11, .slice (some ⟨g, 0, none⟩) 2 cap] w (RsRes (resV 11 d0 d1 d2) w) := by
 have key : Hid (((d0 != 1)) = (!(resV 11 d0 d1 d2 == 0)) ∧ (((d0 != 1)) = true → 1 = resV 11 d0 d1 d2)) := by
  show _ ∧ _
  have e2 : resV 11 d0 d1 d2 = resV 11 d0 d1 1 := rfl;rw [e2];clear c0 c1 hg
  rcases (show d0 = 1 ∨ d0 = 2 ∨ d0 = 3 ∨ d0 = 4 by omega) with rfl | rfl | rfl | rfl <;>
  rcases (show d1 = 1 ∨ d1 = 2 ∨ d1 = 3 ∨ d1 = 4 by omega) with rfl | rfl | rfl | rfl <;>
  first | decide | (exfalso; omega)
 have b0 : (d0 == d1) = true := by simp; omega
 obtain ⟨R, hR⟩ : ∃ R, resV 11 d0 d1 d2 = R := ⟨_, rfl⟩;rw [hR] at key ⊢;clear hR h0 h1 f0;unfold RsRes;go_enter Tryz.func156, Tryz.ntmps156;go_wp2_with fail;refine wp_region_calm (fun _ w' => w'.cell? { block := g, off := 0 } = some (.int .i64 d0) ∧ w'.cell? { block := g, off := 1 } = some (.int .i64 d1)) (fun _ => false) [0, 1, 2, 3, 4, 5, 6, 7, 8, 9, 10, 11, 12, 13, 14] 0 (by kernel_rfl) (by kernel_rfl) ?hst ?hS0 (fun w0 h0 => ?_)
 case hst => exact fun _ _ _ h r => ⟨r.cell h.1, r.cell h.2⟩
 case hS0 => exact ⟨by go_simp, by go_simp⟩
 iterate 15
  refine wpCalm_go rfl (by kernel_rfl) (fun K hK => ?_);apply Exists.intro;refine ⟨fun M w hM hS => ?_, hK _ ?_⟩
  ·have hc0 := hS.1;have hc1 := hS.2;unfold calmAt;go_simp;exact ⟨rfl, Rel.refl _⟩
  clear hK K
 refine wpAnyR_end (by kernel_rfl) (fun w3 h3' => ?_);(try simp only [Act.put, zla, zlb, zlc]);have h3 := h0.trans h3';clear h0 h3';have kz3 := h3.size;(try simp only [zsa, zsc, zsd] at kz3);have H3 := Hj h3;clear h3;go_wp2
 go_ret2
 exact ⟨_, _, rfl, key.out.1, key.out.2, H3.out⟩
set_option maxRecDepth 20000 in
theorem res11_18 (d0 d1 d2 : Int) (g cap : Nat) (w : World) (hg : g < w.heap.size) (h0 : 1 ≤ d0 ∧ d0 ≤ 4) (h1 : 1 ≤ d1 ∧ d1 ≤ 4) (c0 : w.cell? ⟨g, 0, none⟩ = some (.int .i64 d0)) (c1 : w.cell? ⟨g, 1, none⟩ = some (.int .i64 d1)) (f0 : ¬ d0 = d1) :
  Calls Tryz.prog 156 #[.int .i64 11, .slice (some ⟨g, 0, none⟩) 2 cap] w (RsRes (resV 11 d0 d1 d2) w) := by
 have key : Hid ((false) = (!(resV 11 d0 d1 d2 == 0)) ∧ ((false) = true → 1 = resV 11 d0 d1 d2)) := by
  show _ ∧ _
  have e2 : resV 11 d0 d1 d2 = resV 11 d0 d1 1 := rfl;rw [e2];clear c0 c1 hg
  rcases (show d0 = 1 ∨ d0 = 2 ∨ d0 = 3 ∨ d0 = 4 by omega) with rfl | rfl | rfl | rfl <;>
  rcases (show d1 = 1 ∨ d1 = 2 ∨ d1 = 3 ∨ d1 = 4 by omega) with rfl | rfl | rfl | rfl <;>
  first | decide | (exfalso; omega)
 have b0 : (d0 == d1) = false := by simp; omega
 obtain ⟨R, hR⟩ : ∃ R, resV 11 d0 d1 d2 = R := ⟨_, rfl⟩;rw [hR] at key ⊢;clear hR h0 h1 f0;unfold RsRes;go_enter Tryz.func156, Tryz.ntmps156;go_wp2_with fail;refine wp_region_calm (fun _ w' => w'.cell? { block := g, off := 0 } = some (.int .i64 d0) ∧ w'.cell? { block := g, off := 1 } = some (.int .i64 d1)) (fun _ => false) [0, 1, 2, 3, 4, 5, 6, 7, 8, 9, 10, 11, 12, 13, 14] 0 (by kernel_rfl) (by kernel_rfl) ?hst ?hS0 (fun w0 h0 => ?_)
 case hst => exact fun _ _ _ h r => ⟨r.cell h.1, r.cell h.2⟩
 case hS0 => exact ⟨by go_simp, by go_simp⟩
 iterate 8
  refine wpCalm_go rfl (by kernel_rfl) (fun K hK => ?_);apply Exists.intro;refine ⟨fun M w hM hS => ?_, hK _ ?_⟩
  ·have hc0 := hS.1;have hc1 := hS.2;unfold calmAt;go_simp;exact ⟨rfl, Rel.refl _⟩
  clear hK K
 iterate 4 (refine wpCalm_no rfl (by kernel_rfl) (fun K hK => hK _ ?_); clear hK K)
 iterate 3
  refine wpCalm_go rfl (by kernel_rfl) (fun K hK => ?_);apply Exists.intro;refine ⟨fun M w hM hS => ?_, hK _ ?_⟩
  ·have hc0 := hS.1;have hc1 := hS.2;unfold calmAt;go_simp;exact ⟨rfl, Rel.refl _⟩
  clear hK K
 refine wpAnyR_end (by kernel_rfl) (fun w3 h3' => ?_);(try simp only [Act.put, zla, zlb, zlc]);have h3 := h0.trans h3';clear h0 h3';have kz3 := h3.size;(try simp only [zsa, zsc, zsd] at kz3);have H3 := Hj h3;clear h3;go_wp2
 go_ret2
 exact ⟨_, _, rfl, key.out.1, key.out.2, H3.out⟩
set_option maxRecDepth 20000 in
theorem res12_19 (d0 d1 d2 : Int) (g cap : Nat) (w : World) (hg : g < w.heap.size) (h0 : 1 ≤ d0 ∧ d0 ≤ 4) (h1 : 1 ≤ d1 ∧ d1 ≤ 4) (c0 : w.cell? ⟨g, 0, none⟩ = some (.int .i64 d0)) (c1 : w.cell? ⟨g, 1, none⟩ = some (.int .i64 d1)) (f0 : d0 = d1) :
  Calls Tryz.prog 156 #[.int .i64 12, .slice (some ⟨g, 0, none⟩) 2 cap] w (RsRes (resV 12 d0 d1 d2) w) := by
 have key : Hid (((d0 != 1)) = (!(resV 12 d0 d1 d2 == 0)) ∧ (((d0 != 1)) = true → 1 = resV 12 d0 d1 d2)) := by
  show _ ∧ _
  have e2 : resV 12 d0 d1 d2 = resV 12 d0 d1 1 := rfl;rw [e2];clear c0 c1 hg
  rcases (show d0 = 1 ∨ d0 = 2 ∨ d0 = 3 ∨ d0 = 4 by omega) with rfl | rfl | rfl | rfl <;>
  rcases (show d1 = 1 ∨ d1 = 2 ∨ d1 = 3 ∨ d1 = 4 by omega) with rfl | rfl | rfl | rfl <;>
  first | decide | (exfalso; omega)
 have b0 : (d0 == d1) = true := by simp; omega
 obtain ⟨R, hR⟩ : ∃ R, resV 12 d0 d1 d2 = R := ⟨_, rfl⟩;rw [hR] at key ⊢;clear hR h0 h1 f0;unfold RsRes;go_enter Tryz.func156, Tryz.ntmps156;go_wp2_with fail;refine wp_region_calm (fun _ w' => w'.cell? { block := g, off := 0 } = some (.int .i64 d0) ∧ w'.cell? { block := g, off := 1 } = some (.int .i64 d1)) (fun _ => false) [0, 1, 2, 3, 4, 5, 6, 7, 8, 9, 10, 11, 12, 13, 14] 0 (by kernel_rfl) (by kernel_rfl) ?hst ?hS0 (fun w0 h0 => ?_)
 case hst => exact fun _ _ _ h r => ⟨r.cell h.1, r.cell h.2⟩
 case hS0 => exact ⟨by go_simp, by go_simp⟩
 iterate 15
  refine wpCalm_go rfl (by kernel_rfl) (fun K hK => ?_);apply Exists.intro;refine ⟨fun M w hM hS => ?_, hK _ ?_⟩
  ·have hc0 := hS.1;have hc1 := hS.2;unfold calmAt;go_simp;exact ⟨rfl, Rel.refl _⟩
  clear hK K
 refine wpAnyR_end (by kernel_rfl) (fun w3 h3' => ?_);(try simp only [Act.put, zla, zlb, zlc]);have h3 := h0.trans h3';clear h0 h3';have kz3 := h3.size;(try simp only [zsa, zsc, zsd] at kz3);have H3 := Hj h3;clear h3;go_wp2
 go_ret2
 exact ⟨_, _, rfl, key.out.1, key.out.2, H3.out⟩
set_option maxRecDepth 20000 in
theorem res12_20 (d0 d1 d2 : Int) (g cap : Nat) (w : World) (hg : g < w.heap.size) (h0 : 1 ≤ d0 ∧ d0 ≤ 4) (h1 : 1 ≤ d1 ∧ d1 ≤ 4) (c0 : w.cell? ⟨g, 0, none⟩ = some (.int .i64 d0)) (c1 : w.cell? ⟨g, 1, none⟩ = some (.int .i64 d1)) (f0 : ¬ d0 = d1) :
  Calls Tryz.prog 156 #[.int .i64 12, .slice (some ⟨g, 0, none⟩) 2 cap] w (RsRes (resV 12 d0 d1 d2) w) := by
 have key : Hid ((false) = (!(resV 12 d0 d1 d2 == 0)) ∧ ((false) = true → 1 = resV 12 d0 d1 d2)) := by
  show _ ∧ _
  have e2 : resV 12 d0 d1 d2 = resV 12 d0 d1 1 := rfl;rw [e2];clear c0 c1 hg
  rcases (show d0 = 1 ∨ d0 = 2 ∨ d0 = 3 ∨ d0 = 4 by omega) with rfl | rfl | rfl | rfl <;>
  rcases (show d1 = 1 ∨ d1 = 2 ∨ d1 = 3 ∨ d1 = 4 by omega) with rfl | rfl | rfl | rfl <;>
  first | decide | (exfalso; omega)
 have b0 : (d0 == d1) = false := by simp; omega
 obtain ⟨R, hR⟩ : ∃ R, resV 12 d0 d1 d2 = R := ⟨_, rfl⟩;rw [hR] at key ⊢;clear hR h0 h1 f0;unfold RsRes;go_enter Tryz.func156, Tryz.ntmps156;go_wp2_with fail;refine wp_region_calm (fun _ w' => w'.cell? { block := g, off := 0 } = some (.int .i64 d0) ∧ w'.cell? { block := g, off := 1 } = some (.int .i64 d1)) (fun _ => false) [0, 1, 2, 3, 4, 5, 6, 7, 8, 9, 10, 11, 12, 13, 14] 0 (by kernel_rfl) (by kernel_rfl) ?hst ?hS0 (fun w0 h0 => ?_)
 case hst => exact fun _ _ _ h r => ⟨r.cell h.1, r.cell h.2⟩
 case hS0 => exact ⟨by go_simp, by go_simp⟩
 iterate 8
  refine wpCalm_go rfl (by kernel_rfl) (fun K hK => ?_);apply Exists.intro;refine ⟨fun M w hM hS => ?_, hK _ ?_⟩
  ·have hc0 := hS.1;have hc1 := hS.2;unfold calmAt;go_simp;exact ⟨rfl, Rel.refl _⟩
  clear hK K
 iterate 4 (refine wpCalm_no rfl (by kernel_rfl) (fun K hK => hK _ ?_); clear hK K)
 iterate 3
  refine wpCalm_go rfl (by kernel_rfl) (fun K hK => ?_);apply Exists.intro;refine ⟨fun M w hM hS => ?_, hK _ ?_⟩
  ·have hc0 := hS.1;have hc1 := hS.2;unfold calmAt;go_simp;exact ⟨rfl, Rel.refl _⟩
  clear hK K
 refine wpAnyR_end (by kernel_rfl) (fun w3 h3' => ?_);(try simp only [Act.put, zla, zlb, zlc]);have h3 := h0.trans h3';clear h0 h3';have kz3 := h3.size;(try simp only [zsa, zsc, zsd] at kz3);have H3 := Hj h3;clear h3;go_wp2
 go_ret2
 exact ⟨_, _, rfl, key.out.1, key.out.2, H3.out⟩
set_option maxRecDepth 20000 in
theorem res13_21 (d0 d1 d2 : Int) (g cap : Nat) (w : World) (hg : g < w.heap.size) (h0 : 1 ≤ d0 ∧ d0 ≤ 4) (h1 : 1 ≤ d1 ∧ d1 ≤ 4) (c0 : w.cell? ⟨g, 0, none⟩ = some (.int .i64 d0)) (c1 : w.cell? ⟨g, 1, none⟩ = some (.int .i64 d1)) (f0 : d0 = d1) :
  Calls Tryz.prog 156 #[.int .i64 13, .slice (some ⟨g, 0, none⟩) 2 cap] w (RsRes (resV 13 d0 d1 d2) w) := by
 have key : Hid (((d0 != 1)) = (!(resV 13 d0 d1 d2 == 0)) ∧ (((d0 != 1)) = true → 1 = resV 13 d0 d1 d2)) := by
  show _ ∧ _
  have e2 : resV 13 d0 d1 d2 = resV 13 d0 d1 1 := rfl;rw [e2];clear c0 c1 hg
  rcases (show d0 = 1 ∨ d0 = 2 ∨ d0 = 3 ∨ d0 = 4 by omega) with rfl | rfl | rfl | rfl <;>
  rcases (show d1 = 1 ∨ d1 = 2 ∨ d1 = 3 ∨ d1 = 4 by omega) with rfl | rfl | rfl | rfl <;>
  first | decide | (exfalso; omega)
 have b0 : (d0 == d1) = true := by simp; omega
 obtain ⟨R, hR⟩ : ∃ R, resV 13 d0 d1 d2 = R := ⟨_, rfl⟩;rw [hR] at key ⊢;clear hR h0 h1 f0;unfold RsRes;go_enter Tryz.func156, Tryz.ntmps156;go_wp2_with fail;refine wp_region_calm (fun _ w' => w'.cell? { block := g, off := 0 } = some (.int .i64 d0) ∧ w'.cell? { block := g, off := 1 } = some (.int .i64 d1)) (fun _ => false) [0, 1, 2, 3, 4, 5, 6, 7, 8, 9, 10, 11, 12, 13, 14] 0 (by kernel_rfl) (by kernel_rfl) ?hst ?hS0 (fun w0 h0 => ?_)
 case hst => exact fun _ _ _ h r => ⟨r.cell h.1, r.cell h.2⟩
 case hS0 => exact ⟨by go_simp, by go_simp⟩
 iterate 15
  refine wpCalm_go rfl (by kernel_rfl) (fun K hK => ?_);apply Exists.intro;refine ⟨fun M w hM hS => ?_, hK _ ?_⟩
  ·have hc0 := hS.1;have hc1 := hS.2;unfold calmAt;go_simp;exact ⟨rfl, Rel.refl _⟩
  clear hK K
 refine wpAnyR_end (by kernel_rfl) (fun w3 h3' => ?_);(try simp only [Act.put, zla, zlb, zlc]);have h3 := h0.trans h3';clear h0 h3';have kz3 := h3.size;(try simp only [zsa, zsc, zsd] at kz3);have H3 := Hj h3;clear h3;go_wp2
 go_ret2
 exact ⟨_, _, rfl, key.out.1, key.out.2, H3.out⟩
set_option maxRecDepth 20000 in
theorem res13_22 (d0 d1 d2 : Int) (g cap : Nat) (w : World) (hg : g < w.heap.size) (h0 : 1 ≤ d0 ∧ d0 ≤ 4) (h1 : 1 ≤ d1 ∧ d1 ≤ 4) (c0 : w.cell? ⟨g, 0, none⟩ = some (.int .i64 d0)) (c1 : w.cell? ⟨g, 1, none⟩ = some (.int .i64 d1)) (f0 : ¬ d0 = d1) :
  Calls Tryz.prog 156 #[.int .i64 13, .slice (some ⟨g, 0, none⟩) 2 cap] w (RsRes (resV 13 d0 d1 d2) w) := by
 have key : Hid ((false) = (!(resV 13 d0 d1 d2 == 0)) ∧ ((false) = true → 1 = resV 13 d0 d1 d2)) := by
  show _ ∧ _
  have e2 : resV 13 d0 d1 d2 = resV 13 d0 d1 1 := rfl;rw [e2];clear c0 c1 hg
  rcases (show d0 = 1 ∨ d0 = 2 ∨ d0 = 3 ∨ d0 = 4 by omega) with rfl | rfl | rfl | rfl <;>
  rcases (show d1 = 1 ∨ d1 = 2 ∨ d1 = 3 ∨ d1 = 4 by omega) with rfl | rfl | rfl | rfl <;>
  first | decide | (exfalso; omega)
 have b0 : (d0 == d1) = false := by simp; omega
 obtain ⟨R, hR⟩ : ∃ R, resV 13 d0 d1 d2 = R := ⟨_, rfl⟩;rw [hR] at key ⊢;clear hR h0 h1 f0;unfold RsRes;go_enter Tryz.func156, Tryz.ntmps156;go_wp2_with fail;refine wp_region_calm (fun _ w' => w'.cell? { block := g, off := 0 } = some (.int .i64 d0) ∧ w'.cell? { block := g, off := 1 } = some (.int .i64 d1)) (fun _ => false) [0, 1, 2, 3, 4, 5, 6, 7, 8, 9, 10, 11, 12, 13, 14] 0 (by kernel_rfl) (by kernel_rfl) ?hst ?hS0 (fun w0 h0 => ?_)
 case hst => exact fun _ _ _ h r => ⟨r.cell h.1, r.cell h.2⟩
 case hS0 => exact ⟨by go_simp, by go_simp⟩
 iterate 8
  refine wpCalm_go rfl (by kernel_rfl) (fun K hK => ?_);apply Exists.intro;refine ⟨fun M w hM hS => ?_, hK _ ?_⟩
  ·have hc0 := hS.1;have hc1 := hS.2;unfold calmAt;go_simp;exact ⟨rfl, Rel.refl _⟩
  clear hK K
 iterate 4 (refine wpCalm_no rfl (by kernel_rfl) (fun K hK => hK _ ?_); clear hK K)
 iterate 3
  refine wpCalm_go rfl (by kernel_rfl) (fun K hK => ?_);apply Exists.intro;refine ⟨fun M w hM hS => ?_, hK _ ?_⟩
  ·have hc0 := hS.1;have hc1 := hS.2;unfold calmAt;go_simp;exact ⟨rfl, Rel.refl _⟩
  clear hK K
 refine wpAnyR_end (by kernel_rfl) (fun w3 h3' => ?_);(try simp only [Act.put, zla, zlb, zlc]);have h3 := h0.trans h3';clear h0 h3';have kz3 := h3.size;(try simp only [zsa, zsc, zsd] at kz3);have H3 := Hj h3;clear h3;go_wp2
 go_ret2
 exact ⟨_, _, rfl, key.out.1, key.out.2, H3.out⟩
set_option maxRecDepth 20000 in
theorem res14_23 (d0 d1 d2 : Int) (g cap : Nat) (w : World) (hg : g < w.heap.size) (h0 : 1 ≤ d0 ∧ d0 ≤ 4) (h1 : 1 ≤ d1 ∧ d1 ≤ 4) (c0 : w.cell? ⟨g, 0, none⟩ = some (.int .i64 d0)) (c1 : w.cell? ⟨g, 1, none⟩ = some (.int .i64 d1)) (f0 : d0 = d1) :
  Calls Tryz.prog 156 #[.int .i64 14, .slice (some ⟨g, 0, none⟩) 2 cap] w (RsRes (resV 14 d0 d1 d2) w) := by
 have key : Hid (((d0 != 1)) = (!(resV 14 d0 d1 d2 == 0)) ∧ (((d0 != 1)) = true → 1 = resV 14 d0 d1 d2)) := by
  show _ ∧ _
  have e2 : resV 14 d0 d1 d2 = resV 14 d0 d1 1 := rfl;rw [e2];clear c0 c1 hg
  rcases (show d0 = 1 ∨ d0 = 2 ∨ d0 = 3 ∨ d0 = 4 by omega) with rfl | rfl | rfl | rfl <;>
  rcases (show d1 = 1 ∨ d1 = 2 ∨ d1 = 3 ∨ d1 = 4 by omega) with rfl | rfl | rfl | rfl <;>
  first | decide | (exfalso; omega)
 have b0 : (d0 == d1) = true := by simp; omega
 obtain ⟨R, hR⟩ : ∃ R, resV 14 d0 d1 d2 = R := ⟨_, rfl⟩;rw [hR] at key ⊢;clear hR h0 h1 f0;unfold RsRes;go_enter Tryz.func156, Tryz.ntmps156;go_wp2_with fail;refine wp_region_calm (fun _ w' => w'.cell? { block := g, off := 0 } = some (.int .i64 d0) ∧ w'.cell? { block := g, off := 1 } = some (.int .i64 d1)) (fun _ => false) [0, 1, 2, 3, 4, 5, 6, 7, 8, 9, 10, 11, 12, 13, 14] 0 (by kernel_rfl) (by kernel_rfl) ?hst ?hS0 (fun w0 h0 => ?_)
 case hst => exact fun _ _ _ h r => ⟨r.cell h.1, r.cell h.2⟩
 case hS0 => exact ⟨by go_simp, by go_simp⟩
 iterate 15
  refine wpCalm_go rfl (by kernel_rfl) (fun K hK => ?_);apply Exists.intro;refine ⟨fun M w hM hS => ?_, hK _ ?_⟩
  ·have hc0 := hS.1;have hc1 := hS.2;unfold calmAt;go_simp;exact ⟨rfl, Rel.refl _⟩
  clear hK K
 refine wpAnyR_end (by kernel_rfl) (fun w3 h3' => ?_);(try simp only [Act.put, zla, zlb, zlc]);have h3 := h0.trans h3';clear h0 h3';have kz3 := h3.size;(try simp only [zsa, zsc, zsd] at kz3);have H3 := Hj h3;clear h3;go_wp2
 go_ret2
 exact ⟨_, _, rfl, key.out.1, key.out.2, H3.out⟩
set_option maxRecDepth 20000 in
theorem res14_24 (d0 d1 d2 : Int) (g cap : Nat) (w : World) (hg : g < w.heap.size) (h0 : 1 ≤ d0 ∧ d0 ≤ 4) (h1 : 1 ≤ d1 ∧ d1 ≤ 4) (c0 : w.cell? ⟨g, 0, none⟩ = some (.int .i64 d0)) (c1 : w.cell? ⟨g, 1, none⟩ = some (.int .i64 d1)) (f0 : ¬ d0 = d1) :
  Calls Tryz.prog 156 #[.int .i64 14, .slice (some ⟨g, 0, none⟩) 2 cap] w (RsRes (resV 14 d0 d1 d2) w) := by
 have key : Hid ((false) = (!(resV 14 d0 d1 d2 == 0)) ∧ ((false) = true → 1 = resV 14 d0 d1 d2)) := by
  show _ ∧ _
  have e2 : resV 14 d0 d1 d2 = resV 14 d0 d1 1 := rfl;rw [e2];clear c0 c1 hg
  rcases (show d0 = 1 ∨ d0 = 2 ∨ d0 = 3 ∨ d0 = 4 by omega) with rfl | rfl | rfl | rfl <;>
  rcases (show d1 = 1 ∨ d1 = 2 ∨ d1 = 3 ∨ d1 = 4 by omega) with rfl | rfl | rfl | rfl <;>
  first | decide | (exfalso; omega)
 have b0 : (d0 == d1) = false := by simp; omega
 obtain ⟨R, hR⟩ : ∃ R, resV 14 d0 d1 d2 = R := ⟨_, rfl⟩;rw [hR] at key ⊢;clear hR h0 h1 f0;unfold RsRes;go_enter Tryz.func156, Tryz.ntmps156;go_wp2_with fail;refine wp_region_calm (fun _ w' => w'.cell? { block := g, off := 0 } = some (.int .i64 d0) ∧ w'.cell? { block := g, off := 1 } = some (.int .i64 d1)) (fun _ => false) [0, 1, 2, 3, 4, 5, 6, 7, 8, 9, 10, 11, 12, 13, 14] 0 (by kernel_rfl) (by kernel_rfl) ?hst ?hS0 (fun w0 h0 => ?_)
 case hst => exact fun _ _ _ h r => ⟨r.cell h.1, r.cell h.2⟩
 case hS0 => exact ⟨by go_simp, by go_simp⟩
 iterate 8
  refine wpCalm_go rfl (by kernel_rfl) (fun K hK => ?_);apply Exists.intro;refine ⟨fun M w hM hS => ?_, hK _ ?_⟩
  ·have hc0 := hS.1;have hc1 := hS.2;unfold calmAt;go_simp;exact ⟨rfl, Rel.refl _⟩
  clear hK K
 iterate 4 (refine wpCalm_no rfl (by kernel_rfl) (fun K hK => hK _ ?_); clear hK K)
 iterate 3
  refine wpCalm_go rfl (by kernel_rfl) (fun K hK => ?_);apply Exists.intro;refine ⟨fun M w hM hS => ?_, hK _ ?_⟩
  ·have hc0 := hS.1;have hc1 := hS.2;unfold calmAt;go_simp;exact ⟨rfl, Rel.refl _⟩
  clear hK K
 refine wpAnyR_end (by kernel_rfl) (fun w3 h3' => ?_);(try simp only [Act.put, zla, zlb, zlc]);have h3 := h0.trans h3';clear h0 h3';have kz3 := h3.size;(try simp only [zsa, zsc, zsd] at kz3);have H3 := Hj h3;clear h3;go_wp2
 go_ret2
 exact ⟨_, _, rfl, key.out.1, key.out.2, H3.out⟩
set_option maxRecDepth 20000 in
theorem res15_25 (d0 d1 d2 : Int) (g cap : Nat) (w : World) (hg : g < w.heap.size) (h0 : 1 ≤ d0 ∧ d0 ≤ 4) (h1 : 1 ≤ d1 ∧ d1 ≤ 4) (c0 : w.cell? ⟨g, 0, none⟩ = some (.int .i64 d0)) (c1 : w.cell? ⟨g, 1, none⟩ = some (.int .i64 d1)) (f0 : d0 = d1) :
  Calls Tryz.prog 156 #[.int .i64 15, .slice (some ⟨g, 0, none⟩) 2 cap] w (RsRes (resV 15 d0 d1 d2) w) := by
 have key : Hid (((d0 != 1)) = (!(resV 15 d0 d1 d2 == 0)) ∧ (((d0 != 1)) = true → 1 = resV 15 d0 d1 d2)) := by
  show _ ∧ _
  have e2 : resV 15 d0 d1 d2 = resV 15 d0 d1 1 := rfl;rw [e2];clear c0 c1 hg
  rcases (show d0 = 1 ∨ d0 = 2 ∨ d0 = 3 ∨ d0 = 4 by omega) with rfl | rfl | rfl | rfl <;>
  rcases (show d1 = 1 ∨ d1 = 2 ∨ d1 = 3 ∨ d1 = 4 by omega) with rfl | rfl | rfl | rfl <;>
  first | decide | (exfalso; omega)
 have b0 : (d0 == d1) = true := by simp; omega
 obtain ⟨R, hR⟩ : ∃ R, resV 15 d0 d1 d2 = R := ⟨_, rfl⟩;rw [hR] at key ⊢;clear hR h0 h1 f0;unfold RsRes;go_enter Tryz.func156, Tryz.ntmps156;go_wp2_with fail;refine wp_region_calm (fun _ w' => w'.cell? { block := g, off := 0 } = some (.int .i64 d0) ∧ w'.cell? { block := g, off := 1 } = some (.int .i64 d1)) (fun _ => false) [0, 1, 2, 3, 4, 5, 6, 7, 8, 9, 10, 11, 12, 13, 14] 0 (by kernel_rfl) (by kernel_rfl) ?hst ?hS0 (fun w0 h0 => ?_)
 case hst => exact fun _ _ _ h r => ⟨r.cell h.1, r.cell h.2⟩
 case hS0 => exact ⟨by go_simp, by go_simp⟩
 iterate 15
  refine wpCalm_go rfl (by kernel_rfl) (fun K hK => ?_);apply Exists.intro;refine ⟨fun M w hM hS => ?_, hK _ ?_⟩
  ·have hc0 := hS.1;have hc1 := hS.2;unfold calmAt;go_simp;exact ⟨rfl, Rel.refl _⟩
  clear hK K
 refine wpAnyR_end (by kernel_rfl) (fun w3 h3' => ?_);(try simp only [Act.put, zla, zlb, zlc]);have h3 := h0.trans h3';clear h0 h3';have kz3 := h3.size;(try simp only [zsa, zsc, zsd] at kz3);have H3 := Hj h3;clear h3;go_wp2
 go_ret2
 exact ⟨_, _, rfl, key.out.1, key.out.2, H3.out⟩
set_option maxRecDepth 20000 in
theorem res15_26 (d0 d1 d2 : Int) (g cap : Nat) (w : World) (hg : g < w.heap.size) (h0 : 1 ≤ d0 ∧ d0 ≤ 4) (h1 : 1 ≤ d1 ∧ d1 ≤ 4) (c0 : w.cell? ⟨g, 0, none⟩ = some (.int .i64 d0)) (c1 : w.cell? ⟨g, 1, none⟩ = some (.int .i64 d1)) (f0 : ¬ d0 = d1) :
  Calls Tryz.prog 156 #[.int .i64 15, .slice (some ⟨g, 0, none⟩) 2 cap] w (RsRes (resV 15 d0 d1 d2) w) := by
 have key : Hid ((false) = (!(resV 15 d0 d1 d2 == 0)) ∧ ((false) = true → 1 = resV 15 d0 d1 d2)) := by
  show _ ∧ _
  have e2 : resV 15 d0 d1 d2 = resV 15 d0 d1 1 := rfl;rw [e2];clear c0 c1 hg
  rcases (show d0 = 1 ∨ d0 = 2 ∨ d0 = 3 ∨ d0 = 4 by omega) with rfl | rfl | rfl | rfl <;>
  rcases (show d1 = 1 ∨ d1 = 2 ∨ d1 = 3 ∨ d1 = 4 by omega) with rfl | rfl | rfl | rfl <;>
  first | decide | (exfalso; omega)
 have b0 : (d0 == d1) = false := by simp; omega
 obtain ⟨R, hR⟩ : ∃ R, resV 15 d0 d1 d2 = R := ⟨_, rfl⟩;rw [hR] at key ⊢;clear hR h0 h1 f0;unfold RsRes;go_enter Tryz.func156, Tryz.ntmps156;go_wp2_with fail;refine wp_region_calm (fun _ w' => w'.cell? { block := g, off := 0 } = some (.int .i64 d0) ∧ w'.cell? { block := g, off := 1 } = some (.int .i64 d1)) (fun _ => false) [0, 1, 2, 3, 4, 5, 6, 7, 8, 9, 10, 11, 12, 13, 14] 0 (by kernel_rfl) (by kernel_rfl) ?hst ?hS0 (fun w0 h0 => ?_)
 case hst => exact fun _ _ _ h r => ⟨r.cell h.1, r.cell h.2⟩
 case hS0 => exact ⟨by go_simp, by go_simp⟩
 iterate 8
  refine wpCalm_go rfl (by kernel_rfl) (fun K hK => ?_);apply Exists.intro;refine ⟨fun M w hM hS => ?_, hK _ ?_⟩
  ·have hc0 := hS.1;have hc1 := hS.2;unfold calmAt;go_simp;exact ⟨rfl, Rel.refl _⟩
  clear hK K
 iterate 4 (refine wpCalm_no rfl (by kernel_rfl) (fun K hK => hK _ ?_); clear hK K)
 iterate 3
  refine wpCalm_go rfl (by kernel_rfl) (fun K hK => ?_);apply Exists.intro;refine ⟨fun M w hM hS => ?_, hK _ ?_⟩
  ·have hc0 := hS.1;have hc1 := hS.2;unfold calmAt;go_simp;exact ⟨rfl, Rel.refl _⟩
  clear hK K
 refine wpAnyR_end (by kernel_rfl) (fun w3 h3' => ?_);(try simp only [Act.put, zla, zlb, zlc]);have h3 := h0.trans h3';clear h0 h3';have kz3 := h3.size;(try simp only [zsa, zsc, zsd] at kz3);have H3 := Hj h3;clear h3;go_wp2
 go_ret2
 exact ⟨_, _, rfl, key.out.1, key.out.2, H3.out⟩
set_option maxRecDepth 20000 in
theorem res16_27 (d0 d1 d2 : Int) (g cap : Nat) (w : World) (hg : g < w.heap.size) (h0 : 1 ≤ d0 ∧ d0 ≤ 4) (h1 : 1 ≤ d1 ∧ d1 ≤ 4) (c0 : w.cell? ⟨g, 0, none⟩ = some (.int .i64 d0)) (c1 : w.cell? ⟨g, 1, none⟩ = some (.int .i64 d1)) (f0 : d0 = d1) :
  Calls Tryz.prog 156 #[.int .i64 16, .slice (some ⟨g, 0, none⟩) 2 cap] w (RsRes (resV 16 d0 d1 d2) w) := by
 have key : Hid (((d0 != 1)) = (!(resV 16 d0 d1 d2 == 0)) ∧ (((d0 != 1)) = true → 1 = resV 16 d0 d1 d2)) := by
  show _ ∧ _
  have e2 : resV 16 d0 d1 d2 = resV 16 d0 d1 1 := rfl;rw [e2];clear c0 c1 hg
  rcases (show d0 = 1 ∨ d0 = 2 ∨ d0 = 3 ∨ d0 = 4 by omega) with rfl | rfl | rfl | rfl <;>
  rcases (show d1 = 1 ∨ d1 = 2 ∨ d1 = 3 ∨ d1 = 4 by omega) with rfl | rfl | rfl | rfl <;>
  first | decide | (exfalso; omega)
 have b0 : (d0 == d1) = true := by simp; omega
 obtain ⟨R, hR⟩ : ∃ R, resV 16 d0 d1 d2 = R := ⟨_, rfl⟩;rw [hR] at key ⊢;clear hR h0 h1 f0;unfold RsRes;go_enter Tryz.func156, Tryz.ntmps156;go_wp2_with fail;refine wp_region_calm (fun _ w' => w'.cell? { block := g, off := 0 } = some (.int .i64 d0) ∧ w'.cell? { block := g, off := 1 } = some (.int .i64 d1)) (fun _ => false) [0, 1, 2, 3, 4, 5, 6, 7, 8, 9, 10, 11, 12, 13, 14] 0 (by kernel_rfl) (by kernel_rfl) ?hst ?hS0 (fun w0 h0 => ?_)
 case hst => exact fun _ _ _ h r => ⟨r.cell h.1, r.cell h.2⟩
 case hS0 => exact ⟨by go_simp, by go_simp⟩
 iterate 15
  refine wpCalm_go rfl (by kernel_rfl) (fun K hK => ?_);apply Exists.intro;refine ⟨fun M w hM hS => ?_, hK _ ?_⟩
  ·have hc0 := hS.1;have hc1 := hS.2;unfold calmAt;go_simp;exact ⟨rfl, Rel.refl _⟩
  clear hK K
 refine wpAnyR_end (by kernel_rfl) (fun w3 h3' => ?_);(try simp only [Act.put, zla, zlb, zlc]);have h3 := h0.trans h3';clear h0 h3';have kz3 := h3.size;(try simp only [zsa, zsc, zsd] at kz3);have H3 := Hj h3;clear h3;go_wp2
 go_ret2
 exact ⟨_, _, rfl, key.out.1, key.out.2, H3.out⟩
set_option maxRecDepth 20000 in
theorem res16_28 (d0 d1 d2 : Int) (g cap : Nat) (w : World) (hg : g < w.heap.size) (h0 : 1 ≤ d0 ∧ d0 ≤ 4) (h1 : 1 ≤ d1 ∧ d1 ≤ 4) (c0 : w.cell? ⟨g, 0, none⟩ = some (.int .i64 d0)) (c1 : w.cell? ⟨g, 1, none⟩ = some (.int .i64 d1)) (f0 : ¬ d0 = d1) :
  Calls Tryz.prog 156 #[.int .i64 16, .slice (some ⟨g, 0, none⟩) 2 cap] w (RsRes (resV 16 d0 d1 d2) w) := by
 have key : Hid ((false) = (!(resV 16 d0 d1 d2 == 0)) ∧ ((false) = true → 1 = resV 16 d0 d1 d2)) := by
  show _ ∧ _
  have e2 : resV 16 d0 d1 d2 = resV 16 d0 d1 1 := rfl;rw [e2];clear c0 c1 hg
  rcases (show d0 = 1 ∨ d0 = 2 ∨ d0 = 3 ∨ d0 = 4 by omega) with rfl | rfl | rfl | rfl <;>
  rcases (show d1 = 1 ∨ d1 = 2 ∨ d1 = 3 ∨ d1 = 4 by omega) with rfl | rfl | rfl | rfl <;>
  first | decide | (exfalso; omega)
 have b0 : (d0 == d1) = false := by simp; omega
 obtain ⟨R, hR⟩ : ∃ R, resV 16 d0 d1 d2 = R := ⟨_, rfl⟩;rw [hR] at key ⊢;clear hR h0 h1 f0;unfold RsRes;go_enter Tryz.func156, Tryz.ntmps156;go_wp2_with fail;refine wp_region_calm (fun _ w' => w'.cell? { block := g, off := 0 } = some (.int .i64 d0) ∧ w'.cell? { block := g, off := 1 } = some (.int .i64 d1)) (fun _ => false) [0, 1, 2, 3, 4, 5, 6, 7, 8, 9, 10, 11, 12, 13, 14] 0 (by kernel_rfl) (by kernel_rfl) ?hst ?hS0 (fun w0 h0 => ?_)
 case hst => exact fun _ _ _ h r => ⟨r.cell h.1, r.cell h.2⟩
 case hS0 => exact ⟨by go_simp, by go_simp⟩
 iterate 8
  refine wpCalm_go rfl (by kernel_rfl) (fun K hK => ?_);apply Exists.intro;refine ⟨fun M w hM hS => ?_, hK _ ?_⟩
  ·have hc0 := hS.1;have hc1 := hS.2;unfold calmAt;go_simp;exact ⟨rfl, Rel.refl _⟩
  clear hK K
 iterate 4 (refine wpCalm_no rfl (by kernel_rfl) (fun K hK => hK _ ?_); clear hK K)
 iterate 3
  refine wpCalm_go rfl (by kernel_rfl) (fun K hK => ?_);apply Exists.intro;refine ⟨fun M w hM hS => ?_, hK _ ?_⟩
  ·have hc0 := hS.1;have hc1 := hS.2;unfold calmAt;go_simp;exact ⟨rfl, Rel.refl _⟩
  clear hK K
 refine wpAnyR_end (by kernel_rfl) (fun w3 h3' => ?_);(try simp only [Act.put, zla, zlb, zlc]);have h3 := h0.trans h3';clear h0 h3';have kz3 := h3.size;(try simp only [zsa, zsc, zsd] at kz3);have H3 := Hj h3;clear h3;go_wp2
 go_ret2
 exact ⟨_, _, rfl, key.out.1, key.out.2, H3.out⟩
set_option maxRecDepth 20000 in
theorem res17_29 (d0 d1 d2 : Int) (g cap : Nat) (w : World) (hg : g < w.heap.size) (h0 : 1 ≤ d0 ∧ d0 ≤ 4) (h1 : 1 ≤ d1 ∧ d1 ≤ 4) (c0 : w.cell? ⟨g, 0, none⟩ = some (.int .i64 d0)) (c1 : w.cell? ⟨g, 1, none⟩ = some (.int .i64 d1)) (f0 : d0 = 1) :
  Calls Tryz.prog 156 #[.int .i64 17, .slice (some ⟨g, 0, none⟩) 2 cap] w (RsRes (resV 17 d0 d1 d2) w) := by
 have key : Hid (((d1 == 1)) = (!(resV 17 d0 d1 d2 == 0)) ∧ (((d1 == 1)) = true → 1 = resV 17 d0 d1 d2)) := by
  show _ ∧ _
  have e2 : resV 17 d0 d1 d2 = resV 17 d0 d1 1 := rfl;rw [e2];clear c0 c1 hg
  rcases (show d0 = 1 ∨ d0 = 2 ∨ d0 = 3 ∨ d0 = 4 by omega) with rfl | rfl | rfl | rfl <;>
  rcases (show d1 = 1 ∨ d1 = 2 ∨ d1 = 3 ∨ d1 = 4 by omega) with rfl | rfl | rfl | rfl <;>
  first | decide | (exfalso; omega)
 have b0 : (d0 == 1) = true := by simp; omega
 obtain ⟨R, hR⟩ : ∃ R, resV 17 d0 d1 d2 = R := ⟨_, rfl⟩;rw [hR] at key ⊢;clear hR h0 h1 f0;unfold RsRes;go_enter Tryz.func156, Tryz.ntmps156;go_wp2_with fail;refine wp_region_calm (fun _ w' => w'.cell? { block := g, off := 0 } = some (.int .i64 d0) ∧ w'.cell? { block := g, off := 1 } = some (.int .i64 d1)) (fun _ => false) [0, 1, 2, 3, 4, 5, 6, 7, 8, 9, 10, 11] 0 (by kernel_rfl) (by kernel_rfl) ?hst ?hS0 (fun w0 h0 => ?_)
 case hst => exact fun _ _ _ h r => ⟨r.cell h.1, r.cell h.2⟩
 case hS0 => exact ⟨by go_simp, by go_simp⟩
 iterate 12
  refine wpCalm_go rfl (by kernel_rfl) (fun K hK => ?_);apply Exists.intro;refine ⟨fun M w hM hS => ?_, hK _ ?_⟩
  ·have hc0 := hS.1;have hc1 := hS.2;unfold calmAt;go_simp;exact ⟨rfl, Rel.refl _⟩
  clear hK K
 refine wpAnyR_end (by kernel_rfl) (fun w3 h3' => ?_);(try simp only [Act.put, zla, zlb, zlc]);have h3 := h0.trans h3';clear h0 h3';have kz3 := h3.size;(try simp only [zsa, zsc, zsd] at kz3);have H3 := Hj h3;clear h3;go_wp2
 go_ret2
 exact ⟨_, _, rfl, key.out.1, key.out.2, H3.out⟩
set_option maxRecDepth 20000 in
theorem res17_30 (d0 d1 d2 : Int) (g cap : Nat) (w : World) (hg : g < w.heap.size) (h0 : 1 ≤ d0 ∧ d0 ≤ 4) (h1 : 1 ≤ d1 ∧ d1 ≤ 4) (c0 : w.cell? ⟨g, 0, none⟩ = some (.int .i64 d0)) (c1 : w.cell? ⟨g, 1, none⟩ = some (.int .i64 d1)) (f0 : ¬ d0 = 1) :
  Calls Tryz.prog 156 #[.int .i64 17, .slice (some ⟨g, 0, none⟩) 2 cap] w (RsRes (resV 17 d0 d1 d2) w) := by
 have key : Hid ((false) = (!(resV 17 d0 d1 d2 == 0)) ∧ ((false) = true → 1 = resV 17 d0 d1 d2)) := by
  show _ ∧ _
  have e2 : resV 17 d0 d1 d2 = resV 17 d0 d1 1 := rfl;rw [e2];clear c0 c1 hg
  rcases (show d0 = 1 ∨ d0 = 2 ∨ d0 = 3 ∨ d0 = 4 by omega) with rfl | rfl | rfl | rfl <;>
  rcases (show d1 = 1 ∨ d1 = 2 ∨ d1 = 3 ∨ d1 = 4 by omega) with rfl | rfl | rfl | rfl <;>
  first | decide | (exfalso; omega)
 have b0 : (d0 == 1) = false := by simp; omega
 obtain ⟨R, hR⟩ : ∃ R, resV 17 d0 d1 d2 = R := ⟨_, rfl⟩;rw [hR] at key ⊢;clear hR h0 h1 f0;unfold RsRes;go_enter Tryz.func156, Tryz.ntmps156;go_wp2_with fail;refine wp_region_calm (fun _ w' => w'.cell? { block := g, off := 0 } = some (.int .i64 d0) ∧ w'.cell? { block := g, off := 1 } = some (.int .i64 d1)) (fun _ => false) [0, 1, 2, 3, 4, 5, 6, 7, 8, 9, 10, 11] 0 (by kernel_rfl) (by kernel_rfl) ?hst ?hS0 (fun w0 h0 => ?_)
 case hst => exact fun _ _ _ h r => ⟨r.cell h.1, r.cell h.2⟩
 case hS0 => exact ⟨by go_simp, by go_simp⟩
 iterate 5
  refine wpCalm_go rfl (by kernel_rfl) (fun K hK => ?_);apply Exists.intro;refine ⟨fun M w hM hS => ?_, hK _ ?_⟩
  ·have hc0 := hS.1;have hc1 := hS.2;unfold calmAt;go_simp;exact ⟨rfl, Rel.refl _⟩
  clear hK K
 iterate 4 (refine wpCalm_no rfl (by kernel_rfl) (fun K hK => hK _ ?_); clear hK K)
 iterate 3
  refine wpCalm_go rfl (by kernel_rfl) (fun K hK => ?_);apply Exists.intro;refine ⟨fun M w hM hS => ?_, hK _ ?_⟩
  ·have hc0 := hS.1;have hc1 := hS.2;unfold calmAt;go_simp;exact ⟨rfl, Rel.refl _⟩
  clear hK K
 refine wpAnyR_end (by kernel_rfl) (fun w3 h3' => ?_);(try simp only [Act.put, zla, zlb, zlc]);have h3 := h0.trans h3';clear h0 h3';have kz3 := h3.size;(try simp only [zsa, zsc, zsd] at kz3);have H3 := Hj h3;clear h3;go_wp2
 go_ret2
 exact ⟨_, _, rfl, key.out.1, key.out.2, H3.out⟩
set_option maxRecDepth 20000 in
theorem res18_31 (d0 d1 d2 : Int) (g cap : Nat) (w : World) (hg : g < w.heap.size) (h0 : 1 ≤ d0 ∧ d0 ≤ 4) (h1 : 1 ≤ d1 ∧ d1 ≤ 4) (c0 : w.cell? ⟨g, 0, none⟩ = some (.int .i64 d0)) (c1 : w.cell? ⟨g, 1, none⟩ = some (.int .i64 d1)) (f0 : d0 = 1) :
  Calls Tryz.prog 156 #[.int .i64 18, .slice (some ⟨g, 0, none⟩) 2 cap] w (RsRes (resV 18 d0 d1 d2) w) := by
 have key : Hid (((d1 == 1)) = (!(resV 18 d0 d1 d2 == 0)) ∧ (((d1 == 1)) = true → 1 = resV 18 d0 d1 d2)) := by
  show _ ∧ _
  have e2 : resV 18 d0 d1 d2 = resV 18 d0 d1 1 := rfl;rw [e2];clear c0 c1 hg
  rcases (show d0 = 1 ∨ d0 = 2 ∨ d0 = 3 ∨ d0 = 4 by omega) with rfl | rfl | rfl | rfl <;>
  rcases (show d1 = 1 ∨ d1 = 2 ∨ d1 = 3 ∨ d1 = 4 by omega) with rfl | rfl | rfl | rfl <;>
  first | decide | (exfalso; omega)
 have b0 : (d0 == 1) = true := by simp; omega
 obtain ⟨R, hR⟩ : ∃ R, resV 18 d0 d1 d2 = R := ⟨_, rfl⟩;rw [hR] at key ⊢;clear hR h0 h1 f0;unfold RsRes;go_enter Tryz.func156, Tryz.ntmps156;go_wp2_with fail;refine wp_region_calm (fun _ w' => w'.cell? { block := g, off := 0 } = some (.int .i64 d0) ∧ w'.cell? { block := g, off := 1 } = some (.int .i64 d1)) (fun _ => false) [0, 1, 2, 3, 4, 5, 6, 7, 8, 9, 10, 11] 0 (by kernel_rfl) (by kernel_rfl) ?hst ?hS0 (fun w0 h0 => ?_)
 case hst => exact fun _ _ _ h r => ⟨r.cell h.1, r.cell h.2⟩
 case hS0 => exact ⟨by go_simp, by go_simp⟩
 iterate 12
  refine wpCalm_go rfl (by kernel_rfl) (fun K hK => ?_);apply Exists.intro;refine ⟨fun M w hM hS => ?_, hK _ ?_⟩
  ·have hc0 := hS.1;have hc1 := hS.2;unfold calmAt;go_simp;exact ⟨rfl, Rel.refl _⟩
  clear hK K
 refine wpAnyR_end (by kernel_rfl) (fun w3 h3' => ?_);(try simp only [Act.put, zla, zlb, zlc]);have h3 := h0.trans h3';clear h0 h3';have kz3 := h3.size;(try simp only [zsa, zsc, zsd] at kz3);have H3 := Hj h3;clear h3;go_wp2
 go_ret2
 exact ⟨_, _, rfl, key.out.1, key.out.2, H3.out⟩
set_option maxRecDepth 20000 in
theorem res18_32 (d0 d1 d2 : Int) (g cap : Nat) (w : World) (hg : g < w.heap.size) (h0 : 1 ≤ d0 ∧ d0 ≤ 4) (h1 : 1 ≤ d1 ∧ d1 ≤ 4) (c0 : w.cell? ⟨g, 0, none⟩ = some (.int .i64 d0)) (c1 : w.cell? ⟨g, 1, none⟩ = some (.int .i64 d1)) (f0 : ¬ d0 = 1) :
  Calls Tryz.prog 156 #[.int .i64 18, .slice (some ⟨g, 0, none⟩) 2 cap] w (RsRes (resV 18 d0 d1 d2) w) := by
 have key : Hid ((false) = (!(resV 18 d0 d1 d2 == 0)) ∧ ((false) = true → 1 = resV 18 d0 d1 d2)) := by
  show _ ∧ _
  have e2 : resV 18 d0 d1 d2 = resV 18 d0 d1 1 := rfl;rw [e2];clear c0 c1 hg
  rcases (show d0 = 1 ∨ d0 = 2 ∨ d0 = 3 ∨ d0 = 4 by omega) with rfl | rfl | rfl | rfl <;>
  rcases (show d1 = 1 ∨ d1 = 2 ∨ d1 = 3 ∨ d1 = 4 by omega) with rfl | rfl | rfl | rfl <;>
  first | decide | (exfalso; omega)
 have b0 : (d0 == 1) = false := by simp; omega
 obtain ⟨R, hR⟩ : ∃ R, resV 18 d0 d1 d2 = R := ⟨_, rfl⟩;rw [hR] at key ⊢;clear hR h0 h1 f0;unfold RsRes;go_enter Tryz.func156, Tryz.ntmps156;go_wp2_with fail;refine wp_region_calm (fun _ w' => w'.cell? { block := g, off := 0 } = some (.int .i64 d0) ∧ w'.cell? { block := g, off := 1 } = some (.int .i64 d1)) (fun _ => false) [0, 1, 2, 3, 4, 5, 6, 7, 8, 9, 10, 11] 0 (by kernel_rfl) (by kernel_rfl) ?hst ?hS0 (fun w0 h0 => ?_)
 case hst => exact fun _ _ _ h r => ⟨r.cell h.1, r.cell h.2⟩
 case hS0 => exact ⟨by go_simp, by go_simp⟩
 iterate 5
  refine wpCalm_go rfl (by kernel_rfl) (fun K hK => ?_);apply Exists.intro;refine ⟨fun M w hM hS => ?_, hK _ ?_⟩
  ·have hc0 := hS.1;have hc1 := hS.2;unfold calmAt;go_simp;exact ⟨rfl, Rel.refl _⟩
  clear hK K
 iterate 4 (refine wpCalm_no rfl (by kernel_rfl) (fun K hK => hK _ ?_); clear hK K)
 iterate 3
  refine wpCalm_go rfl (by kernel_rfl) (fun K hK => ?_);apply Exists.intro;refine ⟨fun M w hM hS => ?_, hK _ ?_⟩
  ·have hc0 := hS.1;have hc1 := hS.2;unfold calmAt;go_simp;exact ⟨rfl, Rel.refl _⟩
  clear hK K
 refine wpAnyR_end (by kernel_rfl) (fun w3 h3' => ?_);(try simp only [Act.put, zla, zlb, zlc]);have h3 := h0.trans h3';clear h0 h3';have kz3 := h3.size;(try simp only [zsa, zsc, zsd] at kz3);have H3 := Hj h3;clear h3;go_wp2
 go_ret2
 exact ⟨_, _, rfl, key.out.1, key.out.2, H3.out⟩
set_option maxRecDepth 20000 in
theorem res21_33 (d0 d1 d2 : Int) (g cap : Nat) (w : World) (hg : g < w.heap.size) (h0 : 1 ≤ d0 ∧ d0 ≤ 4) (h1 : 1 ≤ d1 ∧ d1 ≤ 4) (h2 : 1 ≤ d2 ∧ d2 ≤ 4) (c0 : w.cell? ⟨g, 0, none⟩ = some (.int .i64 d0)) (c1 : w.cell? ⟨g, 1, none⟩ = some (.int .i64 d1)) (c2 : w.cell? ⟨g, 2, none⟩ = some (.int .i64 d2)) (f0 : d0 = 1) :
  Calls Tryz.prog 156 #[.int .i64 21, .slice (some ⟨g, 0, none⟩) 3 cap] w (RsRes (resV 21 d0 d1 d2) w) := by
 have key : Hid (((d1 == d2)) = (!(resV 21 d0 d1 d2 == 0)) ∧ (((d1 == d2)) = true → d1 = resV 21 d0 d1 d2)) := by
  show _ ∧ _
  clear c0 c1 c2 hg
  rcases (show d0 = 1 ∨ d0 = 2 ∨ d0 = 3 ∨ d0 = 4 by omega) with rfl | rfl | rfl | rfl <;>
  rcases (show d1 = 1 ∨ d1 = 2 ∨ d1 = 3 ∨ d1 = 4 by omega) with rfl | rfl | rfl | rfl <;>
  rcases (show d2 = 1 ∨ d2 = 2 ∨ d2 = 3 ∨ d2 = 4 by omega) with rfl | rfl | rfl | rfl <;>
  first | decide | (exfalso; omega)
 have b0 : (d0 == 1) = true := by simp; omega
 obtain ⟨R, hR⟩ : ∃ R, resV 21 d0 d1 d2 = R := ⟨_, rfl⟩;rw [hR] at key ⊢;clear hR h0 h1 h2 f0;unfold RsRes;go_enter Tryz.func156, Tryz.ntmps156;go_wp2_with fail;refine wp_region_calm (fun _ w' => w'.cell? { block := g, off := 0 } = some (.int .i64 d0) ∧ w'.cell? { block := g, off := 1 } = some (.int .i64 d1) ∧ w'.cell? { block := g, off := 2 } = some (.int .i64 d2)) (fun _ => false) [0, 1, 2, 3, 4, 5, 6, 7, 8, 9, 10, 11, 12, 13, 14, 15, 16, 17] 0 (by kernel_rfl) (by kernel_rfl) ?hst ?hS0 (fun w0 h0 => ?_)
 case hst => exact fun _ _ _ h r => ⟨r.cell h.1, r.cell h.2.1, r.cell h.2.2⟩
 case hS0 => exact ⟨by go_simp, by go_simp, by go_simp⟩
 iterate 18
  refine wpCalm_go rfl (by kernel_rfl) (fun K hK => ?_);apply Exists.intro;refine ⟨fun M w hM hS => ?_, hK _ ?_⟩
  ·have hc0 := hS.1;have hc1 := hS.2.1;have hc2 := hS.2.2;unfold calmAt;go_simp;exact ⟨rfl, Rel.refl _⟩
  clear hK K
 refine wpAnyR_end (by kernel_rfl) (fun w3 h3' => ?_);(try simp only [Act.put, zla, zlb, zlc]);have h3 := h0.trans h3';clear h0 h3';have kz3 := h3.size;(try simp only [zsa, zsc, zsd] at kz3);have H3 := Hj h3;clear h3;go_wp2
 go_ret2
 exact ⟨_, _, rfl, key.out.1, key.out.2, H3.out⟩
set_option maxRecDepth 20000 in
theorem res21_34 (d0 d1 d2 : Int) (g cap : Nat) (w : World) (hg : g < w.heap.size) (h0 : 1 ≤ d0 ∧ d0 ≤ 4) (h1 : 1 ≤ d1 ∧ d1 ≤ 4) (h2 : 1 ≤ d2 ∧ d2 ≤ 4) (c0 : w.cell? ⟨g, 0, none⟩ = some (.int .i64 d0)) (c1 : w.cell? ⟨g, 1, none⟩ = some (.int .i64 d1)) (c2 : w.cell? ⟨g, 2, none⟩ = some (.int .i64 d2)) (f0 : ¬ d0 = 1) :
  Calls Tryz.prog 156 #[.int .i64 21, .slice (some ⟨g, 0, none⟩) 3 cap] w (RsRes (resV 21 d0 d1 d2) w) := by
 have key : Hid ((false) = (!(resV 21 d0 d1 d2 == 0)) ∧ ((false) = true → d1 = resV 21 d0 d1 d2)) := by
  show _ ∧ _
  clear c0 c1 c2 hg
  rcases (show d0 = 1 ∨ d0 = 2 ∨ d0 = 3 ∨ d0 = 4 by omega) with rfl | rfl | rfl | rfl <;>
  rcases (show d1 = 1 ∨ d1 = 2 ∨ d1 = 3 ∨ d1 = 4 by omega) with rfl | rfl | rfl | rfl <;>
  rcases (show d2 = 1 ∨ d2 = 2 ∨ d2 = 3 ∨ d2 = 4 by omega) with rfl | rfl | rfl | rfl <;>
  first | decide | (exfalso; omega)
 have b0 : (d0 == 1) = false := by simp; omega
 obtain ⟨R, hR⟩ : ∃ R, resV 21 d0 d1 d2 = R := ⟨_, rfl⟩;rw [hR] at key ⊢;clear hR h0 h1 h2 f0;unfold RsRes;go_enter Tryz.func156, Tryz.ntmps156;go_wp2_with fail;refine wp_region_calm (fun _ w' => w'.cell? { block := g, off := 0 } = some (.int .i64 d0) ∧ w'.cell? { block := g, off := 1 } = some (.int .i64 d1) ∧ w'.cell? { block := g, off := 2 } = some (.int .i64 d2)) (fun _ => false) [0, 1, 2, 3, 4, 5, 6, 7, 8, 9, 10, 11, 12, 13, 14, 15, 16, 17] 0 (by kernel_rfl) (by kernel_rfl) ?hst ?hS0 (fun w0 h0 => ?_)
 case hst => exact fun _ _ _ h r => ⟨r.cell h.1, r.cell h.2.1, r.cell h.2.2⟩
 case hS0 => exact ⟨by go_simp, by go_simp, by go_simp⟩
 iterate 8
  refine wpCalm_go rfl (by kernel_rfl) (fun K hK => ?_);apply Exists.intro;refine ⟨fun M w hM hS => ?_, hK _ ?_⟩
  ·have hc0 := hS.1;have hc1 := hS.2.1;have hc2 := hS.2.2;unfold calmAt;go_simp;exact ⟨rfl, Rel.refl _⟩
  clear hK K
 iterate 7 (refine wpCalm_no rfl (by kernel_rfl) (fun K hK => hK _ ?_); clear hK K)
 iterate 3
  refine wpCalm_go rfl (by kernel_rfl) (fun K hK => ?_);apply Exists.intro;refine ⟨fun M w hM hS => ?_, hK _ ?_⟩
  ·have hc0 := hS.1;have hc1 := hS.2.1;have hc2 := hS.2.2;unfold calmAt;go_simp;exact ⟨rfl, Rel.refl _⟩
  clear hK K
 refine wpAnyR_end (by kernel_rfl) (fun w3 h3' => ?_);(try simp only [Act.put, zla, zlb, zlc]);have h3 := h0.trans h3';clear h0 h3';have kz3 := h3.size;(try simp only [zsa, zsc, zsd] at kz3);have H3 := Hj h3;clear h3;go_wp2
 go_ret2
 exact ⟨_, _, rfl, key.out.1, key.out.2, H3.out⟩
theorem result_any (op : Int) (n g cap : Nat) (D : Nat → Int) (w : World) (ho : 4 ≤ op ∧ op ≤ 21) (hn : (n : Int) = arI op) (hg : g < w.heap.size) (hD : ∀ i, i < n → 1 ≤ D i ∧ D i ≤ 4) (hc : ∀ i, i < n → w.cell? ⟨g, i, none⟩ = some (.int .i64 (D i))) :
  Calls Tryz.prog 156 #[.int .i64 op, .slice (some ⟨g, 0, none⟩) n cap] w (RsRes (resI op D) w) := by
 rw [resI_eq]
 rcases (show op = 4 ∨ op = 5 ∨ op = 6 ∨ op = 7 ∨ op = 8 ∨ op = 9 ∨ op = 10 ∨ op = 11 ∨ op = 12 ∨ op = 13 ∨ op = 14 ∨ op = 15 ∨ op = 16 ∨ op = 17 ∨ op = 18 ∨ op = 19 ∨ op = 20 ∨ op = 21 by omega) with rfl | rfl | rfl | rfl | rfl | rfl | rfl | rfl | rfl | rfl | rfl | rfl | rfl | rfl | rfl | rfl | rfl | rfl
 ·obtain rfl : n = 1 := by
   have : arI 4 = 1 := rfl;omega
  exact res4_0 (D 0) (D 1) (D 2) g cap w hg (hD 0 (by decide)) (hc 0 (by decide))
 ·obtain rfl : n = 1 := by
   have : arI 5 = 1 := rfl;omega
  exact res5_2 (D 0) (D 1) (D 2) g cap w hg (hD 0 (by decide)) (hc 0 (by decide))
 ·obtain rfl : n = 1 := by
   have : arI 6 = 1 := rfl;omega
  exact res6_1 (D 0) (D 1) (D 2) g cap w hg (hD 0 (by decide)) (hc 0 (by decide))
 ·obtain rfl : n = 2 := by
   have : arI 7 = 2 := rfl;omega
  by_cases f0 : D 0 = D 1
  ·exact res7_3 (D 0) (D 1) (D 2) g cap w hg (hD 0 (by decide)) (hD 1 (by decide)) (hc 0 (by decide)) (hc 1 (by decide)) f0
  ·exact res7_4 (D 0) (D 1) (D 2) g cap w hg (hD 0 (by decide)) (hD 1 (by decide)) (hc 0 (by decide)) (hc 1 (by decide)) f0
 ·obtain rfl : n = 2 := by
   have : arI 8 = 2 := rfl;omega
  by_cases f0 : D 0 = D 1
  ·exact res8_5 (D 0) (D 1) (D 2) g cap w hg (hD 0 (by decide)) (hD 1 (by decide)) (hc 0 (by decide)) (hc 1 (by decide)) f0
  ·exact res8_6 (D 0) (D 1) (D 2) g cap w hg (hD 0 (by decide)) (hD 1 (by decide)) (hc 0 (by decide)) (hc 1 (by decide)) f0
 ·obtain rfl : n = 2 := by
   have : arI 9 = 2 := rfl;omega
  by_cases f0 : D 0 = 2
  ·exact res9_11 (D 0) (D 1) (D 2) g cap w hg (hD 0 (by decide)) (hD 1 (by decide)) (hc 0 (by decide)) (hc 1 (by decide)) f0
  ·by_cases f1 : D 1 = 2
   ·exact res9_12 (D 0) (D 1) (D 2) g cap w hg (hD 0 (by decide)) (hD 1 (by decide)) (hc 0 (by decide)) (hc 1 (by decide)) f0 f1
   ·exact res9_13 (D 0) (D 1) (D 2) g cap w hg (hD 0 (by decide)) (hD 1 (by decide)) (hc 0 (by decide)) (hc 1 (by decide)) f0 f1
 ·obtain rfl : n = 2 := by
   have : arI 10 = 2 := rfl;omega
  by_cases f0 : D 1 = 2
  ·exact res10_14 (D 0) (D 1) (D 2) g cap w hg (hD 0 (by decide)) (hD 1 (by decide)) (hc 0 (by decide)) (hc 1 (by decide)) f0
  ·by_cases f1 : D 0 = D 1
   ·exact res10_15 (D 0) (D 1) (D 2) g cap w hg (hD 0 (by decide)) (hD 1 (by decide)) (hc 0 (by decide)) (hc 1 (by decide)) f0 f1
   ·exact res10_16 (D 0) (D 1) (D 2) g cap w hg (hD 0 (by decide)) (hD 1 (by decide)) (hc 0 (by decide)) (hc 1 (by decide)) f0 f1
 ·obtain rfl : n = 2 := by
   have : arI 11 = 2 := rfl;omega
  by_cases f0 : D 0 = D 1
  ·exact res11_17 (D 0) (D 1) (D 2) g cap w hg (hD 0 (by decide)) (hD 1 (by decide)) (hc 0 (by decide)) (hc 1 (by decide)) f0
  ·exact res11_18 (D 0) (D 1) (D 2) g cap w hg (hD 0 (by decide)) (hD 1 (by decide)) (hc 0 (by decide)) (hc 1 (by decide)) f0
 ·obtain rfl : n = 2 := by
   have : arI 12 = 2 := rfl;omega
  by_cases f0 : D 0 = D 1
  ·exact res12_19 (D 0) (D 1) (D 2) g cap w hg (hD 0 (by decide)) (hD 1 (by decide)) (hc 0 (by decide)) (hc 1 (by decide)) f0
  ·exact res12_20 (D 0) (D 1) (D 2) g cap w hg (hD 0 (by decide)) (hD 1 (by decide)) (hc 0 (by decide)) (hc 1 (by decide)) f0
 ·obtain rfl : n = 2 := by
   have : arI 13 = 2 := rfl;omega
  by_cases f0 : D 0 = D 1
  ·exact res13_21 (D 0) (D 1) (D 2) g cap w hg (hD 0 (by decide)) (hD 1 (by decide)) (hc 0 (by decide)) (hc 1 (by decide)) f0
  ·exact res13_22 (D 0) (D 1) (D 2) g cap w hg (hD 0 (by decide)) (hD 1 (by decide)) (hc 0 (by decide)) (hc 1 (by decide)) f0
 ·obtain rfl : n = 2 := by
   have : arI 14 = 2 := rfl;omega
  by_cases f0 : D 0 = D 1
  ·exact res14_23 (D 0) (D 1) (D 2) g cap w hg (hD 0 (by decide)) (hD 1 (by decide)) (hc 0 (by decide)) (hc 1 (by decide)) f0
  ·exact res14_24 (D 0) (D 1) (D 2) g cap w hg (hD 0 (by decide)) (hD 1 (by decide)) (hc 0 (by decide)) (hc 1 (by decide)) f0
 ·obtain rfl : n = 2 := by
   have : arI 15 = 2 := rfl;omega
  by_cases f0 : D 0 = D 1
  ·exact res15_25 (D 0) (D 1) (D 2) g cap w hg (hD 0 (by decide)) (hD 1 (by decide)) (hc 0 (by decide)) (hc 1 (by decide)) f0
  ·exact res15_26 (D 0) (D 1) (D 2) g cap w hg (hD 0 (by decide)) (hD 1 (by decide)) (hc 0 (by decide)) (hc 1 (by decide)) f0
 ·obtain rfl : n = 2 := by
   have : arI 16 = 2 := rfl;omega
  by_cases f0 : D 0 = D 1
  ·exact res16_27 (D 0) (D 1) (D 2) g cap w hg (hD 0 (by decide)) (hD 1 (by decide)) (hc 0 (by decide)) (hc 1 (by decide)) f0
  ·exact res16_28 (D 0) (D 1) (D 2) g cap w hg (hD 0 (by decide)) (hD 1 (by decide)) (hc 0 (by decide)) (hc 1 (by decide)) f0
 ·obtain rfl : n = 2 := by
   have : arI 17 = 2 := rfl;omega
  by_cases f0 : D 0 = 1
  ·exact res17_29 (D 0) (D 1) (D 2) g cap w hg (hD 0 (by decide)) (hD 1 (by decide)) (hc 0 (by decide)) (hc 1 (by decide)) f0
  ·exact res17_30 (D 0) (D 1) (D 2) g cap w hg (hD 0 (by decide)) (hD 1 (by decide)) (hc 0 (by decide)) (hc 1 (by decide)) f0
 ·obtain rfl : n = 2 := by
   have : arI 18 = 2 := rfl;omega
  by_cases f0 : D 0 = 1
  ·exact res18_31 (D 0) (D 1) (D 2) g cap w hg (hD 0 (by decide)) (hD 1 (by decide)) (hc 0 (by decide)) (hc 1 (by decide)) f0
  ·exact res18_32 (D 0) (D 1) (D 2) g cap w hg (hD 0 (by decide)) (hD 1 (by decide)) (hc 0 (by decide)) (hc 1 (by decide)) f0
 ·obtain rfl : n = 2 := by
   have : arI 19 = 2 := rfl;omega
  by_cases f0 : D 0 = D 1
  ·exact res19_7 (D 0) (D 1) (D 2) g cap w hg (hD 0 (by decide)) (hD 1 (by decide)) (hc 0 (by decide)) (hc 1 (by decide)) f0
  ·exact res19_8 (D 0) (D 1) (D 2) g cap w hg (hD 0 (by decide)) (hD 1 (by decide)) (hc 0 (by decide)) (hc 1 (by decide)) f0
 ·obtain rfl : n = 2 := by
   have : arI 20 = 2 := rfl;omega
  by_cases f0 : D 0 = D 1
  ·exact res20_9 (D 0) (D 1) (D 2) g cap w hg (hD 0 (by decide)) (hD 1 (by decide)) (hc 0 (by decide)) (hc 1 (by decide)) f0
  ·exact res20_10 (D 0) (D 1) (D 2) g cap w hg (hD 0 (by decide)) (hD 1 (by decide)) (hc 0 (by decide)) (hc 1 (by decide)) f0
 ·obtain rfl : n = 3 := by
   have : arI 21 = 3 := rfl;omega
  by_cases f0 : D 0 = 1
  ·exact res21_33 (D 0) (D 1) (D 2) g cap w hg (hD 0 (by decide)) (hD 1 (by decide)) (hD 2 (by decide)) (hc 0 (by decide)) (hc 1 (by decide)) (hc 2 (by decide)) f0
  ·exact res21_34 (D 0) (D 1) (D 2) g cap w hg (hD 0 (by decide)) (hD 1 (by decide)) (hD 2 (by decide)) (hc 0 (by decide)) (hc 1 (by decide)) (hc 2 (by decide)) f0
def LookOk (Q : ByteArray → Prop) (ev : Value) (nm : Nat → ByteArray) (dm : Nat → Int) (k : Nat) (w0 : World) : Prop := ∀ (s : ByteArray) (w' : World), Q s → s.size ≤ 140737488355328 → Rel w0 w' →
 Calls Tryz.prog 155 #[.string s, ev] w' fun e w'' => e = .returned (.tuple #[.int .i64 (lokI nm dm k s), .bool (!(lokI nm dm k s == 0))]) ∧ Rel w' w''
def InfRes (r : Int × Int) (w : World) (e : Ending) (w' : World) : Prop := e = .returned (.tuple #[.int .i64 r.1, .int .i64 r.2]) ∧ Rel w w'
theorem inf_ret {r : Int × Int} {a b : Int} {w w' : World} (h : r = (a, b)) (k : Rel w w') : InfRes r w (.returned (.tuple #[.int .i64 a, .int .i64 b])) w' := by
 unfold InfRes; rw [h]; exact ⟨rfl, k⟩
def dimL (D : Nat → Int) (k : Nat) : List Value := (List.range k).map fun i => Value.int .i64 (D i)
theorem dimL_succ (D : Nat → Int) (k : Nat) : dimL D (k + 1) = dimL D k ++ [.int .i64 (D k)] := by
 unfold dimL; rw [List.range_succ, List.map_append]; rfl
theorem dimL_at (D : Nat → Int) (k i : Nat) (h : i < k) : (dimL D k)[i]? = some (.int .i64 (D i)) := by
 unfold dimL; simp [h]
theorem new1_cells (w : World) (x : Value) (T : TypeId) : ∀ (j : Nat) u, [x][j]? = some u → (w.alloc (.cells #[x] T)).cell? ((⟨w.heap.size, 0, none⟩ : Addr).add j) = some u := by
 intro j u h
 match j with
 | 0 => simp at h; subst h; simp [Addr.add]
 | j + 1 => simp at h
set_option maxRecDepth 20000 in
theorem infer_all (Q : ByteArray → Prop) (ev : Value) (nm : Nat → ByteArray) (dm : Nat → Int) (ke : Nat) (w0 : World) (HL : Hid (LookOk Q ev nm dm ke w0)) (he : Hid (∀ i, i < ke → 1 ≤ dm i ∧ dm i ≤ 4)) (t : Ex) :
  ∀ (x : Value) (w : World), Rel w0 w → ExKids t w x → t.form = true → t.allNm Q →
  Calls Tryz.prog 83 #[.agg #[.int .i64 t.op, .int .i64 t.va, .int .i64 t.vb, .int .i64 t.dm, .string t.nm, x], ev] w (InfRes (t.inf nm dm ke) w) := by
 induction t with
 | no => intro x w hw h; exact h.elim
 | mk op a b d s n kid ih =>
  intro x w hw h hf hq;have HBD := Hj (inf_bd (nm := nm) he.out (.mk op a b d s n kid) hf);obtain ⟨hb, hn, ad, cap, rfl, hk⟩ := h;have HK : Hid (KidsAt w n kid ad) := hk;have HW := Hj hw;obtain ⟨hqn, hqk⟩ := hq;rw [form_mk, Bool.and_eq_true] at hf;obtain ⟨hnod, hkf⟩ := hf;have HN := Hj hnod;have HF := Hj (alK_lt hkf);have HQ := Hj hqk;have IH := Hj ih;simp only [Ex.op, Ex.va, Ex.vb, Ex.dm, Ex.nm];have hs1 := hb.s1;obtain ⟨RES, hRES⟩ : ∃ RES, (Ex.mk op a b d s n kid).inf nm dm ke = RES := ⟨_, rfl⟩;rw [hRES] at HBD ⊢;rw [inf_mk] at hRES;clear hk ih hw hb hnod hkf hqk;by_cases h1 : op = 1
  ·subst h1;rw [if_pos rfl] at hRES;have HR := Hj hRES.symm;clear hRES hqn;go_enter Tryz.func83, Tryz.ntmps83;go_wp2
   go_ret2
   exact inf_ret HR.out (by (show Rel _ _; repeat (first | with_reducible (first | exact qR _ | refine qA ?_ _ | refine qD ?_ | refine qT ?_ H0.out) | with_reducible refine qS ?_ (by first | (simp; done) | (simp; omega)) _)))
  ·rw [if_neg h1] at hRES;have e1 : (op == 1) = false := by rw [zn]; exact h1
   by_cases h3 : op = 3
   ·subst h3;rw [if_pos rfl] at hRES;have HR := Hj hRES.symm;clear hRES hqn h1;go_enter Tryz.func83, Tryz.ntmps83;go_wp2
    go_ret2
    exact inf_ret HR.out (by (show Rel _ _; repeat (first | with_reducible (first | exact qR _ | refine qA ?_ _ | refine qD ?_ | refine qT ?_ H0.out) | with_reducible refine qS ?_ (by first | (simp; done) | (simp; omega)) _)))
   ·rw [if_neg h3] at hRES;have e3 : (op == 3) = false := by rw [zn]; exact h3
    by_cases h2 : op = 2
    ·subst h2;rw [if_pos rfl] at hRES;have hqs := hqn rfl;have L := Hj fun w' (r : Rel w w') => HL.out s w' hqs hs1 (HW.out.trans r)
     obtain ⟨l, hl⟩ : ∃ l, lokI nm dm ke s = l := ⟨_, rfl⟩;rw [hl] at L hRES;by_cases hl0 : l = 0
     ·subst hl0;rw [if_pos rfl] at hRES;have HR := Hj hRES.symm;clear hRES hqn h1 h3 hqs hl;go_enter Tryz.func83, Tryz.ntmps83;go_wp2_with fail;refine (L.out _ (by show Rel _ _; (show Rel _ _; repeat (first | with_reducible (first | exact qR _ | refine qA ?_ _ | refine qD ?_ | refine qT ?_ H0.out) | with_reducible refine qS ?_ (by first | (simp; done) | (simp; omega)) _)))).mono ?_;rintro e w1 ⟨rfl, h1⟩;have kq0 := keep6 h1 (b := w.heap.size) (by first | (simp; done) | (simp; omega) | omega);have kz1 := h1.size;(try simp only [zsa, zsc, zsd] at kz1);have H1 := Hj h1;clear h1;go_wp2
      go_ret2
      exact inf_ret HR.out (by (show Rel _ _; repeat (first | with_reducible (first | exact qR _ | refine qA ?_ _ | refine qD ?_ | refine qT ?_ H1.out | refine qT ?_ H0.out) | with_reducible refine qS ?_ (by first | (simp; done) | (simp; omega)) _)))
     ·rw [if_neg hl0] at hRES;have HR := Hj hRES.symm;have fl : (l == 0) = false := by rw [zn]; exact hl0
      clear hRES hqn h1 h3 hqs hl hl0;go_enter Tryz.func83, Tryz.ntmps83;go_wp2_with fail;refine (L.out _ (by show Rel _ _; (show Rel _ _; repeat (first | with_reducible (first | exact qR _ | refine qA ?_ _ | refine qD ?_ | refine qT ?_ H0.out) | with_reducible refine qS ?_ (by first | (simp; done) | (simp; omega)) _)))).mono ?_;rintro e w1 ⟨rfl, h1⟩;have kq1 := keep6 h1 (b := w.heap.size) (by first | (simp; done) | (simp; omega) | omega);have kz1 := h1.size;(try simp only [zsa, zsc, zsd] at kz1);have H1 := Hj h1;clear h1;go_wp2
      go_ret2
      exact inf_ret HR.out (by (show Rel _ _; repeat (first | with_reducible (first | exact qR _ | refine qA ?_ _ | refine qD ?_ | refine qT ?_ H1.out | refine qT ?_ H0.out) | with_reducible refine qS ?_ (by first | (simp; done) | (simp; omega)) _)))
    ·rw [if_neg h2] at hRES;have e2 : (op == 2) = false := by rw [zn]; exact h2
     obtain ⟨o4, o21, n1, n3⟩ := op_ge HN.out h1 h2 h3;have har := Hj (nod_ar HN.out);have HR := Hj hRES;have BK := Hj fun i (hi : i < n) => inf_bd (nm := nm) he.out (kid i) (HF.out i hi)
     obtain ⟨D, hD⟩ : ∃ D : Nat → Int, (fun i => ((kid i).inf nm dm ke).1) = D := ⟨_, rfl⟩;obtain ⟨E, hE⟩ : ∃ E : Nat → Int, (fun i => ((kid i).inf nm dm ke).2) = E := ⟨_, rfl⟩;have HDE := Hj fun i => (⟨congrFun hD i, congrFun hE i⟩ : ((kid i).inf nm dm ke).1 = D i ∧ ((kid i).inf nm dm ke).2 = E i)
     have HER := Hj fun k (hk : k < n) (h0 : erK E k = 0) (h : ¬ E k = 0) => (opD_er (op := op) (n := n) (f := fun i => (kid i).inf nm dm ke) hk (by rw [hE]; exact h0) (by rw [(HDE.out k).2]; exact h) : opD op n (fun i => (kid i).inf nm dm ke) = _)
     have HOK := Hj fun (h0 : erK E n = 0) => (opD_ok (op := op) (n := n) (f := fun i => (kid i).inf nm dm ke) (by rw [hE]; exact h0))
     rw [hD] at HOK;clear hRES hqn h1 h2 h3 hD hE;have hi3 : (Tryz.prog.info? 3).map (fun i => (i.zero, i.size, i.bytes)) = some (some (.int .i64 0), 1, 8) := by kernel_rfl
     obtain ⟨i0, hi, hx⟩ := Option.map_eq_some_iff.1 hi3;simp only [Prod.mk.injEq] at hx;obtain ⟨hz0, hz1, hz2⟩ := hx;have HI := Hj hi;have HZ0 := Hj hz0;have HZ1 := Hj hz1;have HZ2 := Hj hz2;clear hi3 hi hz0 hz1 hz2;go_enter Tryz.func83, Tryz.ntmps83;go_wp2_with fail
     go_loopw [8, 38] (fun v i wx => ∃ (k : Nat) (vv : Value), vv = v ∧ k ≤ n ∧ i = .int .i64 k ∧ Hid (erK E k = 0) ∧ Hid (wx.ownsRow (w.heap.size + 1) 3 1 vv k (dimL D k)) ∧ Hid (Rel (w.alloc (.cells #[.int .i64 op, .int .i64 a, .int .i64 b, .int .i64 d, .string s, .slice ad n cap] 66)) wx)) (fun _ i _ => n - (intOf i).toNat)
     case atStart => exact ⟨0, _, rfl, by omega, rfl, rfl, World.ownsRow_nil _ _ _ _, by show Rel _ _; (show Rel _ _; repeat (first | with_reducible (first | exact qR _ | refine qA ?_ _ | refine qD ?_ | refine qT ?_ H0.out) | with_reducible refine qS ?_ (by first | (simp; done) | (simp; omega)) _))⟩
     case round =>
      obtain ⟨k, vv, rfl, hkn, rfl, hE0, hO, hR⟩ := hrel;have hR2 := hR.out;have kq2 := keep6 hR2 (b := w.heap.size) (by first | (simp; done) | (simp; omega) | omega);have kz2 := hR2.size;(try simp only [zsa, zsc, zsd] at kz2);have H2 := Hj hR2;clear hR2
      have RW : Hid (Rel w wr) := by
       show Rel _ _
       (show Rel _ _; repeat (first | with_reducible (first | exact qR _ | refine qA ?_ _ | refine qD ?_ | refine qT ?_ H2.out | refine qT ?_ H1.out | refine qT ?_ H0.out) | with_reducible refine qS ?_ (by first | (simp; done) | (simp; omega)) _))
      by_cases hlt : k < n
      ·obtain ⟨g, off, rfl, hg, hc⟩ := HK.out (by omega);obtain ⟨xi, hs, hx⟩ := hc k hlt;obtain ⟨xa, xc, rfl⟩ := kids_slice hx;obtain ⟨c0, c1, c2, c3, c4, c5⟩ := six_rel hs RW.out hg;have C := Hj fun w' (r : Rel w w') => IH.out k _ w' (HW.out.trans r) (kids_rel hx r) (HF.out k hlt) (HQ.out k hlt)
       unfold InfRes at C;rw [(HDE.out k).1, (HDE.out k).2] at C;obtain ⟨eb1, eb2, eb3, eb4, eb5⟩ := BK.out k hlt;rw [(HDE.out k).1] at eb1 eb4 eb5;rw [(HDE.out k).2] at eb1 eb2 eb3;clear hs hc hx;by_cases hek : E k = 0
       ·have hE1 : Hid (erK E (k + 1) = 0) := by
         show _ = _
         simp only [erK]; rw [if_pos hE0.out]; exact hek
        have hDk := eb1 hek;rw [hek] at C;clear eb1 eb2 eb3 hek hE0;go_wp2_with fail;refine (C.out _ (by show Rel _ _; refine RW.out.trans ?_; (show Rel _ _; repeat (first | with_reducible (first | exact qR _ | refine qA ?_ _ | refine qD ?_ | refine qT ?_ H0.out) | with_reducible refine qS ?_ (by first | (simp; done) | (simp; omega)) _)))).mono ?_;rintro e w3 ⟨rfl, h3⟩;have kz3 := h3.size;(try simp only [zsa, zsc, zsd] at kz3);have H3 := Hj h3;clear h3
        have HRO : Hid (Rel wr w3) := by
         show Rel _ _
         refine Rel.trans ?_ H3.out;(show Rel _ _; repeat (first | with_reducible (first | exact qR _ | refine qA ?_ _ | refine qD ?_ | refine qT ?_ H0.out) | with_reducible refine qS ?_ (by first | (simp; done) | (simp; omega)) _))
        have O1 := Hj (own_rel hO.out (HRO.out.alloc (.cells #[.int .i64 (D k)] 3)))
        have sz3 : w.heap.size + 1 ≤ w3.heap.size := by
         have := HRO.out.size;omega
        go_upto_region 18 with (fail)
        go_wp2_with (at_builtin; refine wpList_append_own _ rfl _ _ 59 rfl (w.heap.size + 1) 3 i0 (.int .i64 0) 1 8 Tryz.underlying59 HI.out HZ0.out HZ1.out HZ2.out rfl (by decide) vv k (dimL D k) rfl O1.out ⟨w3.heap.size, 0, none⟩ 1 1 [.int .i64 (D k)] rfl rfl ?c1 ?c2 ?c3 ?c4 ?c5 ?_)
        case c1 => exact new1_cells w3 (.int .i64 (D k)) 3
        case c2 => intro u hu; simp at hu; subst hu; rfl
        case c3 => unfold maxLen; omega
        case c4 => omega
        case c5 => simp; omega
        intro v' w4 hown' hgrow _
        have R4 : Hid (Rel (w.alloc (.cells #[.int .i64 op, .int .i64 a, .int .i64 b, .int .i64 d, .string s, .slice (some ⟨g, off, none⟩) n cap] 66)) w4) := by
         show Rel _ w4
         refine Below.grown ((hR.out.trans HRO.out).alloc _) hgrow (by simp; omega) (fun q hq => by have := (hO.out.lt q hq).1; simpa using this)
        have O4 : Hid (w4.ownsRow (w.heap.size + 1) 3 1 v' (k + 1) (dimL D (k + 1))) := by
         show World.ownsRow _ _ _ _ _ _ _
         rw [dimL_succ]; exact hown'
        clear hown' hgrow;go_wp2
        go_roundw
        case rel => exact ⟨k + 1, v', rfl, by omega, by go_num, hE1, O4, R4⟩
        case measure => simp [intOf]; omega
       ·have HR2 := Hj (HR.out.symm.trans (HER.out k hlt hE0.out hek));rw [(HDE.out k).2] at HR2;have fe : (E k != 0) = true := by rw [bne_iff_ne]; exact hek
        clear eb1 hek;go_wp2_with fail;refine (C.out _ (by show Rel _ _; refine RW.out.trans ?_; (show Rel _ _; repeat (first | with_reducible (first | exact qR _ | refine qA ?_ _ | refine qD ?_ | refine qT ?_ H0.out) | with_reducible refine qS ?_ (by first | (simp; done) | (simp; omega)) _)))).mono ?_;rintro e w3 ⟨rfl, h3⟩;have kz3 := h3.size;(try simp only [zsa, zsc, zsd] at kz3);have H3 := Hj h3;clear h3;go_wp2
        go_ret2
        exact inf_ret HR2.out (by show Rel _ _; refine RW.out.trans ?_; (show Rel _ _; repeat (first | with_reducible (first | exact qR _ | refine qA ?_ _ | refine qD ?_ | refine qT ?_ H3.out | refine qT ?_ H2.out | refine qT ?_ H1.out | refine qT ?_ H0.out) | with_reducible refine qS ?_ (by first | (simp; done) | (simp; omega)) _)))
      ·have : k = n := by omega
       subst this;obtain ⟨g, cp, rfl, hgb, hgl, hc1, hc2, hcs⟩ := own_some hO.out (by omega)
       have hDb : ∀ i, i < k → 1 ≤ D i ∧ D i ≤ 4 := fun i hi => by
        have h1 := (BK.out i hi).1;rw [(HDE.out i).1, (HDE.out i).2] at h1;exact h1 (erK_zero hE0.out i hi)
       have HRS := Hj (HR.out.symm.trans (HOK.out hE0.out));have RS := Hj (result_any op k g cp D wr ⟨o4, o21⟩ har.out hgl hDb (fun i hi => hcs i _ (dimL_at D k i hi)));obtain ⟨R, hR'⟩ : ∃ R, resI op D = R := ⟨_, rfl⟩;rw [hR'] at RS HRS;unfold RsRes at RS;clear hR' hDb hcs;go_wp2_with fail;refine RS.out.mono ?_;rintro e w3 ⟨X, B, rfl, hB, hX, h3⟩;have h3' := h3;have kq3 := keep6 h3 (b := w.heap.size) (by first | (simp; done) | (simp; omega) | omega);have kz3 := h3.size;(try simp only [zsa, zsc, zsd] at kz3);have H3 := Hj h3;clear h3;cases B
       ·have fin : Hid (RES = (0, 6)) := by
         show _ = _
         rw [HRS.out, if_pos (by simpa using hB.symm)]
        clear hB hX h3';go_wp2
        go_ret2
        exact inf_ret fin.out (RW.out.trans H3.out)
       ·have hXR := hX rfl
        have fin : Hid (RES = (X, 0)) := by
         show _ = _
         rw [HRS.out, if_neg (by intro h; rw [h] at hB; simp at hB), hXR]
        clear hB hX h3' hXR;go_wp2
        go_ret2
        exact inf_ret fin.out (RW.out.trans H3.out)
end Go.Proofs.YtlmclkaighlfaaaGreatDoor

/- Contract of typing.result. No conditions but those printed. -/
import Derived.Test.YtnhmebhmlbofgaaDoorExA
namespace Go.Proofs.YtnhmebhmlbofgaaDoor
open Go.RowKit Cal Str Tok Frac Txt Tree
attribute [local go_sem] calmUpon
set_option linter.unusedVariables false
set_option linter.unusedSimpArgs false

def resV (op d0 d1 d2 : Int) : Int := resI op (fun i => if i = 0 then d0 else if i = 1 then d1 else d2)
theorem resI_eq (op : Int) (D : Nat → Int) : resI op D = resV op (D 0) (D 1) (D 2) := by
  unfold resV resI; simp
/-- What typing.result returns where the operation gives R (0: not permitted). -/
def RsRes (R : Int) (w : World) (e : Ending) (w' : World) : Prop := ∃ (x : Int) (B : Bool), e = .returned (.tuple #[.int .i64 x, .bool B]) ∧ B = (!(R == 0)) ∧ (B = true → x = R) ∧ Rel w w'

set_option maxRecDepth 20000 in
set_option maxHeartbeats 1000000 in
theorem res4_0 (d0 d1 d2 : Int) (g cap : Nat) (w : World) (hg : g < w.heap.size) (h0 : 1 ≤ d0 ∧ d0 ≤ 4) (c0 : w.cell? ⟨g, 0, none⟩ = some (.int .i64 d0))  :
    Calls Tryd.prog 42 #[.int .i64 4, .slice (some ⟨g, 0, none⟩) 1 cap] w (RsRes (resV 4 d0 d1 d2) w) := by
  have key : Hid (((d0 != 1)) = (!(resV 4 d0 d1 d2 == 0)) ∧ (((d0 != 1)) = true → d0 = resV 4 d0 d1 d2)) := by
    show _ ∧ _
    have e2 : resV 4 d0 d1 d2 = resV 4 d0 1 1 := rfl
    rw [e2]
    clear c0 hg
    rcases (show d0 = 1 ∨ d0 = 2 ∨ d0 = 3 ∨ d0 = 4 by omega) with rfl | rfl | rfl | rfl <;>
    first | decide | (exfalso; omega)
  obtain ⟨R, hR⟩ : ∃ R, resV 4 d0 d1 d2 = R := ⟨_, rfl⟩
  rw [hR] at key ⊢
  clear hR h0
  unfold RsRes
  go_enter Tryd.func42, Tryd.ntmps42
  go_wp2_with fail
  refine wp_region_calm (fun _ w' => w'.cell? { block := g, off := 0 } = some (.int .i64 d0)) (fun _ => false) [0, 1, 2, 3, 4, 5, 6, 7, 8] 0 (by kernel_rfl) (by kernel_rfl) ?hst ?hS0 (fun w0 h0 => ?_)
  case hst => exact fun _ _ _ h r => r.cell h
  case hS0 => exact by go_simp
  iterate 9
    refine wpCalm_go rfl (by kernel_rfl) (fun K hK => ?_)
    apply Exists.intro
    refine ⟨fun M w hM hS => ?_, hK _ ?_⟩
    · have hc0 := hS
      unfold calmAt
      go_simp
      exact ⟨rfl, Rel.refl _⟩
    clear hK K
  refine wpAnyR_end (by kernel_rfl) (fun w3 h3' => ?_)
  (try simp only [Act.put, List.setIfInBounds_toArray, List.set_cons_zero, List.set_cons_succ])
  have h3 := h0.trans h3'
  clear h0 h3'
  have kz3 := h3.size
  (try simp only [World.size_alloc, World.size_setCell, World.size_drew] at kz3)
  have H3 := Lib.hid h3
  clear h3
  go_wp2
  go_ret2
  exact ⟨_, _, rfl, key.out.1, key.out.2, H3.out⟩

set_option maxRecDepth 20000 in
set_option maxHeartbeats 1000000 in
theorem res6_1 (d0 d1 d2 : Int) (g cap : Nat) (w : World) (hg : g < w.heap.size) (h0 : 1 ≤ d0 ∧ d0 ≤ 4) (c0 : w.cell? ⟨g, 0, none⟩ = some (.int .i64 d0))  :
    Calls Tryd.prog 42 #[.int .i64 6, .slice (some ⟨g, 0, none⟩) 1 cap] w (RsRes (resV 6 d0 d1 d2) w) := by
  have key : Hid (((d0 != 1)) = (!(resV 6 d0 d1 d2 == 0)) ∧ (((d0 != 1)) = true → d0 = resV 6 d0 d1 d2)) := by
    show _ ∧ _
    have e2 : resV 6 d0 d1 d2 = resV 6 d0 1 1 := rfl
    rw [e2]
    clear c0 hg
    rcases (show d0 = 1 ∨ d0 = 2 ∨ d0 = 3 ∨ d0 = 4 by omega) with rfl | rfl | rfl | rfl <;>
    first | decide | (exfalso; omega)
  obtain ⟨R, hR⟩ : ∃ R, resV 6 d0 d1 d2 = R := ⟨_, rfl⟩
  rw [hR] at key ⊢
  clear hR h0
  unfold RsRes
  go_enter Tryd.func42, Tryd.ntmps42
  go_wp2_with fail
  refine wp_region_calm (fun _ w' => w'.cell? { block := g, off := 0 } = some (.int .i64 d0)) (fun _ => false) [0, 1, 2, 3, 4, 5, 6, 7, 8] 0 (by kernel_rfl) (by kernel_rfl) ?hst ?hS0 (fun w0 h0 => ?_)
  case hst => exact fun _ _ _ h r => r.cell h
  case hS0 => exact by go_simp
  iterate 9
    refine wpCalm_go rfl (by kernel_rfl) (fun K hK => ?_)
    apply Exists.intro
    refine ⟨fun M w hM hS => ?_, hK _ ?_⟩
    · have hc0 := hS
      unfold calmAt
      go_simp
      exact ⟨rfl, Rel.refl _⟩
    clear hK K
  refine wpAnyR_end (by kernel_rfl) (fun w3 h3' => ?_)
  (try simp only [Act.put, List.setIfInBounds_toArray, List.set_cons_zero, List.set_cons_succ])
  have h3 := h0.trans h3'
  clear h0 h3'
  have kz3 := h3.size
  (try simp only [World.size_alloc, World.size_setCell, World.size_drew] at kz3)
  have H3 := Lib.hid h3
  clear h3
  go_wp2
  go_ret2
  exact ⟨_, _, rfl, key.out.1, key.out.2, H3.out⟩

set_option maxRecDepth 20000 in
set_option maxHeartbeats 1000000 in
theorem res5_2 (d0 d1 d2 : Int) (g cap : Nat) (w : World) (hg : g < w.heap.size) (h0 : 1 ≤ d0 ∧ d0 ≤ 4) (c0 : w.cell? ⟨g, 0, none⟩ = some (.int .i64 d0))  :
    Calls Tryd.prog 42 #[.int .i64 5, .slice (some ⟨g, 0, none⟩) 1 cap] w (RsRes (resV 5 d0 d1 d2) w) := by
  have key : Hid (((d0 == 1)) = (!(resV 5 d0 d1 d2 == 0)) ∧ (((d0 == 1)) = true → 1 = resV 5 d0 d1 d2)) := by
    show _ ∧ _
    have e2 : resV 5 d0 d1 d2 = resV 5 d0 1 1 := rfl
    rw [e2]
    clear c0 hg
    rcases (show d0 = 1 ∨ d0 = 2 ∨ d0 = 3 ∨ d0 = 4 by omega) with rfl | rfl | rfl | rfl <;>
    first | decide | (exfalso; omega)
  obtain ⟨R, hR⟩ : ∃ R, resV 5 d0 d1 d2 = R := ⟨_, rfl⟩
  rw [hR] at key ⊢
  clear hR h0
  unfold RsRes
  go_enter Tryd.func42, Tryd.ntmps42
  go_wp2_with fail
  refine wp_region_calm (fun _ w' => w'.cell? { block := g, off := 0 } = some (.int .i64 d0)) (fun _ => false) [0, 1, 2, 3, 4, 5] 0 (by kernel_rfl) (by kernel_rfl) ?hst ?hS0 (fun w0 h0 => ?_)
  case hst => exact fun _ _ _ h r => r.cell h
  case hS0 => exact by go_simp
  iterate 6
    refine wpCalm_go rfl (by kernel_rfl) (fun K hK => ?_)
    apply Exists.intro
    refine ⟨fun M w hM hS => ?_, hK _ ?_⟩
    · have hc0 := hS
      unfold calmAt
      go_simp
      exact ⟨rfl, Rel.refl _⟩
    clear hK K
  refine wpAnyR_end (by kernel_rfl) (fun w3 h3' => ?_)
  (try simp only [Act.put, List.setIfInBounds_toArray, List.set_cons_zero, List.set_cons_succ])
  have h3 := h0.trans h3'
  clear h0 h3'
  have kz3 := h3.size
  (try simp only [World.size_alloc, World.size_setCell, World.size_drew] at kz3)
  have H3 := Lib.hid h3
  clear h3
  go_wp2
  go_ret2
  exact ⟨_, _, rfl, key.out.1, key.out.2, H3.out⟩

set_option maxRecDepth 20000 in
set_option maxHeartbeats 1000000 in
theorem res7_3 (d0 d1 d2 : Int) (g cap : Nat) (w : World) (hg : g < w.heap.size) (h0 : 1 ≤ d0 ∧ d0 ≤ 4) (h1 : 1 ≤ d1 ∧ d1 ≤ 4) (c0 : w.cell? ⟨g, 0, none⟩ = some (.int .i64 d0)) (c1 : w.cell? ⟨g, 1, none⟩ = some (.int .i64 d1)) (f0 : d0 = d1) :
    Calls Tryd.prog 42 #[.int .i64 7, .slice (some ⟨g, 0, none⟩) 2 cap] w (RsRes (resV 7 d0 d1 d2) w) := by
  subst f0
  have key : Hid (((d0 != 1)) = (!(resV 7 d0 d0 d2 == 0)) ∧ (((d0 != 1)) = true → d0 = resV 7 d0 d0 d2)) := by
    show _ ∧ _
    have e2 : resV 7 d0 d0 d2 = resV 7 d0 d0 1 := rfl
    rw [e2]
    clear c0 c1 hg
    rcases (show d0 = 1 ∨ d0 = 2 ∨ d0 = 3 ∨ d0 = 4 by omega) with rfl | rfl | rfl | rfl <;>
    first | decide | (exfalso; omega)
  obtain ⟨R, hR⟩ : ∃ R, resV 7 d0 d0 d2 = R := ⟨_, rfl⟩
  rw [hR] at key ⊢
  clear hR h0 h1
  unfold RsRes
  go_enter Tryd.func42, Tryd.ntmps42
  go_wp2_with fail
  refine wp_region_calm (fun _ w' => w'.cell? { block := g, off := 0 } = some (.int .i64 d0) ∧ w'.cell? { block := g, off := 1 } = some (.int .i64 d0)) (fun _ => false) [0, 1, 2, 3, 4, 5, 6, 7, 8, 9, 10, 11, 12, 13, 14, 15, 16, 17] 0 (by kernel_rfl) (by kernel_rfl) ?hst ?hS0 (fun w0 h0 => ?_)
  case hst => exact fun _ _ _ h r => ⟨r.cell h.1, r.cell h.2⟩
  case hS0 => exact ⟨by go_simp, by go_simp⟩
  iterate 18
    refine wpCalm_go rfl (by kernel_rfl) (fun K hK => ?_)
    apply Exists.intro
    refine ⟨fun M w hM hS => ?_, hK _ ?_⟩
    · have hc0 := hS.1
      have hc1 := hS.2
      unfold calmAt
      go_simp
      exact ⟨rfl, Rel.refl _⟩
    clear hK K
  refine wpAnyR_end (by kernel_rfl) (fun w3 h3' => ?_)
  (try simp only [Act.put, List.setIfInBounds_toArray, List.set_cons_zero, List.set_cons_succ])
  have h3 := h0.trans h3'
  clear h0 h3'
  have kz3 := h3.size
  (try simp only [World.size_alloc, World.size_setCell, World.size_drew] at kz3)
  have H3 := Lib.hid h3
  clear h3
  go_wp2
  go_ret2
  exact ⟨_, _, rfl, key.out.1, key.out.2, H3.out⟩

set_option maxRecDepth 20000 in
set_option maxHeartbeats 1000000 in
theorem res7_4 (d0 d1 d2 : Int) (g cap : Nat) (w : World) (hg : g < w.heap.size) (h0 : 1 ≤ d0 ∧ d0 ≤ 4) (h1 : 1 ≤ d1 ∧ d1 ≤ 4) (c0 : w.cell? ⟨g, 0, none⟩ = some (.int .i64 d0)) (c1 : w.cell? ⟨g, 1, none⟩ = some (.int .i64 d1)) (f0 : ¬ d0 = d1) :
    Calls Tryd.prog 42 #[.int .i64 7, .slice (some ⟨g, 0, none⟩) 2 cap] w (RsRes (resV 7 d0 d1 d2) w) := by
  have key : Hid ((false) = (!(resV 7 d0 d1 d2 == 0)) ∧ ((false) = true → d0 = resV 7 d0 d1 d2)) := by
    show _ ∧ _
    have e2 : resV 7 d0 d1 d2 = resV 7 d0 d1 1 := rfl
    rw [e2]
    clear c0 c1 hg
    rcases (show d0 = 1 ∨ d0 = 2 ∨ d0 = 3 ∨ d0 = 4 by omega) with rfl | rfl | rfl | rfl <;>
    rcases (show d1 = 1 ∨ d1 = 2 ∨ d1 = 3 ∨ d1 = 4 by omega) with rfl | rfl | rfl | rfl <;>
    first | decide | (exfalso; omega)
  have b0 : (d0 == d1) = false := by simp; omega
  obtain ⟨R, hR⟩ : ∃ R, resV 7 d0 d1 d2 = R := ⟨_, rfl⟩
  rw [hR] at key ⊢
  clear hR h0 h1 f0
  unfold RsRes
  go_enter Tryd.func42, Tryd.ntmps42
  go_wp2_with fail
  refine wp_region_calm (fun _ w' => w'.cell? { block := g, off := 0 } = some (.int .i64 d0) ∧ w'.cell? { block := g, off := 1 } = some (.int .i64 d1)) (fun _ => false) [0, 1, 2, 3, 4, 5, 6, 7, 8, 9, 10, 11, 12, 13, 14, 15, 16, 17] 0 (by kernel_rfl) (by kernel_rfl) ?hst ?hS0 (fun w0 h0 => ?_)
  case hst => exact fun _ _ _ h r => ⟨r.cell h.1, r.cell h.2⟩
  case hS0 => exact ⟨by go_simp, by go_simp⟩
  iterate 11
    refine wpCalm_go rfl (by kernel_rfl) (fun K hK => ?_)
    apply Exists.intro
    refine ⟨fun M w hM hS => ?_, hK _ ?_⟩
    · have hc0 := hS.1
      have hc1 := hS.2
      unfold calmAt
      go_simp
      exact ⟨rfl, Rel.refl _⟩
    clear hK K
  iterate 4 (refine wpCalm_no rfl (by kernel_rfl) (fun K hK => hK _ ?_); clear hK K)
  iterate 3
    refine wpCalm_go rfl (by kernel_rfl) (fun K hK => ?_)
    apply Exists.intro
    refine ⟨fun M w hM hS => ?_, hK _ ?_⟩
    · have hc0 := hS.1
      have hc1 := hS.2
      unfold calmAt
      go_simp
      exact ⟨rfl, Rel.refl _⟩
    clear hK K
  refine wpAnyR_end (by kernel_rfl) (fun w3 h3' => ?_)
  (try simp only [Act.put, List.setIfInBounds_toArray, List.set_cons_zero, List.set_cons_succ])
  have h3 := h0.trans h3'
  clear h0 h3'
  have kz3 := h3.size
  (try simp only [World.size_alloc, World.size_setCell, World.size_drew] at kz3)
  have H3 := Lib.hid h3
  clear h3
  go_wp2
  go_ret2
  exact ⟨_, _, rfl, key.out.1, key.out.2, H3.out⟩

set_option maxRecDepth 20000 in
set_option maxHeartbeats 1000000 in
theorem res8_5 (d0 d1 d2 : Int) (g cap : Nat) (w : World) (hg : g < w.heap.size) (h0 : 1 ≤ d0 ∧ d0 ≤ 4) (h1 : 1 ≤ d1 ∧ d1 ≤ 4) (c0 : w.cell? ⟨g, 0, none⟩ = some (.int .i64 d0)) (c1 : w.cell? ⟨g, 1, none⟩ = some (.int .i64 d1)) (f0 : d0 = d1) :
    Calls Tryd.prog 42 #[.int .i64 8, .slice (some ⟨g, 0, none⟩) 2 cap] w (RsRes (resV 8 d0 d1 d2) w) := by
  subst f0
  have key : Hid (((d0 != 1)) = (!(resV 8 d0 d0 d2 == 0)) ∧ (((d0 != 1)) = true → d0 = resV 8 d0 d0 d2)) := by
    show _ ∧ _
    have e2 : resV 8 d0 d0 d2 = resV 8 d0 d0 1 := rfl
    rw [e2]
    clear c0 c1 hg
    rcases (show d0 = 1 ∨ d0 = 2 ∨ d0 = 3 ∨ d0 = 4 by omega) with rfl | rfl | rfl | rfl <;>
    first | decide | (exfalso; omega)
  obtain ⟨R, hR⟩ : ∃ R, resV 8 d0 d0 d2 = R := ⟨_, rfl⟩
  rw [hR] at key ⊢
  clear hR h0 h1
  unfold RsRes
  go_enter Tryd.func42, Tryd.ntmps42
  go_wp2_with fail
  refine wp_region_calm (fun _ w' => w'.cell? { block := g, off := 0 } = some (.int .i64 d0) ∧ w'.cell? { block := g, off := 1 } = some (.int .i64 d0)) (fun _ => false) [0, 1, 2, 3, 4, 5, 6, 7, 8, 9, 10, 11, 12, 13, 14, 15, 16, 17] 0 (by kernel_rfl) (by kernel_rfl) ?hst ?hS0 (fun w0 h0 => ?_)
  case hst => exact fun _ _ _ h r => ⟨r.cell h.1, r.cell h.2⟩
  case hS0 => exact ⟨by go_simp, by go_simp⟩
  iterate 18
    refine wpCalm_go rfl (by kernel_rfl) (fun K hK => ?_)
    apply Exists.intro
    refine ⟨fun M w hM hS => ?_, hK _ ?_⟩
    · have hc0 := hS.1
      have hc1 := hS.2
      unfold calmAt
      go_simp
      exact ⟨rfl, Rel.refl _⟩
    clear hK K
  refine wpAnyR_end (by kernel_rfl) (fun w3 h3' => ?_)
  (try simp only [Act.put, List.setIfInBounds_toArray, List.set_cons_zero, List.set_cons_succ])
  have h3 := h0.trans h3'
  clear h0 h3'
  have kz3 := h3.size
  (try simp only [World.size_alloc, World.size_setCell, World.size_drew] at kz3)
  have H3 := Lib.hid h3
  clear h3
  go_wp2
  go_ret2
  exact ⟨_, _, rfl, key.out.1, key.out.2, H3.out⟩

set_option maxRecDepth 20000 in
set_option maxHeartbeats 1000000 in
theorem res8_6 (d0 d1 d2 : Int) (g cap : Nat) (w : World) (hg : g < w.heap.size) (h0 : 1 ≤ d0 ∧ d0 ≤ 4) (h1 : 1 ≤ d1 ∧ d1 ≤ 4) (c0 : w.cell? ⟨g, 0, none⟩ = some (.int .i64 d0)) (c1 : w.cell? ⟨g, 1, none⟩ = some (.int .i64 d1)) (f0 : ¬ d0 = d1) :
    Calls Tryd.prog 42 #[.int .i64 8, .slice (some ⟨g, 0, none⟩) 2 cap] w (RsRes (resV 8 d0 d1 d2) w) := by
  have key : Hid ((false) = (!(resV 8 d0 d1 d2 == 0)) ∧ ((false) = true → d0 = resV 8 d0 d1 d2)) := by
    show _ ∧ _
    have e2 : resV 8 d0 d1 d2 = resV 8 d0 d1 1 := rfl
    rw [e2]
    clear c0 c1 hg
    rcases (show d0 = 1 ∨ d0 = 2 ∨ d0 = 3 ∨ d0 = 4 by omega) with rfl | rfl | rfl | rfl <;>
    rcases (show d1 = 1 ∨ d1 = 2 ∨ d1 = 3 ∨ d1 = 4 by omega) with rfl | rfl | rfl | rfl <;>
    first | decide | (exfalso; omega)
  have b0 : (d0 == d1) = false := by simp; omega
  obtain ⟨R, hR⟩ : ∃ R, resV 8 d0 d1 d2 = R := ⟨_, rfl⟩
  rw [hR] at key ⊢
  clear hR h0 h1 f0
  unfold RsRes
  go_enter Tryd.func42, Tryd.ntmps42
  go_wp2_with fail
  refine wp_region_calm (fun _ w' => w'.cell? { block := g, off := 0 } = some (.int .i64 d0) ∧ w'.cell? { block := g, off := 1 } = some (.int .i64 d1)) (fun _ => false) [0, 1, 2, 3, 4, 5, 6, 7, 8, 9, 10, 11, 12, 13, 14, 15, 16, 17] 0 (by kernel_rfl) (by kernel_rfl) ?hst ?hS0 (fun w0 h0 => ?_)
  case hst => exact fun _ _ _ h r => ⟨r.cell h.1, r.cell h.2⟩
  case hS0 => exact ⟨by go_simp, by go_simp⟩
  iterate 11
    refine wpCalm_go rfl (by kernel_rfl) (fun K hK => ?_)
    apply Exists.intro
    refine ⟨fun M w hM hS => ?_, hK _ ?_⟩
    · have hc0 := hS.1
      have hc1 := hS.2
      unfold calmAt
      go_simp
      exact ⟨rfl, Rel.refl _⟩
    clear hK K
  iterate 4 (refine wpCalm_no rfl (by kernel_rfl) (fun K hK => hK _ ?_); clear hK K)
  iterate 3
    refine wpCalm_go rfl (by kernel_rfl) (fun K hK => ?_)
    apply Exists.intro
    refine ⟨fun M w hM hS => ?_, hK _ ?_⟩
    · have hc0 := hS.1
      have hc1 := hS.2
      unfold calmAt
      go_simp
      exact ⟨rfl, Rel.refl _⟩
    clear hK K
  refine wpAnyR_end (by kernel_rfl) (fun w3 h3' => ?_)
  (try simp only [Act.put, List.setIfInBounds_toArray, List.set_cons_zero, List.set_cons_succ])
  have h3 := h0.trans h3'
  clear h0 h3'
  have kz3 := h3.size
  (try simp only [World.size_alloc, World.size_setCell, World.size_drew] at kz3)
  have H3 := Lib.hid h3
  clear h3
  go_wp2
  go_ret2
  exact ⟨_, _, rfl, key.out.1, key.out.2, H3.out⟩

set_option maxRecDepth 20000 in
set_option maxHeartbeats 1000000 in
theorem res19_7 (d0 d1 d2 : Int) (g cap : Nat) (w : World) (hg : g < w.heap.size) (h0 : 1 ≤ d0 ∧ d0 ≤ 4) (h1 : 1 ≤ d1 ∧ d1 ≤ 4) (c0 : w.cell? ⟨g, 0, none⟩ = some (.int .i64 d0)) (c1 : w.cell? ⟨g, 1, none⟩ = some (.int .i64 d1)) (f0 : d0 = d1) :
    Calls Tryd.prog 42 #[.int .i64 19, .slice (some ⟨g, 0, none⟩) 2 cap] w (RsRes (resV 19 d0 d1 d2) w) := by
  subst f0
  have key : Hid (((d0 != 1)) = (!(resV 19 d0 d0 d2 == 0)) ∧ (((d0 != 1)) = true → d0 = resV 19 d0 d0 d2)) := by
    show _ ∧ _
    have e2 : resV 19 d0 d0 d2 = resV 19 d0 d0 1 := rfl
    rw [e2]
    clear c0 c1 hg
    rcases (show d0 = 1 ∨ d0 = 2 ∨ d0 = 3 ∨ d0 = 4 by omega) with rfl | rfl | rfl | rfl <;>
    first | decide | (exfalso; omega)
  obtain ⟨R, hR⟩ : ∃ R, resV 19 d0 d0 d2 = R := ⟨_, rfl⟩
  rw [hR] at key ⊢
  clear hR h0 h1
  unfold RsRes
  go_enter Tryd.func42, Tryd.ntmps42
  go_wp2_with fail
  refine wp_region_calm (fun _ w' => w'.cell? { block := g, off := 0 } = some (.int .i64 d0) ∧ w'.cell? { block := g, off := 1 } = some (.int .i64 d0)) (fun _ => false) [0, 1, 2, 3, 4, 5, 6, 7, 8, 9, 10, 11, 12, 13, 14, 15, 16, 17] 0 (by kernel_rfl) (by kernel_rfl) ?hst ?hS0 (fun w0 h0 => ?_)
  case hst => exact fun _ _ _ h r => ⟨r.cell h.1, r.cell h.2⟩
  case hS0 => exact ⟨by go_simp, by go_simp⟩
  iterate 18
    refine wpCalm_go rfl (by kernel_rfl) (fun K hK => ?_)
    apply Exists.intro
    refine ⟨fun M w hM hS => ?_, hK _ ?_⟩
    · have hc0 := hS.1
      have hc1 := hS.2
      unfold calmAt
      go_simp
      exact ⟨rfl, Rel.refl _⟩
    clear hK K
  refine wpAnyR_end (by kernel_rfl) (fun w3 h3' => ?_)
  (try simp only [Act.put, List.setIfInBounds_toArray, List.set_cons_zero, List.set_cons_succ])
  have h3 := h0.trans h3'
  clear h0 h3'
  have kz3 := h3.size
  (try simp only [World.size_alloc, World.size_setCell, World.size_drew] at kz3)
  have H3 := Lib.hid h3
  clear h3
  go_wp2
  go_ret2
  exact ⟨_, _, rfl, key.out.1, key.out.2, H3.out⟩

set_option maxRecDepth 20000 in
set_option maxHeartbeats 1000000 in
theorem res19_8 (d0 d1 d2 : Int) (g cap : Nat) (w : World) (hg : g < w.heap.size) (h0 : 1 ≤ d0 ∧ d0 ≤ 4) (h1 : 1 ≤ d1 ∧ d1 ≤ 4) (c0 : w.cell? ⟨g, 0, none⟩ = some (.int .i64 d0)) (c1 : w.cell? ⟨g, 1, none⟩ = some (.int .i64 d1)) (f0 : ¬ d0 = d1) :
    Calls Tryd.prog 42 #[.int .i64 19, .slice (some ⟨g, 0, none⟩) 2 cap] w (RsRes (resV 19 d0 d1 d2) w) := by
  have key : Hid ((false) = (!(resV 19 d0 d1 d2 == 0)) ∧ ((false) = true → d0 = resV 19 d0 d1 d2)) := by
    show _ ∧ _
    have e2 : resV 19 d0 d1 d2 = resV 19 d0 d1 1 := rfl
    rw [e2]
    clear c0 c1 hg
    rcases (show d0 = 1 ∨ d0 = 2 ∨ d0 = 3 ∨ d0 = 4 by omega) with rfl | rfl | rfl | rfl <;>
    rcases (show d1 = 1 ∨ d1 = 2 ∨ d1 = 3 ∨ d1 = 4 by omega) with rfl | rfl | rfl | rfl <;>
    first | decide | (exfalso; omega)
  have b0 : (d0 == d1) = false := by simp; omega
  obtain ⟨R, hR⟩ : ∃ R, resV 19 d0 d1 d2 = R := ⟨_, rfl⟩
  rw [hR] at key ⊢
  clear hR h0 h1 f0
  unfold RsRes
  go_enter Tryd.func42, Tryd.ntmps42
  go_wp2_with fail
  refine wp_region_calm (fun _ w' => w'.cell? { block := g, off := 0 } = some (.int .i64 d0) ∧ w'.cell? { block := g, off := 1 } = some (.int .i64 d1)) (fun _ => false) [0, 1, 2, 3, 4, 5, 6, 7, 8, 9, 10, 11, 12, 13, 14, 15, 16, 17] 0 (by kernel_rfl) (by kernel_rfl) ?hst ?hS0 (fun w0 h0 => ?_)
  case hst => exact fun _ _ _ h r => ⟨r.cell h.1, r.cell h.2⟩
  case hS0 => exact ⟨by go_simp, by go_simp⟩
  iterate 11
    refine wpCalm_go rfl (by kernel_rfl) (fun K hK => ?_)
    apply Exists.intro
    refine ⟨fun M w hM hS => ?_, hK _ ?_⟩
    · have hc0 := hS.1
      have hc1 := hS.2
      unfold calmAt
      go_simp
      exact ⟨rfl, Rel.refl _⟩
    clear hK K
  iterate 4 (refine wpCalm_no rfl (by kernel_rfl) (fun K hK => hK _ ?_); clear hK K)
  iterate 3
    refine wpCalm_go rfl (by kernel_rfl) (fun K hK => ?_)
    apply Exists.intro
    refine ⟨fun M w hM hS => ?_, hK _ ?_⟩
    · have hc0 := hS.1
      have hc1 := hS.2
      unfold calmAt
      go_simp
      exact ⟨rfl, Rel.refl _⟩
    clear hK K
  refine wpAnyR_end (by kernel_rfl) (fun w3 h3' => ?_)
  (try simp only [Act.put, List.setIfInBounds_toArray, List.set_cons_zero, List.set_cons_succ])
  have h3 := h0.trans h3'
  clear h0 h3'
  have kz3 := h3.size
  (try simp only [World.size_alloc, World.size_setCell, World.size_drew] at kz3)
  have H3 := Lib.hid h3
  clear h3
  go_wp2
  go_ret2
  exact ⟨_, _, rfl, key.out.1, key.out.2, H3.out⟩

set_option maxRecDepth 20000 in
set_option maxHeartbeats 1000000 in
theorem res20_9 (d0 d1 d2 : Int) (g cap : Nat) (w : World) (hg : g < w.heap.size) (h0 : 1 ≤ d0 ∧ d0 ≤ 4) (h1 : 1 ≤ d1 ∧ d1 ≤ 4) (c0 : w.cell? ⟨g, 0, none⟩ = some (.int .i64 d0)) (c1 : w.cell? ⟨g, 1, none⟩ = some (.int .i64 d1)) (f0 : d0 = d1) :
    Calls Tryd.prog 42 #[.int .i64 20, .slice (some ⟨g, 0, none⟩) 2 cap] w (RsRes (resV 20 d0 d1 d2) w) := by
  subst f0
  have key : Hid (((d0 != 1)) = (!(resV 20 d0 d0 d2 == 0)) ∧ (((d0 != 1)) = true → d0 = resV 20 d0 d0 d2)) := by
    show _ ∧ _
    have e2 : resV 20 d0 d0 d2 = resV 20 d0 d0 1 := rfl
    rw [e2]
    clear c0 c1 hg
    rcases (show d0 = 1 ∨ d0 = 2 ∨ d0 = 3 ∨ d0 = 4 by omega) with rfl | rfl | rfl | rfl <;>
    first | decide | (exfalso; omega)
  obtain ⟨R, hR⟩ : ∃ R, resV 20 d0 d0 d2 = R := ⟨_, rfl⟩
  rw [hR] at key ⊢
  clear hR h0 h1
  unfold RsRes
  go_enter Tryd.func42, Tryd.ntmps42
  go_wp2_with fail
  refine wp_region_calm (fun _ w' => w'.cell? { block := g, off := 0 } = some (.int .i64 d0) ∧ w'.cell? { block := g, off := 1 } = some (.int .i64 d0)) (fun _ => false) [0, 1, 2, 3, 4, 5, 6, 7, 8, 9, 10, 11, 12, 13, 14, 15, 16, 17] 0 (by kernel_rfl) (by kernel_rfl) ?hst ?hS0 (fun w0 h0 => ?_)
  case hst => exact fun _ _ _ h r => ⟨r.cell h.1, r.cell h.2⟩
  case hS0 => exact ⟨by go_simp, by go_simp⟩
  iterate 18
    refine wpCalm_go rfl (by kernel_rfl) (fun K hK => ?_)
    apply Exists.intro
    refine ⟨fun M w hM hS => ?_, hK _ ?_⟩
    · have hc0 := hS.1
      have hc1 := hS.2
      unfold calmAt
      go_simp
      exact ⟨rfl, Rel.refl _⟩
    clear hK K
  refine wpAnyR_end (by kernel_rfl) (fun w3 h3' => ?_)
  (try simp only [Act.put, List.setIfInBounds_toArray, List.set_cons_zero, List.set_cons_succ])
  have h3 := h0.trans h3'
  clear h0 h3'
  have kz3 := h3.size
  (try simp only [World.size_alloc, World.size_setCell, World.size_drew] at kz3)
  have H3 := Lib.hid h3
  clear h3
  go_wp2
  go_ret2
  exact ⟨_, _, rfl, key.out.1, key.out.2, H3.out⟩

set_option maxRecDepth 20000 in
set_option maxHeartbeats 1000000 in
theorem res20_10 (d0 d1 d2 : Int) (g cap : Nat) (w : World) (hg : g < w.heap.size) (h0 : 1 ≤ d0 ∧ d0 ≤ 4) (h1 : 1 ≤ d1 ∧ d1 ≤ 4) (c0 : w.cell? ⟨g, 0, none⟩ = some (.int .i64 d0)) (c1 : w.cell? ⟨g, 1, none⟩ = some (.int .i64 d1)) (f0 : ¬ d0 = d1) :
    Calls Tryd.prog 42 #[.int .i64 20, .slice (some ⟨g, 0, none⟩) 2 cap] w (RsRes (resV 20 d0 d1 d2) w) := by
  have key : Hid ((false) = (!(resV 20 d0 d1 d2 == 0)) ∧ ((false) = true → d0 = resV 20 d0 d1 d2)) := by
    show _ ∧ _
    have e2 : resV 20 d0 d1 d2 = resV 20 d0 d1 1 := rfl
    rw [e2]
    clear c0 c1 hg
    rcases (show d0 = 1 ∨ d0 = 2 ∨ d0 = 3 ∨ d0 = 4 by omega) with rfl | rfl | rfl | rfl <;>
    rcases (show d1 = 1 ∨ d1 = 2 ∨ d1 = 3 ∨ d1 = 4 by omega) with rfl | rfl | rfl | rfl <;>
    first | decide | (exfalso; omega)
  have b0 : (d0 == d1) = false := by simp; omega
  obtain ⟨R, hR⟩ : ∃ R, resV 20 d0 d1 d2 = R := ⟨_, rfl⟩
  rw [hR] at key ⊢
  clear hR h0 h1 f0
  unfold RsRes
  go_enter Tryd.func42, Tryd.ntmps42
  go_wp2_with fail
  refine wp_region_calm (fun _ w' => w'.cell? { block := g, off := 0 } = some (.int .i64 d0) ∧ w'.cell? { block := g, off := 1 } = some (.int .i64 d1)) (fun _ => false) [0, 1, 2, 3, 4, 5, 6, 7, 8, 9, 10, 11, 12, 13, 14, 15, 16, 17] 0 (by kernel_rfl) (by kernel_rfl) ?hst ?hS0 (fun w0 h0 => ?_)
  case hst => exact fun _ _ _ h r => ⟨r.cell h.1, r.cell h.2⟩
  case hS0 => exact ⟨by go_simp, by go_simp⟩
  iterate 11
    refine wpCalm_go rfl (by kernel_rfl) (fun K hK => ?_)
    apply Exists.intro
    refine ⟨fun M w hM hS => ?_, hK _ ?_⟩
    · have hc0 := hS.1
      have hc1 := hS.2
      unfold calmAt
      go_simp
      exact ⟨rfl, Rel.refl _⟩
    clear hK K
  iterate 4 (refine wpCalm_no rfl (by kernel_rfl) (fun K hK => hK _ ?_); clear hK K)
  iterate 3
    refine wpCalm_go rfl (by kernel_rfl) (fun K hK => ?_)
    apply Exists.intro
    refine ⟨fun M w hM hS => ?_, hK _ ?_⟩
    · have hc0 := hS.1
      have hc1 := hS.2
      unfold calmAt
      go_simp
      exact ⟨rfl, Rel.refl _⟩
    clear hK K
  refine wpAnyR_end (by kernel_rfl) (fun w3 h3' => ?_)
  (try simp only [Act.put, List.setIfInBounds_toArray, List.set_cons_zero, List.set_cons_succ])
  have h3 := h0.trans h3'
  clear h0 h3'
  have kz3 := h3.size
  (try simp only [World.size_alloc, World.size_setCell, World.size_drew] at kz3)
  have H3 := Lib.hid h3
  clear h3
  go_wp2
  go_ret2
  exact ⟨_, _, rfl, key.out.1, key.out.2, H3.out⟩

set_option maxRecDepth 20000 in
set_option maxHeartbeats 1000000 in
theorem res9_11 (d0 d1 d2 : Int) (g cap : Nat) (w : World) (hg : g < w.heap.size) (h0 : 1 ≤ d0 ∧ d0 ≤ 4) (h1 : 1 ≤ d1 ∧ d1 ≤ 4) (c0 : w.cell? ⟨g, 0, none⟩ = some (.int .i64 d0)) (c1 : w.cell? ⟨g, 1, none⟩ = some (.int .i64 d1)) (f0 : d0 = 2) :
    Calls Tryd.prog 42 #[.int .i64 9, .slice (some ⟨g, 0, none⟩) 2 cap] w (RsRes (resV 9 d0 d1 d2) w) := by
  have key : Hid (((d1 != 1)) = (!(resV 9 d0 d1 d2 == 0)) ∧ (((d1 != 1)) = true → d1 = resV 9 d0 d1 d2)) := by
    show _ ∧ _
    have e2 : resV 9 d0 d1 d2 = resV 9 d0 d1 1 := rfl
    rw [e2]
    clear c0 c1 hg
    rcases (show d0 = 1 ∨ d0 = 2 ∨ d0 = 3 ∨ d0 = 4 by omega) with rfl | rfl | rfl | rfl <;>
    rcases (show d1 = 1 ∨ d1 = 2 ∨ d1 = 3 ∨ d1 = 4 by omega) with rfl | rfl | rfl | rfl <;>
    first | decide | (exfalso; omega)
  have b0 : (d0 == 2) = true := by simp; omega
  obtain ⟨R, hR⟩ : ∃ R, resV 9 d0 d1 d2 = R := ⟨_, rfl⟩
  rw [hR] at key ⊢
  clear hR h0 h1 f0
  unfold RsRes
  go_enter Tryd.func42, Tryd.ntmps42
  go_wp2_with fail
  refine wp_region_calm (fun _ w' => w'.cell? { block := g, off := 0 } = some (.int .i64 d0) ∧ w'.cell? { block := g, off := 1 } = some (.int .i64 d1)) (fun _ => false) [0, 1, 2, 3, 4, 5, 6, 7, 8] 0 (by kernel_rfl) (by kernel_rfl) ?hst ?hS0 (fun w0 h0 => ?_)
  case hst => exact fun _ _ _ h r => ⟨r.cell h.1, r.cell h.2⟩
  case hS0 => exact ⟨by go_simp, by go_simp⟩
  iterate 9
    refine wpCalm_go rfl (by kernel_rfl) (fun K hK => ?_)
    apply Exists.intro
    refine ⟨fun M w hM hS => ?_, hK _ ?_⟩
    · have hc0 := hS.1
      have hc1 := hS.2
      unfold calmAt
      go_simp
      exact ⟨rfl, Rel.refl _⟩
    clear hK K
  refine wpAnyR_end (by kernel_rfl) (fun w3 h3' => ?_)
  (try simp only [Act.put, List.setIfInBounds_toArray, List.set_cons_zero, List.set_cons_succ])
  have h3 := h0.trans h3'
  clear h0 h3'
  have kz3 := h3.size
  (try simp only [World.size_alloc, World.size_setCell, World.size_drew] at kz3)
  have H3 := Lib.hid h3
  clear h3
  go_wp2
  go_ret2
  exact ⟨_, _, rfl, key.out.1, key.out.2, H3.out⟩

set_option maxRecDepth 20000 in
set_option maxHeartbeats 1000000 in
theorem res9_12 (d0 d1 d2 : Int) (g cap : Nat) (w : World) (hg : g < w.heap.size) (h0 : 1 ≤ d0 ∧ d0 ≤ 4) (h1 : 1 ≤ d1 ∧ d1 ≤ 4) (c0 : w.cell? ⟨g, 0, none⟩ = some (.int .i64 d0)) (c1 : w.cell? ⟨g, 1, none⟩ = some (.int .i64 d1)) (f0 : ¬ d0 = 2) (f1 : d1 = 2) :
    Calls Tryd.prog 42 #[.int .i64 9, .slice (some ⟨g, 0, none⟩) 2 cap] w (RsRes (resV 9 d0 d1 d2) w) := by
  have key : Hid (((d0 != 1)) = (!(resV 9 d0 d1 d2 == 0)) ∧ (((d0 != 1)) = true → d0 = resV 9 d0 d1 d2)) := by
    show _ ∧ _
    have e2 : resV 9 d0 d1 d2 = resV 9 d0 d1 1 := rfl
    rw [e2]
    clear c0 c1 hg
    rcases (show d0 = 1 ∨ d0 = 2 ∨ d0 = 3 ∨ d0 = 4 by omega) with rfl | rfl | rfl | rfl <;>
    rcases (show d1 = 1 ∨ d1 = 2 ∨ d1 = 3 ∨ d1 = 4 by omega) with rfl | rfl | rfl | rfl <;>
    first | decide | (exfalso; omega)
  have b0 : (d0 == 2) = false := by simp; omega
  have b1 : (d1 == 2) = true := by simp; omega
  obtain ⟨R, hR⟩ : ∃ R, resV 9 d0 d1 d2 = R := ⟨_, rfl⟩
  rw [hR] at key ⊢
  clear hR h0 h1 f0 f1
  unfold RsRes
  go_enter Tryd.func42, Tryd.ntmps42
  go_wp2_with fail
  refine wp_region_calm (fun _ w' => w'.cell? { block := g, off := 0 } = some (.int .i64 d0) ∧ w'.cell? { block := g, off := 1 } = some (.int .i64 d1)) (fun _ => false) [0, 1, 2, 3, 4, 5, 6, 7, 8, 9, 10, 11, 12, 13, 14] 0 (by kernel_rfl) (by kernel_rfl) ?hst ?hS0 (fun w0 h0 => ?_)
  case hst => exact fun _ _ _ h r => ⟨r.cell h.1, r.cell h.2⟩
  case hS0 => exact ⟨by go_simp, by go_simp⟩
  iterate 15
    refine wpCalm_go rfl (by kernel_rfl) (fun K hK => ?_)
    apply Exists.intro
    refine ⟨fun M w hM hS => ?_, hK _ ?_⟩
    · have hc0 := hS.1
      have hc1 := hS.2
      unfold calmAt
      go_simp
      exact ⟨rfl, Rel.refl _⟩
    clear hK K
  refine wpAnyR_end (by kernel_rfl) (fun w3 h3' => ?_)
  (try simp only [Act.put, List.setIfInBounds_toArray, List.set_cons_zero, List.set_cons_succ])
  have h3 := h0.trans h3'
  clear h0 h3'
  have kz3 := h3.size
  (try simp only [World.size_alloc, World.size_setCell, World.size_drew] at kz3)
  have H3 := Lib.hid h3
  clear h3
  go_wp2
  go_ret2
  exact ⟨_, _, rfl, key.out.1, key.out.2, H3.out⟩

set_option maxRecDepth 20000 in
set_option maxHeartbeats 1000000 in
theorem res9_13 (d0 d1 d2 : Int) (g cap : Nat) (w : World) (hg : g < w.heap.size) (h0 : 1 ≤ d0 ∧ d0 ≤ 4) (h1 : 1 ≤ d1 ∧ d1 ≤ 4) (c0 : w.cell? ⟨g, 0, none⟩ = some (.int .i64 d0)) (c1 : w.cell? ⟨g, 1, none⟩ = some (.int .i64 d1)) (f0 : ¬ d0 = 2) (f1 : ¬ d1 = 2) :
    Calls Tryd.prog 42 #[.int .i64 9, .slice (some ⟨g, 0, none⟩) 2 cap] w (RsRes (resV 9 d0 d1 d2) w) := by
  have key : Hid ((false) = (!(resV 9 d0 d1 d2 == 0)) ∧ ((false) = true → d0 = resV 9 d0 d1 d2)) := by
    show _ ∧ _
    have e2 : resV 9 d0 d1 d2 = resV 9 d0 d1 1 := rfl
    rw [e2]
    clear c0 c1 hg
    rcases (show d0 = 1 ∨ d0 = 2 ∨ d0 = 3 ∨ d0 = 4 by omega) with rfl | rfl | rfl | rfl <;>
    rcases (show d1 = 1 ∨ d1 = 2 ∨ d1 = 3 ∨ d1 = 4 by omega) with rfl | rfl | rfl | rfl <;>
    first | decide | (exfalso; omega)
  have b0 : (d0 == 2) = false := by simp; omega
  have b1 : (d1 == 2) = false := by simp; omega
  obtain ⟨R, hR⟩ : ∃ R, resV 9 d0 d1 d2 = R := ⟨_, rfl⟩
  rw [hR] at key ⊢
  clear hR h0 h1 f0 f1
  unfold RsRes
  go_enter Tryd.func42, Tryd.ntmps42
  go_wp2_with fail
  refine wp_region_calm (fun _ w' => w'.cell? { block := g, off := 0 } = some (.int .i64 d0) ∧ w'.cell? { block := g, off := 1 } = some (.int .i64 d1)) (fun _ => false) [0, 1, 2, 3, 4, 5, 6, 7, 8, 9, 10, 11, 12, 13, 14] 0 (by kernel_rfl) (by kernel_rfl) ?hst ?hS0 (fun w0 h0 => ?_)
  case hst => exact fun _ _ _ h r => ⟨r.cell h.1, r.cell h.2⟩
  case hS0 => exact ⟨by go_simp, by go_simp⟩
  iterate 8
    refine wpCalm_go rfl (by kernel_rfl) (fun K hK => ?_)
    apply Exists.intro
    refine ⟨fun M w hM hS => ?_, hK _ ?_⟩
    · have hc0 := hS.1
      have hc1 := hS.2
      unfold calmAt
      go_simp
      exact ⟨rfl, Rel.refl _⟩
    clear hK K
  iterate 4 (refine wpCalm_no rfl (by kernel_rfl) (fun K hK => hK _ ?_); clear hK K)
  iterate 3
    refine wpCalm_go rfl (by kernel_rfl) (fun K hK => ?_)
    apply Exists.intro
    refine ⟨fun M w hM hS => ?_, hK _ ?_⟩
    · have hc0 := hS.1
      have hc1 := hS.2
      unfold calmAt
      go_simp
      exact ⟨rfl, Rel.refl _⟩
    clear hK K
  refine wpAnyR_end (by kernel_rfl) (fun w3 h3' => ?_)
  (try simp only [Act.put, List.setIfInBounds_toArray, List.set_cons_zero, List.set_cons_succ])
  have h3 := h0.trans h3'
  clear h0 h3'
  have kz3 := h3.size
  (try simp only [World.size_alloc, World.size_setCell, World.size_drew] at kz3)
  have H3 := Lib.hid h3
  clear h3
  go_wp2
  go_ret2
  exact ⟨_, _, rfl, key.out.1, key.out.2, H3.out⟩

set_option maxRecDepth 20000 in
set_option maxHeartbeats 1000000 in
theorem res10_14 (d0 d1 d2 : Int) (g cap : Nat) (w : World) (hg : g < w.heap.size) (h0 : 1 ≤ d0 ∧ d0 ≤ 4) (h1 : 1 ≤ d1 ∧ d1 ≤ 4) (c0 : w.cell? ⟨g, 0, none⟩ = some (.int .i64 d0)) (c1 : w.cell? ⟨g, 1, none⟩ = some (.int .i64 d1)) (f0 : d1 = 2) :
    Calls Tryd.prog 42 #[.int .i64 10, .slice (some ⟨g, 0, none⟩) 2 cap] w (RsRes (resV 10 d0 d1 d2) w) := by
  have key : Hid (((d0 != 1)) = (!(resV 10 d0 d1 d2 == 0)) ∧ (((d0 != 1)) = true → d0 = resV 10 d0 d1 d2)) := by
    show _ ∧ _
    have e2 : resV 10 d0 d1 d2 = resV 10 d0 d1 1 := rfl
    rw [e2]
    clear c0 c1 hg
    rcases (show d0 = 1 ∨ d0 = 2 ∨ d0 = 3 ∨ d0 = 4 by omega) with rfl | rfl | rfl | rfl <;>
    rcases (show d1 = 1 ∨ d1 = 2 ∨ d1 = 3 ∨ d1 = 4 by omega) with rfl | rfl | rfl | rfl <;>
    first | decide | (exfalso; omega)
  have b0 : (d1 == 2) = true := by simp; omega
  obtain ⟨R, hR⟩ : ∃ R, resV 10 d0 d1 d2 = R := ⟨_, rfl⟩
  rw [hR] at key ⊢
  clear hR h0 h1 f0
  unfold RsRes
  go_enter Tryd.func42, Tryd.ntmps42
  go_wp2_with fail
  refine wp_region_calm (fun _ w' => w'.cell? { block := g, off := 0 } = some (.int .i64 d0) ∧ w'.cell? { block := g, off := 1 } = some (.int .i64 d1)) (fun _ => false) [0, 1, 2, 3, 4, 5, 6, 7, 8] 0 (by kernel_rfl) (by kernel_rfl) ?hst ?hS0 (fun w0 h0 => ?_)
  case hst => exact fun _ _ _ h r => ⟨r.cell h.1, r.cell h.2⟩
  case hS0 => exact ⟨by go_simp, by go_simp⟩
  iterate 9
    refine wpCalm_go rfl (by kernel_rfl) (fun K hK => ?_)
    apply Exists.intro
    refine ⟨fun M w hM hS => ?_, hK _ ?_⟩
    · have hc0 := hS.1
      have hc1 := hS.2
      unfold calmAt
      go_simp
      exact ⟨rfl, Rel.refl _⟩
    clear hK K
  refine wpAnyR_end (by kernel_rfl) (fun w3 h3' => ?_)
  (try simp only [Act.put, List.setIfInBounds_toArray, List.set_cons_zero, List.set_cons_succ])
  have h3 := h0.trans h3'
  clear h0 h3'
  have kz3 := h3.size
  (try simp only [World.size_alloc, World.size_setCell, World.size_drew] at kz3)
  have H3 := Lib.hid h3
  clear h3
  go_wp2
  go_ret2
  exact ⟨_, _, rfl, key.out.1, key.out.2, H3.out⟩

set_option maxRecDepth 20000 in
set_option maxHeartbeats 1000000 in
theorem res10_15 (d0 d1 d2 : Int) (g cap : Nat) (w : World) (hg : g < w.heap.size) (h0 : 1 ≤ d0 ∧ d0 ≤ 4) (h1 : 1 ≤ d1 ∧ d1 ≤ 4) (c0 : w.cell? ⟨g, 0, none⟩ = some (.int .i64 d0)) (c1 : w.cell? ⟨g, 1, none⟩ = some (.int .i64 d1)) (f0 : ¬ d1 = 2) (f1 : d0 = d1) :
    Calls Tryd.prog 42 #[.int .i64 10, .slice (some ⟨g, 0, none⟩) 2 cap] w (RsRes (resV 10 d0 d1 d2) w) := by
  have key : Hid (((d0 != 1)) = (!(resV 10 d0 d1 d2 == 0)) ∧ (((d0 != 1)) = true → 2 = resV 10 d0 d1 d2)) := by
    show _ ∧ _
    have e2 : resV 10 d0 d1 d2 = resV 10 d0 d1 1 := rfl
    rw [e2]
    clear c0 c1 hg
    rcases (show d0 = 1 ∨ d0 = 2 ∨ d0 = 3 ∨ d0 = 4 by omega) with rfl | rfl | rfl | rfl <;>
    rcases (show d1 = 1 ∨ d1 = 2 ∨ d1 = 3 ∨ d1 = 4 by omega) with rfl | rfl | rfl | rfl <;>
    first | decide | (exfalso; omega)
  have b0 : (d1 == 2) = false := by simp; omega
  have b1 : (d0 == d1) = true := by simp; omega
  obtain ⟨R, hR⟩ : ∃ R, resV 10 d0 d1 d2 = R := ⟨_, rfl⟩
  rw [hR] at key ⊢
  clear hR h0 h1 f0 f1
  unfold RsRes
  go_enter Tryd.func42, Tryd.ntmps42
  go_wp2_with fail
  refine wp_region_calm (fun _ w' => w'.cell? { block := g, off := 0 } = some (.int .i64 d0) ∧ w'.cell? { block := g, off := 1 } = some (.int .i64 d1)) (fun _ => false) [0, 1, 2, 3, 4, 5, 6, 7, 8, 9, 10, 11, 12, 13, 14] 0 (by kernel_rfl) (by kernel_rfl) ?hst ?hS0 (fun w0 h0 => ?_)
  case hst => exact fun _ _ _ h r => ⟨r.cell h.1, r.cell h.2⟩
  case hS0 => exact ⟨by go_simp, by go_simp⟩
  iterate 15
    refine wpCalm_go rfl (by kernel_rfl) (fun K hK => ?_)
    apply Exists.intro
    refine ⟨fun M w hM hS => ?_, hK _ ?_⟩
    · have hc0 := hS.1
      have hc1 := hS.2
      unfold calmAt
      go_simp
      exact ⟨rfl, Rel.refl _⟩
    clear hK K
  refine wpAnyR_end (by kernel_rfl) (fun w3 h3' => ?_)
  (try simp only [Act.put, List.setIfInBounds_toArray, List.set_cons_zero, List.set_cons_succ])
  have h3 := h0.trans h3'
  clear h0 h3'
  have kz3 := h3.size
  (try simp only [World.size_alloc, World.size_setCell, World.size_drew] at kz3)
  have H3 := Lib.hid h3
  clear h3
  go_wp2
  go_ret2
  exact ⟨_, _, rfl, key.out.1, key.out.2, H3.out⟩

set_option maxRecDepth 20000 in
set_option maxHeartbeats 1000000 in
theorem res10_16 (d0 d1 d2 : Int) (g cap : Nat) (w : World) (hg : g < w.heap.size) (h0 : 1 ≤ d0 ∧ d0 ≤ 4) (h1 : 1 ≤ d1 ∧ d1 ≤ 4) (c0 : w.cell? ⟨g, 0, none⟩ = some (.int .i64 d0)) (c1 : w.cell? ⟨g, 1, none⟩ = some (.int .i64 d1)) (f0 : ¬ d1 = 2) (f1 : ¬ d0 = d1) :
    Calls Tryd.prog 42 #[.int .i64 10, .slice (some ⟨g, 0, none⟩) 2 cap] w (RsRes (resV 10 d0 d1 d2) w) := by
  have key : Hid ((false) = (!(resV 10 d0 d1 d2 == 0)) ∧ ((false) = true → 2 = resV 10 d0 d1 d2)) := by
    show _ ∧ _
    have e2 : resV 10 d0 d1 d2 = resV 10 d0 d1 1 := rfl
    rw [e2]
    clear c0 c1 hg
    rcases (show d0 = 1 ∨ d0 = 2 ∨ d0 = 3 ∨ d0 = 4 by omega) with rfl | rfl | rfl | rfl <;>
    rcases (show d1 = 1 ∨ d1 = 2 ∨ d1 = 3 ∨ d1 = 4 by omega) with rfl | rfl | rfl | rfl <;>
    first | decide | (exfalso; omega)
  have b0 : (d1 == 2) = false := by simp; omega
  have b1 : (d0 == d1) = false := by simp; omega
  obtain ⟨R, hR⟩ : ∃ R, resV 10 d0 d1 d2 = R := ⟨_, rfl⟩
  rw [hR] at key ⊢
  clear hR h0 h1 f0 f1
  unfold RsRes
  go_enter Tryd.func42, Tryd.ntmps42
  go_wp2_with fail
  refine wp_region_calm (fun _ w' => w'.cell? { block := g, off := 0 } = some (.int .i64 d0) ∧ w'.cell? { block := g, off := 1 } = some (.int .i64 d1)) (fun _ => false) [0, 1, 2, 3, 4, 5, 6, 7, 8, 9, 10, 11, 12, 13, 14] 0 (by kernel_rfl) (by kernel_rfl) ?hst ?hS0 (fun w0 h0 => ?_)
  case hst => exact fun _ _ _ h r => ⟨r.cell h.1, r.cell h.2⟩
  case hS0 => exact ⟨by go_simp, by go_simp⟩
  iterate 8
    refine wpCalm_go rfl (by kernel_rfl) (fun K hK => ?_)
    apply Exists.intro
    refine ⟨fun M w hM hS => ?_, hK _ ?_⟩
    · have hc0 := hS.1
      have hc1 := hS.2
      unfold calmAt
      go_simp
      exact ⟨rfl, Rel.refl _⟩
    clear hK K
  iterate 4 (refine wpCalm_no rfl (by kernel_rfl) (fun K hK => hK _ ?_); clear hK K)
  iterate 3
    refine wpCalm_go rfl (by kernel_rfl) (fun K hK => ?_)
    apply Exists.intro
    refine ⟨fun M w hM hS => ?_, hK _ ?_⟩
    · have hc0 := hS.1
      have hc1 := hS.2
      unfold calmAt
      go_simp
      exact ⟨rfl, Rel.refl _⟩
    clear hK K
  refine wpAnyR_end (by kernel_rfl) (fun w3 h3' => ?_)
  (try simp only [Act.put, List.setIfInBounds_toArray, List.set_cons_zero, List.set_cons_succ])
  have h3 := h0.trans h3'
  clear h0 h3'
  have kz3 := h3.size
  (try simp only [World.size_alloc, World.size_setCell, World.size_drew] at kz3)
  have H3 := Lib.hid h3
  clear h3
  go_wp2
  go_ret2
  exact ⟨_, _, rfl, key.out.1, key.out.2, H3.out⟩

set_option maxRecDepth 20000 in
set_option maxHeartbeats 1000000 in
theorem res11_17 (d0 d1 d2 : Int) (g cap : Nat) (w : World) (hg : g < w.heap.size) (h0 : 1 ≤ d0 ∧ d0 ≤ 4) (h1 : 1 ≤ d1 ∧ d1 ≤ 4) (c0 : w.cell? ⟨g, 0, none⟩ = some (.int .i64 d0)) (c1 : w.cell? ⟨g, 1, none⟩ = some (.int .i64 d1)) (f0 : d0 = d1) :
    Calls Tryd.prog 42 #[.int .i64 11, .slice (some ⟨g, 0, none⟩) 2 cap] w (RsRes (resV 11 d0 d1 d2) w) := by
  have key : Hid (((d0 != 1)) = (!(resV 11 d0 d1 d2 == 0)) ∧ (((d0 != 1)) = true → 1 = resV 11 d0 d1 d2)) := by
    show _ ∧ _
    have e2 : resV 11 d0 d1 d2 = resV 11 d0 d1 1 := rfl
    rw [e2]
    clear c0 c1 hg
    rcases (show d0 = 1 ∨ d0 = 2 ∨ d0 = 3 ∨ d0 = 4 by omega) with rfl | rfl | rfl | rfl <;>
    rcases (show d1 = 1 ∨ d1 = 2 ∨ d1 = 3 ∨ d1 = 4 by omega) with rfl | rfl | rfl | rfl <;>
    first | decide | (exfalso; omega)
  have b0 : (d0 == d1) = true := by simp; omega
  obtain ⟨R, hR⟩ : ∃ R, resV 11 d0 d1 d2 = R := ⟨_, rfl⟩
  rw [hR] at key ⊢
  clear hR h0 h1 f0
  unfold RsRes
  go_enter Tryd.func42, Tryd.ntmps42
  go_wp2_with fail
  refine wp_region_calm (fun _ w' => w'.cell? { block := g, off := 0 } = some (.int .i64 d0) ∧ w'.cell? { block := g, off := 1 } = some (.int .i64 d1)) (fun _ => false) [0, 1, 2, 3, 4, 5, 6, 7, 8, 9, 10, 11, 12, 13, 14] 0 (by kernel_rfl) (by kernel_rfl) ?hst ?hS0 (fun w0 h0 => ?_)
  case hst => exact fun _ _ _ h r => ⟨r.cell h.1, r.cell h.2⟩
  case hS0 => exact ⟨by go_simp, by go_simp⟩
  iterate 15
    refine wpCalm_go rfl (by kernel_rfl) (fun K hK => ?_)
    apply Exists.intro
    refine ⟨fun M w hM hS => ?_, hK _ ?_⟩
    · have hc0 := hS.1
      have hc1 := hS.2
      unfold calmAt
      go_simp
      exact ⟨rfl, Rel.refl _⟩
    clear hK K
  refine wpAnyR_end (by kernel_rfl) (fun w3 h3' => ?_)
  (try simp only [Act.put, List.setIfInBounds_toArray, List.set_cons_zero, List.set_cons_succ])
  have h3 := h0.trans h3'
  clear h0 h3'
  have kz3 := h3.size
  (try simp only [World.size_alloc, World.size_setCell, World.size_drew] at kz3)
  have H3 := Lib.hid h3
  clear h3
  go_wp2
  go_ret2
  exact ⟨_, _, rfl, key.out.1, key.out.2, H3.out⟩

set_option maxRecDepth 20000 in
set_option maxHeartbeats 1000000 in
theorem res11_18 (d0 d1 d2 : Int) (g cap : Nat) (w : World) (hg : g < w.heap.size) (h0 : 1 ≤ d0 ∧ d0 ≤ 4) (h1 : 1 ≤ d1 ∧ d1 ≤ 4) (c0 : w.cell? ⟨g, 0, none⟩ = some (.int .i64 d0)) (c1 : w.cell? ⟨g, 1, none⟩ = some (.int .i64 d1)) (f0 : ¬ d0 = d1) :
    Calls Tryd.prog 42 #[.int .i64 11, .slice (some ⟨g, 0, none⟩) 2 cap] w (RsRes (resV 11 d0 d1 d2) w) := by
  have key : Hid ((false) = (!(resV 11 d0 d1 d2 == 0)) ∧ ((false) = true → 1 = resV 11 d0 d1 d2)) := by
    show _ ∧ _
    have e2 : resV 11 d0 d1 d2 = resV 11 d0 d1 1 := rfl
    rw [e2]
    clear c0 c1 hg
    rcases (show d0 = 1 ∨ d0 = 2 ∨ d0 = 3 ∨ d0 = 4 by omega) with rfl | rfl | rfl | rfl <;>
    rcases (show d1 = 1 ∨ d1 = 2 ∨ d1 = 3 ∨ d1 = 4 by omega) with rfl | rfl | rfl | rfl <;>
    first | decide | (exfalso; omega)
  have b0 : (d0 == d1) = false := by simp; omega
  obtain ⟨R, hR⟩ : ∃ R, resV 11 d0 d1 d2 = R := ⟨_, rfl⟩
  rw [hR] at key ⊢
  clear hR h0 h1 f0
  unfold RsRes
  go_enter Tryd.func42, Tryd.ntmps42
  go_wp2_with fail
  refine wp_region_calm (fun _ w' => w'.cell? { block := g, off := 0 } = some (.int .i64 d0) ∧ w'.cell? { block := g, off := 1 } = some (.int .i64 d1)) (fun _ => false) [0, 1, 2, 3, 4, 5, 6, 7, 8, 9, 10, 11, 12, 13, 14] 0 (by kernel_rfl) (by kernel_rfl) ?hst ?hS0 (fun w0 h0 => ?_)
  case hst => exact fun _ _ _ h r => ⟨r.cell h.1, r.cell h.2⟩
  case hS0 => exact ⟨by go_simp, by go_simp⟩
  iterate 8
    refine wpCalm_go rfl (by kernel_rfl) (fun K hK => ?_)
    apply Exists.intro
    refine ⟨fun M w hM hS => ?_, hK _ ?_⟩
    · have hc0 := hS.1
      have hc1 := hS.2
      unfold calmAt
      go_simp
      exact ⟨rfl, Rel.refl _⟩
    clear hK K
  iterate 4 (refine wpCalm_no rfl (by kernel_rfl) (fun K hK => hK _ ?_); clear hK K)
  iterate 3
    refine wpCalm_go rfl (by kernel_rfl) (fun K hK => ?_)
    apply Exists.intro
    refine ⟨fun M w hM hS => ?_, hK _ ?_⟩
    · have hc0 := hS.1
      have hc1 := hS.2
      unfold calmAt
      go_simp
      exact ⟨rfl, Rel.refl _⟩
    clear hK K
  refine wpAnyR_end (by kernel_rfl) (fun w3 h3' => ?_)
  (try simp only [Act.put, List.setIfInBounds_toArray, List.set_cons_zero, List.set_cons_succ])
  have h3 := h0.trans h3'
  clear h0 h3'
  have kz3 := h3.size
  (try simp only [World.size_alloc, World.size_setCell, World.size_drew] at kz3)
  have H3 := Lib.hid h3
  clear h3
  go_wp2
  go_ret2
  exact ⟨_, _, rfl, key.out.1, key.out.2, H3.out⟩

set_option maxRecDepth 20000 in
set_option maxHeartbeats 1000000 in
theorem res12_19 (d0 d1 d2 : Int) (g cap : Nat) (w : World) (hg : g < w.heap.size) (h0 : 1 ≤ d0 ∧ d0 ≤ 4) (h1 : 1 ≤ d1 ∧ d1 ≤ 4) (c0 : w.cell? ⟨g, 0, none⟩ = some (.int .i64 d0)) (c1 : w.cell? ⟨g, 1, none⟩ = some (.int .i64 d1)) (f0 : d0 = d1) :
    Calls Tryd.prog 42 #[.int .i64 12, .slice (some ⟨g, 0, none⟩) 2 cap] w (RsRes (resV 12 d0 d1 d2) w) := by
  have key : Hid (((d0 != 1)) = (!(resV 12 d0 d1 d2 == 0)) ∧ (((d0 != 1)) = true → 1 = resV 12 d0 d1 d2)) := by
    show _ ∧ _
    have e2 : resV 12 d0 d1 d2 = resV 12 d0 d1 1 := rfl
    rw [e2]
    clear c0 c1 hg
    rcases (show d0 = 1 ∨ d0 = 2 ∨ d0 = 3 ∨ d0 = 4 by omega) with rfl | rfl | rfl | rfl <;>
    rcases (show d1 = 1 ∨ d1 = 2 ∨ d1 = 3 ∨ d1 = 4 by omega) with rfl | rfl | rfl | rfl <;>
    first | decide | (exfalso; omega)
  have b0 : (d0 == d1) = true := by simp; omega
  obtain ⟨R, hR⟩ : ∃ R, resV 12 d0 d1 d2 = R := ⟨_, rfl⟩
  rw [hR] at key ⊢
  clear hR h0 h1 f0
  unfold RsRes
  go_enter Tryd.func42, Tryd.ntmps42
  go_wp2_with fail
  refine wp_region_calm (fun _ w' => w'.cell? { block := g, off := 0 } = some (.int .i64 d0) ∧ w'.cell? { block := g, off := 1 } = some (.int .i64 d1)) (fun _ => false) [0, 1, 2, 3, 4, 5, 6, 7, 8, 9, 10, 11, 12, 13, 14] 0 (by kernel_rfl) (by kernel_rfl) ?hst ?hS0 (fun w0 h0 => ?_)
  case hst => exact fun _ _ _ h r => ⟨r.cell h.1, r.cell h.2⟩
  case hS0 => exact ⟨by go_simp, by go_simp⟩
  iterate 15
    refine wpCalm_go rfl (by kernel_rfl) (fun K hK => ?_)
    apply Exists.intro
    refine ⟨fun M w hM hS => ?_, hK _ ?_⟩
    · have hc0 := hS.1
      have hc1 := hS.2
      unfold calmAt
      go_simp
      exact ⟨rfl, Rel.refl _⟩
    clear hK K
  refine wpAnyR_end (by kernel_rfl) (fun w3 h3' => ?_)
  (try simp only [Act.put, List.setIfInBounds_toArray, List.set_cons_zero, List.set_cons_succ])
  have h3 := h0.trans h3'
  clear h0 h3'
  have kz3 := h3.size
  (try simp only [World.size_alloc, World.size_setCell, World.size_drew] at kz3)
  have H3 := Lib.hid h3
  clear h3
  go_wp2
  go_ret2
  exact ⟨_, _, rfl, key.out.1, key.out.2, H3.out⟩

set_option maxRecDepth 20000 in
set_option maxHeartbeats 1000000 in
theorem res12_20 (d0 d1 d2 : Int) (g cap : Nat) (w : World) (hg : g < w.heap.size) (h0 : 1 ≤ d0 ∧ d0 ≤ 4) (h1 : 1 ≤ d1 ∧ d1 ≤ 4) (c0 : w.cell? ⟨g, 0, none⟩ = some (.int .i64 d0)) (c1 : w.cell? ⟨g, 1, none⟩ = some (.int .i64 d1)) (f0 : ¬ d0 = d1) :
    Calls Tryd.prog 42 #[.int .i64 12, .slice (some ⟨g, 0, none⟩) 2 cap] w (RsRes (resV 12 d0 d1 d2) w) := by
  have key : Hid ((false) = (!(resV 12 d0 d1 d2 == 0)) ∧ ((false) = true → 1 = resV 12 d0 d1 d2)) := by
    show _ ∧ _
    have e2 : resV 12 d0 d1 d2 = resV 12 d0 d1 1 := rfl
    rw [e2]
    clear c0 c1 hg
    rcases (show d0 = 1 ∨ d0 = 2 ∨ d0 = 3 ∨ d0 = 4 by omega) with rfl | rfl | rfl | rfl <;>
    rcases (show d1 = 1 ∨ d1 = 2 ∨ d1 = 3 ∨ d1 = 4 by omega) with rfl | rfl | rfl | rfl <;>
    first | decide | (exfalso; omega)
  have b0 : (d0 == d1) = false := by simp; omega
  obtain ⟨R, hR⟩ : ∃ R, resV 12 d0 d1 d2 = R := ⟨_, rfl⟩
  rw [hR] at key ⊢
  clear hR h0 h1 f0
  unfold RsRes
  go_enter Tryd.func42, Tryd.ntmps42
  go_wp2_with fail
  refine wp_region_calm (fun _ w' => w'.cell? { block := g, off := 0 } = some (.int .i64 d0) ∧ w'.cell? { block := g, off := 1 } = some (.int .i64 d1)) (fun _ => false) [0, 1, 2, 3, 4, 5, 6, 7, 8, 9, 10, 11, 12, 13, 14] 0 (by kernel_rfl) (by kernel_rfl) ?hst ?hS0 (fun w0 h0 => ?_)
  case hst => exact fun _ _ _ h r => ⟨r.cell h.1, r.cell h.2⟩
  case hS0 => exact ⟨by go_simp, by go_simp⟩
  iterate 8
    refine wpCalm_go rfl (by kernel_rfl) (fun K hK => ?_)
    apply Exists.intro
    refine ⟨fun M w hM hS => ?_, hK _ ?_⟩
    · have hc0 := hS.1
      have hc1 := hS.2
      unfold calmAt
      go_simp
      exact ⟨rfl, Rel.refl _⟩
    clear hK K
  iterate 4 (refine wpCalm_no rfl (by kernel_rfl) (fun K hK => hK _ ?_); clear hK K)
  iterate 3
    refine wpCalm_go rfl (by kernel_rfl) (fun K hK => ?_)
    apply Exists.intro
    refine ⟨fun M w hM hS => ?_, hK _ ?_⟩
    · have hc0 := hS.1
      have hc1 := hS.2
      unfold calmAt
      go_simp
      exact ⟨rfl, Rel.refl _⟩
    clear hK K
  refine wpAnyR_end (by kernel_rfl) (fun w3 h3' => ?_)
  (try simp only [Act.put, List.setIfInBounds_toArray, List.set_cons_zero, List.set_cons_succ])
  have h3 := h0.trans h3'
  clear h0 h3'
  have kz3 := h3.size
  (try simp only [World.size_alloc, World.size_setCell, World.size_drew] at kz3)
  have H3 := Lib.hid h3
  clear h3
  go_wp2
  go_ret2
  exact ⟨_, _, rfl, key.out.1, key.out.2, H3.out⟩

set_option maxRecDepth 20000 in
set_option maxHeartbeats 1000000 in
theorem res13_21 (d0 d1 d2 : Int) (g cap : Nat) (w : World) (hg : g < w.heap.size) (h0 : 1 ≤ d0 ∧ d0 ≤ 4) (h1 : 1 ≤ d1 ∧ d1 ≤ 4) (c0 : w.cell? ⟨g, 0, none⟩ = some (.int .i64 d0)) (c1 : w.cell? ⟨g, 1, none⟩ = some (.int .i64 d1)) (f0 : d0 = d1) :
    Calls Tryd.prog 42 #[.int .i64 13, .slice (some ⟨g, 0, none⟩) 2 cap] w (RsRes (resV 13 d0 d1 d2) w) := by
  have key : Hid (((d0 != 1)) = (!(resV 13 d0 d1 d2 == 0)) ∧ (((d0 != 1)) = true → 1 = resV 13 d0 d1 d2)) := by
    show _ ∧ _
    have e2 : resV 13 d0 d1 d2 = resV 13 d0 d1 1 := rfl
    rw [e2]
    clear c0 c1 hg
    rcases (show d0 = 1 ∨ d0 = 2 ∨ d0 = 3 ∨ d0 = 4 by omega) with rfl | rfl | rfl | rfl <;>
    rcases (show d1 = 1 ∨ d1 = 2 ∨ d1 = 3 ∨ d1 = 4 by omega) with rfl | rfl | rfl | rfl <;>
    first | decide | (exfalso; omega)
  have b0 : (d0 == d1) = true := by simp; omega
  obtain ⟨R, hR⟩ : ∃ R, resV 13 d0 d1 d2 = R := ⟨_, rfl⟩
  rw [hR] at key ⊢
  clear hR h0 h1 f0
  unfold RsRes
  go_enter Tryd.func42, Tryd.ntmps42
  go_wp2_with fail
  refine wp_region_calm (fun _ w' => w'.cell? { block := g, off := 0 } = some (.int .i64 d0) ∧ w'.cell? { block := g, off := 1 } = some (.int .i64 d1)) (fun _ => false) [0, 1, 2, 3, 4, 5, 6, 7, 8, 9, 10, 11, 12, 13, 14] 0 (by kernel_rfl) (by kernel_rfl) ?hst ?hS0 (fun w0 h0 => ?_)
  case hst => exact fun _ _ _ h r => ⟨r.cell h.1, r.cell h.2⟩
  case hS0 => exact ⟨by go_simp, by go_simp⟩
  iterate 15
    refine wpCalm_go rfl (by kernel_rfl) (fun K hK => ?_)
    apply Exists.intro
    refine ⟨fun M w hM hS => ?_, hK _ ?_⟩
    · have hc0 := hS.1
      have hc1 := hS.2
      unfold calmAt
      go_simp
      exact ⟨rfl, Rel.refl _⟩
    clear hK K
  refine wpAnyR_end (by kernel_rfl) (fun w3 h3' => ?_)
  (try simp only [Act.put, List.setIfInBounds_toArray, List.set_cons_zero, List.set_cons_succ])
  have h3 := h0.trans h3'
  clear h0 h3'
  have kz3 := h3.size
  (try simp only [World.size_alloc, World.size_setCell, World.size_drew] at kz3)
  have H3 := Lib.hid h3
  clear h3
  go_wp2
  go_ret2
  exact ⟨_, _, rfl, key.out.1, key.out.2, H3.out⟩

set_option maxRecDepth 20000 in
set_option maxHeartbeats 1000000 in
theorem res13_22 (d0 d1 d2 : Int) (g cap : Nat) (w : World) (hg : g < w.heap.size) (h0 : 1 ≤ d0 ∧ d0 ≤ 4) (h1 : 1 ≤ d1 ∧ d1 ≤ 4) (c0 : w.cell? ⟨g, 0, none⟩ = some (.int .i64 d0)) (c1 : w.cell? ⟨g, 1, none⟩ = some (.int .i64 d1)) (f0 : ¬ d0 = d1) :
    Calls Tryd.prog 42 #[.int .i64 13, .slice (some ⟨g, 0, none⟩) 2 cap] w (RsRes (resV 13 d0 d1 d2) w) := by
  have key : Hid ((false) = (!(resV 13 d0 d1 d2 == 0)) ∧ ((false) = true → 1 = resV 13 d0 d1 d2)) := by
    show _ ∧ _
    have e2 : resV 13 d0 d1 d2 = resV 13 d0 d1 1 := rfl
    rw [e2]
    clear c0 c1 hg
    rcases (show d0 = 1 ∨ d0 = 2 ∨ d0 = 3 ∨ d0 = 4 by omega) with rfl | rfl | rfl | rfl <;>
    rcases (show d1 = 1 ∨ d1 = 2 ∨ d1 = 3 ∨ d1 = 4 by omega) with rfl | rfl | rfl | rfl <;>
    first | decide | (exfalso; omega)
  have b0 : (d0 == d1) = false := by simp; omega
  obtain ⟨R, hR⟩ : ∃ R, resV 13 d0 d1 d2 = R := ⟨_, rfl⟩
  rw [hR] at key ⊢
  clear hR h0 h1 f0
  unfold RsRes
  go_enter Tryd.func42, Tryd.ntmps42
  go_wp2_with fail
  refine wp_region_calm (fun _ w' => w'.cell? { block := g, off := 0 } = some (.int .i64 d0) ∧ w'.cell? { block := g, off := 1 } = some (.int .i64 d1)) (fun _ => false) [0, 1, 2, 3, 4, 5, 6, 7, 8, 9, 10, 11, 12, 13, 14] 0 (by kernel_rfl) (by kernel_rfl) ?hst ?hS0 (fun w0 h0 => ?_)
  case hst => exact fun _ _ _ h r => ⟨r.cell h.1, r.cell h.2⟩
  case hS0 => exact ⟨by go_simp, by go_simp⟩
  iterate 8
    refine wpCalm_go rfl (by kernel_rfl) (fun K hK => ?_)
    apply Exists.intro
    refine ⟨fun M w hM hS => ?_, hK _ ?_⟩
    · have hc0 := hS.1
      have hc1 := hS.2
      unfold calmAt
      go_simp
      exact ⟨rfl, Rel.refl _⟩
    clear hK K
  iterate 4 (refine wpCalm_no rfl (by kernel_rfl) (fun K hK => hK _ ?_); clear hK K)
  iterate 3
    refine wpCalm_go rfl (by kernel_rfl) (fun K hK => ?_)
    apply Exists.intro
    refine ⟨fun M w hM hS => ?_, hK _ ?_⟩
    · have hc0 := hS.1
      have hc1 := hS.2
      unfold calmAt
      go_simp
      exact ⟨rfl, Rel.refl _⟩
    clear hK K
  refine wpAnyR_end (by kernel_rfl) (fun w3 h3' => ?_)
  (try simp only [Act.put, List.setIfInBounds_toArray, List.set_cons_zero, List.set_cons_succ])
  have h3 := h0.trans h3'
  clear h0 h3'
  have kz3 := h3.size
  (try simp only [World.size_alloc, World.size_setCell, World.size_drew] at kz3)
  have H3 := Lib.hid h3
  clear h3
  go_wp2
  go_ret2
  exact ⟨_, _, rfl, key.out.1, key.out.2, H3.out⟩

set_option maxRecDepth 20000 in
set_option maxHeartbeats 1000000 in
theorem res14_23 (d0 d1 d2 : Int) (g cap : Nat) (w : World) (hg : g < w.heap.size) (h0 : 1 ≤ d0 ∧ d0 ≤ 4) (h1 : 1 ≤ d1 ∧ d1 ≤ 4) (c0 : w.cell? ⟨g, 0, none⟩ = some (.int .i64 d0)) (c1 : w.cell? ⟨g, 1, none⟩ = some (.int .i64 d1)) (f0 : d0 = d1) :
    Calls Tryd.prog 42 #[.int .i64 14, .slice (some ⟨g, 0, none⟩) 2 cap] w (RsRes (resV 14 d0 d1 d2) w) := by
  have key : Hid (((d0 != 1)) = (!(resV 14 d0 d1 d2 == 0)) ∧ (((d0 != 1)) = true → 1 = resV 14 d0 d1 d2)) := by
    show _ ∧ _
    have e2 : resV 14 d0 d1 d2 = resV 14 d0 d1 1 := rfl
    rw [e2]
    clear c0 c1 hg
    rcases (show d0 = 1 ∨ d0 = 2 ∨ d0 = 3 ∨ d0 = 4 by omega) with rfl | rfl | rfl | rfl <;>
    rcases (show d1 = 1 ∨ d1 = 2 ∨ d1 = 3 ∨ d1 = 4 by omega) with rfl | rfl | rfl | rfl <;>
    first | decide | (exfalso; omega)
  have b0 : (d0 == d1) = true := by simp; omega
  obtain ⟨R, hR⟩ : ∃ R, resV 14 d0 d1 d2 = R := ⟨_, rfl⟩
  rw [hR] at key ⊢
  clear hR h0 h1 f0
  unfold RsRes
  go_enter Tryd.func42, Tryd.ntmps42
  go_wp2_with fail
  refine wp_region_calm (fun _ w' => w'.cell? { block := g, off := 0 } = some (.int .i64 d0) ∧ w'.cell? { block := g, off := 1 } = some (.int .i64 d1)) (fun _ => false) [0, 1, 2, 3, 4, 5, 6, 7, 8, 9, 10, 11, 12, 13, 14] 0 (by kernel_rfl) (by kernel_rfl) ?hst ?hS0 (fun w0 h0 => ?_)
  case hst => exact fun _ _ _ h r => ⟨r.cell h.1, r.cell h.2⟩
  case hS0 => exact ⟨by go_simp, by go_simp⟩
  iterate 15
    refine wpCalm_go rfl (by kernel_rfl) (fun K hK => ?_)
    apply Exists.intro
    refine ⟨fun M w hM hS => ?_, hK _ ?_⟩
    · have hc0 := hS.1
      have hc1 := hS.2
      unfold calmAt
      go_simp
      exact ⟨rfl, Rel.refl _⟩
    clear hK K
  refine wpAnyR_end (by kernel_rfl) (fun w3 h3' => ?_)
  (try simp only [Act.put, List.setIfInBounds_toArray, List.set_cons_zero, List.set_cons_succ])
  have h3 := h0.trans h3'
  clear h0 h3'
  have kz3 := h3.size
  (try simp only [World.size_alloc, World.size_setCell, World.size_drew] at kz3)
  have H3 := Lib.hid h3
  clear h3
  go_wp2
  go_ret2
  exact ⟨_, _, rfl, key.out.1, key.out.2, H3.out⟩

set_option maxRecDepth 20000 in
set_option maxHeartbeats 1000000 in
theorem res14_24 (d0 d1 d2 : Int) (g cap : Nat) (w : World) (hg : g < w.heap.size) (h0 : 1 ≤ d0 ∧ d0 ≤ 4) (h1 : 1 ≤ d1 ∧ d1 ≤ 4) (c0 : w.cell? ⟨g, 0, none⟩ = some (.int .i64 d0)) (c1 : w.cell? ⟨g, 1, none⟩ = some (.int .i64 d1)) (f0 : ¬ d0 = d1) :
    Calls Tryd.prog 42 #[.int .i64 14, .slice (some ⟨g, 0, none⟩) 2 cap] w (RsRes (resV 14 d0 d1 d2) w) := by
  have key : Hid ((false) = (!(resV 14 d0 d1 d2 == 0)) ∧ ((false) = true → 1 = resV 14 d0 d1 d2)) := by
    show _ ∧ _
    have e2 : resV 14 d0 d1 d2 = resV 14 d0 d1 1 := rfl
    rw [e2]
    clear c0 c1 hg
    rcases (show d0 = 1 ∨ d0 = 2 ∨ d0 = 3 ∨ d0 = 4 by omega) with rfl | rfl | rfl | rfl <;>
    rcases (show d1 = 1 ∨ d1 = 2 ∨ d1 = 3 ∨ d1 = 4 by omega) with rfl | rfl | rfl | rfl <;>
    first | decide | (exfalso; omega)
  have b0 : (d0 == d1) = false := by simp; omega
  obtain ⟨R, hR⟩ : ∃ R, resV 14 d0 d1 d2 = R := ⟨_, rfl⟩
  rw [hR] at key ⊢
  clear hR h0 h1 f0
  unfold RsRes
  go_enter Tryd.func42, Tryd.ntmps42
  go_wp2_with fail
  refine wp_region_calm (fun _ w' => w'.cell? { block := g, off := 0 } = some (.int .i64 d0) ∧ w'.cell? { block := g, off := 1 } = some (.int .i64 d1)) (fun _ => false) [0, 1, 2, 3, 4, 5, 6, 7, 8, 9, 10, 11, 12, 13, 14] 0 (by kernel_rfl) (by kernel_rfl) ?hst ?hS0 (fun w0 h0 => ?_)
  case hst => exact fun _ _ _ h r => ⟨r.cell h.1, r.cell h.2⟩
  case hS0 => exact ⟨by go_simp, by go_simp⟩
  iterate 8
    refine wpCalm_go rfl (by kernel_rfl) (fun K hK => ?_)
    apply Exists.intro
    refine ⟨fun M w hM hS => ?_, hK _ ?_⟩
    · have hc0 := hS.1
      have hc1 := hS.2
      unfold calmAt
      go_simp
      exact ⟨rfl, Rel.refl _⟩
    clear hK K
  iterate 4 (refine wpCalm_no rfl (by kernel_rfl) (fun K hK => hK _ ?_); clear hK K)
  iterate 3
    refine wpCalm_go rfl (by kernel_rfl) (fun K hK => ?_)
    apply Exists.intro
    refine ⟨fun M w hM hS => ?_, hK _ ?_⟩
    · have hc0 := hS.1
      have hc1 := hS.2
      unfold calmAt
      go_simp
      exact ⟨rfl, Rel.refl _⟩
    clear hK K
  refine wpAnyR_end (by kernel_rfl) (fun w3 h3' => ?_)
  (try simp only [Act.put, List.setIfInBounds_toArray, List.set_cons_zero, List.set_cons_succ])
  have h3 := h0.trans h3'
  clear h0 h3'
  have kz3 := h3.size
  (try simp only [World.size_alloc, World.size_setCell, World.size_drew] at kz3)
  have H3 := Lib.hid h3
  clear h3
  go_wp2
  go_ret2
  exact ⟨_, _, rfl, key.out.1, key.out.2, H3.out⟩

set_option maxRecDepth 20000 in
set_option maxHeartbeats 1000000 in
theorem res15_25 (d0 d1 d2 : Int) (g cap : Nat) (w : World) (hg : g < w.heap.size) (h0 : 1 ≤ d0 ∧ d0 ≤ 4) (h1 : 1 ≤ d1 ∧ d1 ≤ 4) (c0 : w.cell? ⟨g, 0, none⟩ = some (.int .i64 d0)) (c1 : w.cell? ⟨g, 1, none⟩ = some (.int .i64 d1)) (f0 : d0 = d1) :
    Calls Tryd.prog 42 #[.int .i64 15, .slice (some ⟨g, 0, none⟩) 2 cap] w (RsRes (resV 15 d0 d1 d2) w) := by
  have key : Hid (((d0 != 1)) = (!(resV 15 d0 d1 d2 == 0)) ∧ (((d0 != 1)) = true → 1 = resV 15 d0 d1 d2)) := by
    show _ ∧ _
    have e2 : resV 15 d0 d1 d2 = resV 15 d0 d1 1 := rfl
    rw [e2]
    clear c0 c1 hg
    rcases (show d0 = 1 ∨ d0 = 2 ∨ d0 = 3 ∨ d0 = 4 by omega) with rfl | rfl | rfl | rfl <;>
    rcases (show d1 = 1 ∨ d1 = 2 ∨ d1 = 3 ∨ d1 = 4 by omega) with rfl | rfl | rfl | rfl <;>
    first | decide | (exfalso; omega)
  have b0 : (d0 == d1) = true := by simp; omega
  obtain ⟨R, hR⟩ : ∃ R, resV 15 d0 d1 d2 = R := ⟨_, rfl⟩
  rw [hR] at key ⊢
  clear hR h0 h1 f0
  unfold RsRes
  go_enter Tryd.func42, Tryd.ntmps42
  go_wp2_with fail
  refine wp_region_calm (fun _ w' => w'.cell? { block := g, off := 0 } = some (.int .i64 d0) ∧ w'.cell? { block := g, off := 1 } = some (.int .i64 d1)) (fun _ => false) [0, 1, 2, 3, 4, 5, 6, 7, 8, 9, 10, 11, 12, 13, 14] 0 (by kernel_rfl) (by kernel_rfl) ?hst ?hS0 (fun w0 h0 => ?_)
  case hst => exact fun _ _ _ h r => ⟨r.cell h.1, r.cell h.2⟩
  case hS0 => exact ⟨by go_simp, by go_simp⟩
  iterate 15
    refine wpCalm_go rfl (by kernel_rfl) (fun K hK => ?_)
    apply Exists.intro
    refine ⟨fun M w hM hS => ?_, hK _ ?_⟩
    · have hc0 := hS.1
      have hc1 := hS.2
      unfold calmAt
      go_simp
      exact ⟨rfl, Rel.refl _⟩
    clear hK K
  refine wpAnyR_end (by kernel_rfl) (fun w3 h3' => ?_)
  (try simp only [Act.put, List.setIfInBounds_toArray, List.set_cons_zero, List.set_cons_succ])
  have h3 := h0.trans h3'
  clear h0 h3'
  have kz3 := h3.size
  (try simp only [World.size_alloc, World.size_setCell, World.size_drew] at kz3)
  have H3 := Lib.hid h3
  clear h3
  go_wp2
  go_ret2
  exact ⟨_, _, rfl, key.out.1, key.out.2, H3.out⟩

set_option maxRecDepth 20000 in
set_option maxHeartbeats 1000000 in
theorem res15_26 (d0 d1 d2 : Int) (g cap : Nat) (w : World) (hg : g < w.heap.size) (h0 : 1 ≤ d0 ∧ d0 ≤ 4) (h1 : 1 ≤ d1 ∧ d1 ≤ 4) (c0 : w.cell? ⟨g, 0, none⟩ = some (.int .i64 d0)) (c1 : w.cell? ⟨g, 1, none⟩ = some (.int .i64 d1)) (f0 : ¬ d0 = d1) :
    Calls Tryd.prog 42 #[.int .i64 15, .slice (some ⟨g, 0, none⟩) 2 cap] w (RsRes (resV 15 d0 d1 d2) w) := by
  have key : Hid ((false) = (!(resV 15 d0 d1 d2 == 0)) ∧ ((false) = true → 1 = resV 15 d0 d1 d2)) := by
    show _ ∧ _
    have e2 : resV 15 d0 d1 d2 = resV 15 d0 d1 1 := rfl
    rw [e2]
    clear c0 c1 hg
    rcases (show d0 = 1 ∨ d0 = 2 ∨ d0 = 3 ∨ d0 = 4 by omega) with rfl | rfl | rfl | rfl <;>
    rcases (show d1 = 1 ∨ d1 = 2 ∨ d1 = 3 ∨ d1 = 4 by omega) with rfl | rfl | rfl | rfl <;>
    first | decide | (exfalso; omega)
  have b0 : (d0 == d1) = false := by simp; omega
  obtain ⟨R, hR⟩ : ∃ R, resV 15 d0 d1 d2 = R := ⟨_, rfl⟩
  rw [hR] at key ⊢
  clear hR h0 h1 f0
  unfold RsRes
  go_enter Tryd.func42, Tryd.ntmps42
  go_wp2_with fail
  refine wp_region_calm (fun _ w' => w'.cell? { block := g, off := 0 } = some (.int .i64 d0) ∧ w'.cell? { block := g, off := 1 } = some (.int .i64 d1)) (fun _ => false) [0, 1, 2, 3, 4, 5, 6, 7, 8, 9, 10, 11, 12, 13, 14] 0 (by kernel_rfl) (by kernel_rfl) ?hst ?hS0 (fun w0 h0 => ?_)
  case hst => exact fun _ _ _ h r => ⟨r.cell h.1, r.cell h.2⟩
  case hS0 => exact ⟨by go_simp, by go_simp⟩
  iterate 8
    refine wpCalm_go rfl (by kernel_rfl) (fun K hK => ?_)
    apply Exists.intro
    refine ⟨fun M w hM hS => ?_, hK _ ?_⟩
    · have hc0 := hS.1
      have hc1 := hS.2
      unfold calmAt
      go_simp
      exact ⟨rfl, Rel.refl _⟩
    clear hK K
  iterate 4 (refine wpCalm_no rfl (by kernel_rfl) (fun K hK => hK _ ?_); clear hK K)
  iterate 3
    refine wpCalm_go rfl (by kernel_rfl) (fun K hK => ?_)
    apply Exists.intro
    refine ⟨fun M w hM hS => ?_, hK _ ?_⟩
    · have hc0 := hS.1
      have hc1 := hS.2
      unfold calmAt
      go_simp
      exact ⟨rfl, Rel.refl _⟩
    clear hK K
  refine wpAnyR_end (by kernel_rfl) (fun w3 h3' => ?_)
  (try simp only [Act.put, List.setIfInBounds_toArray, List.set_cons_zero, List.set_cons_succ])
  have h3 := h0.trans h3'
  clear h0 h3'
  have kz3 := h3.size
  (try simp only [World.size_alloc, World.size_setCell, World.size_drew] at kz3)
  have H3 := Lib.hid h3
  clear h3
  go_wp2
  go_ret2
  exact ⟨_, _, rfl, key.out.1, key.out.2, H3.out⟩

set_option maxRecDepth 20000 in
set_option maxHeartbeats 1000000 in
theorem res16_27 (d0 d1 d2 : Int) (g cap : Nat) (w : World) (hg : g < w.heap.size) (h0 : 1 ≤ d0 ∧ d0 ≤ 4) (h1 : 1 ≤ d1 ∧ d1 ≤ 4) (c0 : w.cell? ⟨g, 0, none⟩ = some (.int .i64 d0)) (c1 : w.cell? ⟨g, 1, none⟩ = some (.int .i64 d1)) (f0 : d0 = d1) :
    Calls Tryd.prog 42 #[.int .i64 16, .slice (some ⟨g, 0, none⟩) 2 cap] w (RsRes (resV 16 d0 d1 d2) w) := by
  have key : Hid (((d0 != 1)) = (!(resV 16 d0 d1 d2 == 0)) ∧ (((d0 != 1)) = true → 1 = resV 16 d0 d1 d2)) := by
    show _ ∧ _
    have e2 : resV 16 d0 d1 d2 = resV 16 d0 d1 1 := rfl
    rw [e2]
    clear c0 c1 hg
    rcases (show d0 = 1 ∨ d0 = 2 ∨ d0 = 3 ∨ d0 = 4 by omega) with rfl | rfl | rfl | rfl <;>
    rcases (show d1 = 1 ∨ d1 = 2 ∨ d1 = 3 ∨ d1 = 4 by omega) with rfl | rfl | rfl | rfl <;>
    first | decide | (exfalso; omega)
  have b0 : (d0 == d1) = true := by simp; omega
  obtain ⟨R, hR⟩ : ∃ R, resV 16 d0 d1 d2 = R := ⟨_, rfl⟩
  rw [hR] at key ⊢
  clear hR h0 h1 f0
  unfold RsRes
  go_enter Tryd.func42, Tryd.ntmps42
  go_wp2_with fail
  refine wp_region_calm (fun _ w' => w'.cell? { block := g, off := 0 } = some (.int .i64 d0) ∧ w'.cell? { block := g, off := 1 } = some (.int .i64 d1)) (fun _ => false) [0, 1, 2, 3, 4, 5, 6, 7, 8, 9, 10, 11, 12, 13, 14] 0 (by kernel_rfl) (by kernel_rfl) ?hst ?hS0 (fun w0 h0 => ?_)
  case hst => exact fun _ _ _ h r => ⟨r.cell h.1, r.cell h.2⟩
  case hS0 => exact ⟨by go_simp, by go_simp⟩
  iterate 15
    refine wpCalm_go rfl (by kernel_rfl) (fun K hK => ?_)
    apply Exists.intro
    refine ⟨fun M w hM hS => ?_, hK _ ?_⟩
    · have hc0 := hS.1
      have hc1 := hS.2
      unfold calmAt
      go_simp
      exact ⟨rfl, Rel.refl _⟩
    clear hK K
  refine wpAnyR_end (by kernel_rfl) (fun w3 h3' => ?_)
  (try simp only [Act.put, List.setIfInBounds_toArray, List.set_cons_zero, List.set_cons_succ])
  have h3 := h0.trans h3'
  clear h0 h3'
  have kz3 := h3.size
  (try simp only [World.size_alloc, World.size_setCell, World.size_drew] at kz3)
  have H3 := Lib.hid h3
  clear h3
  go_wp2
  go_ret2
  exact ⟨_, _, rfl, key.out.1, key.out.2, H3.out⟩

set_option maxRecDepth 20000 in
set_option maxHeartbeats 1000000 in
theorem res16_28 (d0 d1 d2 : Int) (g cap : Nat) (w : World) (hg : g < w.heap.size) (h0 : 1 ≤ d0 ∧ d0 ≤ 4) (h1 : 1 ≤ d1 ∧ d1 ≤ 4) (c0 : w.cell? ⟨g, 0, none⟩ = some (.int .i64 d0)) (c1 : w.cell? ⟨g, 1, none⟩ = some (.int .i64 d1)) (f0 : ¬ d0 = d1) :
    Calls Tryd.prog 42 #[.int .i64 16, .slice (some ⟨g, 0, none⟩) 2 cap] w (RsRes (resV 16 d0 d1 d2) w) := by
  have key : Hid ((false) = (!(resV 16 d0 d1 d2 == 0)) ∧ ((false) = true → 1 = resV 16 d0 d1 d2)) := by
    show _ ∧ _
    have e2 : resV 16 d0 d1 d2 = resV 16 d0 d1 1 := rfl
    rw [e2]
    clear c0 c1 hg
    rcases (show d0 = 1 ∨ d0 = 2 ∨ d0 = 3 ∨ d0 = 4 by omega) with rfl | rfl | rfl | rfl <;>
    rcases (show d1 = 1 ∨ d1 = 2 ∨ d1 = 3 ∨ d1 = 4 by omega) with rfl | rfl | rfl | rfl <;>
    first | decide | (exfalso; omega)
  have b0 : (d0 == d1) = false := by simp; omega
  obtain ⟨R, hR⟩ : ∃ R, resV 16 d0 d1 d2 = R := ⟨_, rfl⟩
  rw [hR] at key ⊢
  clear hR h0 h1 f0
  unfold RsRes
  go_enter Tryd.func42, Tryd.ntmps42
  go_wp2_with fail
  refine wp_region_calm (fun _ w' => w'.cell? { block := g, off := 0 } = some (.int .i64 d0) ∧ w'.cell? { block := g, off := 1 } = some (.int .i64 d1)) (fun _ => false) [0, 1, 2, 3, 4, 5, 6, 7, 8, 9, 10, 11, 12, 13, 14] 0 (by kernel_rfl) (by kernel_rfl) ?hst ?hS0 (fun w0 h0 => ?_)
  case hst => exact fun _ _ _ h r => ⟨r.cell h.1, r.cell h.2⟩
  case hS0 => exact ⟨by go_simp, by go_simp⟩
  iterate 8
    refine wpCalm_go rfl (by kernel_rfl) (fun K hK => ?_)
    apply Exists.intro
    refine ⟨fun M w hM hS => ?_, hK _ ?_⟩
    · have hc0 := hS.1
      have hc1 := hS.2
      unfold calmAt
      go_simp
      exact ⟨rfl, Rel.refl _⟩
    clear hK K
  iterate 4 (refine wpCalm_no rfl (by kernel_rfl) (fun K hK => hK _ ?_); clear hK K)
  iterate 3
    refine wpCalm_go rfl (by kernel_rfl) (fun K hK => ?_)
    apply Exists.intro
    refine ⟨fun M w hM hS => ?_, hK _ ?_⟩
    · have hc0 := hS.1
      have hc1 := hS.2
      unfold calmAt
      go_simp
      exact ⟨rfl, Rel.refl _⟩
    clear hK K
  refine wpAnyR_end (by kernel_rfl) (fun w3 h3' => ?_)
  (try simp only [Act.put, List.setIfInBounds_toArray, List.set_cons_zero, List.set_cons_succ])
  have h3 := h0.trans h3'
  clear h0 h3'
  have kz3 := h3.size
  (try simp only [World.size_alloc, World.size_setCell, World.size_drew] at kz3)
  have H3 := Lib.hid h3
  clear h3
  go_wp2
  go_ret2
  exact ⟨_, _, rfl, key.out.1, key.out.2, H3.out⟩

set_option maxRecDepth 20000 in
set_option maxHeartbeats 1000000 in
theorem res17_29 (d0 d1 d2 : Int) (g cap : Nat) (w : World) (hg : g < w.heap.size) (h0 : 1 ≤ d0 ∧ d0 ≤ 4) (h1 : 1 ≤ d1 ∧ d1 ≤ 4) (c0 : w.cell? ⟨g, 0, none⟩ = some (.int .i64 d0)) (c1 : w.cell? ⟨g, 1, none⟩ = some (.int .i64 d1)) (f0 : d0 = 1) :
    Calls Tryd.prog 42 #[.int .i64 17, .slice (some ⟨g, 0, none⟩) 2 cap] w (RsRes (resV 17 d0 d1 d2) w) := by
  have key : Hid (((d1 == 1)) = (!(resV 17 d0 d1 d2 == 0)) ∧ (((d1 == 1)) = true → 1 = resV 17 d0 d1 d2)) := by
    show _ ∧ _
    have e2 : resV 17 d0 d1 d2 = resV 17 d0 d1 1 := rfl
    rw [e2]
    clear c0 c1 hg
    rcases (show d0 = 1 ∨ d0 = 2 ∨ d0 = 3 ∨ d0 = 4 by omega) with rfl | rfl | rfl | rfl <;>
    rcases (show d1 = 1 ∨ d1 = 2 ∨ d1 = 3 ∨ d1 = 4 by omega) with rfl | rfl | rfl | rfl <;>
    first | decide | (exfalso; omega)
  have b0 : (d0 == 1) = true := by simp; omega
  obtain ⟨R, hR⟩ : ∃ R, resV 17 d0 d1 d2 = R := ⟨_, rfl⟩
  rw [hR] at key ⊢
  clear hR h0 h1 f0
  unfold RsRes
  go_enter Tryd.func42, Tryd.ntmps42
  go_wp2_with fail
  refine wp_region_calm (fun _ w' => w'.cell? { block := g, off := 0 } = some (.int .i64 d0) ∧ w'.cell? { block := g, off := 1 } = some (.int .i64 d1)) (fun _ => false) [0, 1, 2, 3, 4, 5, 6, 7, 8, 9, 10, 11] 0 (by kernel_rfl) (by kernel_rfl) ?hst ?hS0 (fun w0 h0 => ?_)
  case hst => exact fun _ _ _ h r => ⟨r.cell h.1, r.cell h.2⟩
  case hS0 => exact ⟨by go_simp, by go_simp⟩
  iterate 12
    refine wpCalm_go rfl (by kernel_rfl) (fun K hK => ?_)
    apply Exists.intro
    refine ⟨fun M w hM hS => ?_, hK _ ?_⟩
    · have hc0 := hS.1
      have hc1 := hS.2
      unfold calmAt
      go_simp
      exact ⟨rfl, Rel.refl _⟩
    clear hK K
  refine wpAnyR_end (by kernel_rfl) (fun w3 h3' => ?_)
  (try simp only [Act.put, List.setIfInBounds_toArray, List.set_cons_zero, List.set_cons_succ])
  have h3 := h0.trans h3'
  clear h0 h3'
  have kz3 := h3.size
  (try simp only [World.size_alloc, World.size_setCell, World.size_drew] at kz3)
  have H3 := Lib.hid h3
  clear h3
  go_wp2
  go_ret2
  exact ⟨_, _, rfl, key.out.1, key.out.2, H3.out⟩

set_option maxRecDepth 20000 in
set_option maxHeartbeats 1000000 in
theorem res17_30 (d0 d1 d2 : Int) (g cap : Nat) (w : World) (hg : g < w.heap.size) (h0 : 1 ≤ d0 ∧ d0 ≤ 4) (h1 : 1 ≤ d1 ∧ d1 ≤ 4) (c0 : w.cell? ⟨g, 0, none⟩ = some (.int .i64 d0)) (c1 : w.cell? ⟨g, 1, none⟩ = some (.int .i64 d1)) (f0 : ¬ d0 = 1) :
    Calls Tryd.prog 42 #[.int .i64 17, .slice (some ⟨g, 0, none⟩) 2 cap] w (RsRes (resV 17 d0 d1 d2) w) := by
  have key : Hid ((false) = (!(resV 17 d0 d1 d2 == 0)) ∧ ((false) = true → 1 = resV 17 d0 d1 d2)) := by
    show _ ∧ _
    have e2 : resV 17 d0 d1 d2 = resV 17 d0 d1 1 := rfl
    rw [e2]
    clear c0 c1 hg
    rcases (show d0 = 1 ∨ d0 = 2 ∨ d0 = 3 ∨ d0 = 4 by omega) with rfl | rfl | rfl | rfl <;>
    rcases (show d1 = 1 ∨ d1 = 2 ∨ d1 = 3 ∨ d1 = 4 by omega) with rfl | rfl | rfl | rfl <;>
    first | decide | (exfalso; omega)
  have b0 : (d0 == 1) = false := by simp; omega
  obtain ⟨R, hR⟩ : ∃ R, resV 17 d0 d1 d2 = R := ⟨_, rfl⟩
  rw [hR] at key ⊢
  clear hR h0 h1 f0
  unfold RsRes
  go_enter Tryd.func42, Tryd.ntmps42
  go_wp2_with fail
  refine wp_region_calm (fun _ w' => w'.cell? { block := g, off := 0 } = some (.int .i64 d0) ∧ w'.cell? { block := g, off := 1 } = some (.int .i64 d1)) (fun _ => false) [0, 1, 2, 3, 4, 5, 6, 7, 8, 9, 10, 11] 0 (by kernel_rfl) (by kernel_rfl) ?hst ?hS0 (fun w0 h0 => ?_)
  case hst => exact fun _ _ _ h r => ⟨r.cell h.1, r.cell h.2⟩
  case hS0 => exact ⟨by go_simp, by go_simp⟩
  iterate 5
    refine wpCalm_go rfl (by kernel_rfl) (fun K hK => ?_)
    apply Exists.intro
    refine ⟨fun M w hM hS => ?_, hK _ ?_⟩
    · have hc0 := hS.1
      have hc1 := hS.2
      unfold calmAt
      go_simp
      exact ⟨rfl, Rel.refl _⟩
    clear hK K
  iterate 4 (refine wpCalm_no rfl (by kernel_rfl) (fun K hK => hK _ ?_); clear hK K)
  iterate 3
    refine wpCalm_go rfl (by kernel_rfl) (fun K hK => ?_)
    apply Exists.intro
    refine ⟨fun M w hM hS => ?_, hK _ ?_⟩
    · have hc0 := hS.1
      have hc1 := hS.2
      unfold calmAt
      go_simp
      exact ⟨rfl, Rel.refl _⟩
    clear hK K
  refine wpAnyR_end (by kernel_rfl) (fun w3 h3' => ?_)
  (try simp only [Act.put, List.setIfInBounds_toArray, List.set_cons_zero, List.set_cons_succ])
  have h3 := h0.trans h3'
  clear h0 h3'
  have kz3 := h3.size
  (try simp only [World.size_alloc, World.size_setCell, World.size_drew] at kz3)
  have H3 := Lib.hid h3
  clear h3
  go_wp2
  go_ret2
  exact ⟨_, _, rfl, key.out.1, key.out.2, H3.out⟩

set_option maxRecDepth 20000 in
set_option maxHeartbeats 1000000 in
theorem res18_31 (d0 d1 d2 : Int) (g cap : Nat) (w : World) (hg : g < w.heap.size) (h0 : 1 ≤ d0 ∧ d0 ≤ 4) (h1 : 1 ≤ d1 ∧ d1 ≤ 4) (c0 : w.cell? ⟨g, 0, none⟩ = some (.int .i64 d0)) (c1 : w.cell? ⟨g, 1, none⟩ = some (.int .i64 d1)) (f0 : d0 = 1) :
    Calls Tryd.prog 42 #[.int .i64 18, .slice (some ⟨g, 0, none⟩) 2 cap] w (RsRes (resV 18 d0 d1 d2) w) := by
  have key : Hid (((d1 == 1)) = (!(resV 18 d0 d1 d2 == 0)) ∧ (((d1 == 1)) = true → 1 = resV 18 d0 d1 d2)) := by
    show _ ∧ _
    have e2 : resV 18 d0 d1 d2 = resV 18 d0 d1 1 := rfl
    rw [e2]
    clear c0 c1 hg
    rcases (show d0 = 1 ∨ d0 = 2 ∨ d0 = 3 ∨ d0 = 4 by omega) with rfl | rfl | rfl | rfl <;>
    rcases (show d1 = 1 ∨ d1 = 2 ∨ d1 = 3 ∨ d1 = 4 by omega) with rfl | rfl | rfl | rfl <;>
    first | decide | (exfalso; omega)
  have b0 : (d0 == 1) = true := by simp; omega
  obtain ⟨R, hR⟩ : ∃ R, resV 18 d0 d1 d2 = R := ⟨_, rfl⟩
  rw [hR] at key ⊢
  clear hR h0 h1 f0
  unfold RsRes
  go_enter Tryd.func42, Tryd.ntmps42
  go_wp2_with fail
  refine wp_region_calm (fun _ w' => w'.cell? { block := g, off := 0 } = some (.int .i64 d0) ∧ w'.cell? { block := g, off := 1 } = some (.int .i64 d1)) (fun _ => false) [0, 1, 2, 3, 4, 5, 6, 7, 8, 9, 10, 11] 0 (by kernel_rfl) (by kernel_rfl) ?hst ?hS0 (fun w0 h0 => ?_)
  case hst => exact fun _ _ _ h r => ⟨r.cell h.1, r.cell h.2⟩
  case hS0 => exact ⟨by go_simp, by go_simp⟩
  iterate 12
    refine wpCalm_go rfl (by kernel_rfl) (fun K hK => ?_)
    apply Exists.intro
    refine ⟨fun M w hM hS => ?_, hK _ ?_⟩
    · have hc0 := hS.1
      have hc1 := hS.2
      unfold calmAt
      go_simp
      exact ⟨rfl, Rel.refl _⟩
    clear hK K
  refine wpAnyR_end (by kernel_rfl) (fun w3 h3' => ?_)
  (try simp only [Act.put, List.setIfInBounds_toArray, List.set_cons_zero, List.set_cons_succ])
  have h3 := h0.trans h3'
  clear h0 h3'
  have kz3 := h3.size
  (try simp only [World.size_alloc, World.size_setCell, World.size_drew] at kz3)
  have H3 := Lib.hid h3
  clear h3
  go_wp2
  go_ret2
  exact ⟨_, _, rfl, key.out.1, key.out.2, H3.out⟩

set_option maxRecDepth 20000 in
set_option maxHeartbeats 1000000 in
theorem res18_32 (d0 d1 d2 : Int) (g cap : Nat) (w : World) (hg : g < w.heap.size) (h0 : 1 ≤ d0 ∧ d0 ≤ 4) (h1 : 1 ≤ d1 ∧ d1 ≤ 4) (c0 : w.cell? ⟨g, 0, none⟩ = some (.int .i64 d0)) (c1 : w.cell? ⟨g, 1, none⟩ = some (.int .i64 d1)) (f0 : ¬ d0 = 1) :
    Calls Tryd.prog 42 #[.int .i64 18, .slice (some ⟨g, 0, none⟩) 2 cap] w (RsRes (resV 18 d0 d1 d2) w) := by
  have key : Hid ((false) = (!(resV 18 d0 d1 d2 == 0)) ∧ ((false) = true → 1 = resV 18 d0 d1 d2)) := by
    show _ ∧ _
    have e2 : resV 18 d0 d1 d2 = resV 18 d0 d1 1 := rfl
    rw [e2]
    clear c0 c1 hg
    rcases (show d0 = 1 ∨ d0 = 2 ∨ d0 = 3 ∨ d0 = 4 by omega) with rfl | rfl | rfl | rfl <;>
    rcases (show d1 = 1 ∨ d1 = 2 ∨ d1 = 3 ∨ d1 = 4 by omega) with rfl | rfl | rfl | rfl <;>
    first | decide | (exfalso; omega)
  have b0 : (d0 == 1) = false := by simp; omega
  obtain ⟨R, hR⟩ : ∃ R, resV 18 d0 d1 d2 = R := ⟨_, rfl⟩
  rw [hR] at key ⊢
  clear hR h0 h1 f0
  unfold RsRes
  go_enter Tryd.func42, Tryd.ntmps42
  go_wp2_with fail
  refine wp_region_calm (fun _ w' => w'.cell? { block := g, off := 0 } = some (.int .i64 d0) ∧ w'.cell? { block := g, off := 1 } = some (.int .i64 d1)) (fun _ => false) [0, 1, 2, 3, 4, 5, 6, 7, 8, 9, 10, 11] 0 (by kernel_rfl) (by kernel_rfl) ?hst ?hS0 (fun w0 h0 => ?_)
  case hst => exact fun _ _ _ h r => ⟨r.cell h.1, r.cell h.2⟩
  case hS0 => exact ⟨by go_simp, by go_simp⟩
  iterate 5
    refine wpCalm_go rfl (by kernel_rfl) (fun K hK => ?_)
    apply Exists.intro
    refine ⟨fun M w hM hS => ?_, hK _ ?_⟩
    · have hc0 := hS.1
      have hc1 := hS.2
      unfold calmAt
      go_simp
      exact ⟨rfl, Rel.refl _⟩
    clear hK K
  iterate 4 (refine wpCalm_no rfl (by kernel_rfl) (fun K hK => hK _ ?_); clear hK K)
  iterate 3
    refine wpCalm_go rfl (by kernel_rfl) (fun K hK => ?_)
    apply Exists.intro
    refine ⟨fun M w hM hS => ?_, hK _ ?_⟩
    · have hc0 := hS.1
      have hc1 := hS.2
      unfold calmAt
      go_simp
      exact ⟨rfl, Rel.refl _⟩
    clear hK K
  refine wpAnyR_end (by kernel_rfl) (fun w3 h3' => ?_)
  (try simp only [Act.put, List.setIfInBounds_toArray, List.set_cons_zero, List.set_cons_succ])
  have h3 := h0.trans h3'
  clear h0 h3'
  have kz3 := h3.size
  (try simp only [World.size_alloc, World.size_setCell, World.size_drew] at kz3)
  have H3 := Lib.hid h3
  clear h3
  go_wp2
  go_ret2
  exact ⟨_, _, rfl, key.out.1, key.out.2, H3.out⟩

set_option maxRecDepth 20000 in
set_option maxHeartbeats 1000000 in
theorem res21_33 (d0 d1 d2 : Int) (g cap : Nat) (w : World) (hg : g < w.heap.size) (h0 : 1 ≤ d0 ∧ d0 ≤ 4) (h1 : 1 ≤ d1 ∧ d1 ≤ 4) (h2 : 1 ≤ d2 ∧ d2 ≤ 4) (c0 : w.cell? ⟨g, 0, none⟩ = some (.int .i64 d0)) (c1 : w.cell? ⟨g, 1, none⟩ = some (.int .i64 d1)) (c2 : w.cell? ⟨g, 2, none⟩ = some (.int .i64 d2)) (f0 : d0 = 1) :
    Calls Tryd.prog 42 #[.int .i64 21, .slice (some ⟨g, 0, none⟩) 3 cap] w (RsRes (resV 21 d0 d1 d2) w) := by
  have key : Hid (((d1 == d2)) = (!(resV 21 d0 d1 d2 == 0)) ∧ (((d1 == d2)) = true → d1 = resV 21 d0 d1 d2)) := by
    show _ ∧ _
    clear c0 c1 c2 hg
    rcases (show d0 = 1 ∨ d0 = 2 ∨ d0 = 3 ∨ d0 = 4 by omega) with rfl | rfl | rfl | rfl <;>
    rcases (show d1 = 1 ∨ d1 = 2 ∨ d1 = 3 ∨ d1 = 4 by omega) with rfl | rfl | rfl | rfl <;>
    rcases (show d2 = 1 ∨ d2 = 2 ∨ d2 = 3 ∨ d2 = 4 by omega) with rfl | rfl | rfl | rfl <;>
    first | decide | (exfalso; omega)
  have b0 : (d0 == 1) = true := by simp; omega
  obtain ⟨R, hR⟩ : ∃ R, resV 21 d0 d1 d2 = R := ⟨_, rfl⟩
  rw [hR] at key ⊢
  clear hR h0 h1 h2 f0
  unfold RsRes
  go_enter Tryd.func42, Tryd.ntmps42
  go_wp2_with fail
  refine wp_region_calm (fun _ w' => w'.cell? { block := g, off := 0 } = some (.int .i64 d0) ∧ w'.cell? { block := g, off := 1 } = some (.int .i64 d1) ∧ w'.cell? { block := g, off := 2 } = some (.int .i64 d2)) (fun _ => false) [0, 1, 2, 3, 4, 5, 6, 7, 8, 9, 10, 11, 12, 13, 14, 15, 16, 17] 0 (by kernel_rfl) (by kernel_rfl) ?hst ?hS0 (fun w0 h0 => ?_)
  case hst => exact fun _ _ _ h r => ⟨r.cell h.1, r.cell h.2.1, r.cell h.2.2⟩
  case hS0 => exact ⟨by go_simp, by go_simp, by go_simp⟩
  iterate 18
    refine wpCalm_go rfl (by kernel_rfl) (fun K hK => ?_)
    apply Exists.intro
    refine ⟨fun M w hM hS => ?_, hK _ ?_⟩
    · have hc0 := hS.1
      have hc1 := hS.2.1
      have hc2 := hS.2.2
      unfold calmAt
      go_simp
      exact ⟨rfl, Rel.refl _⟩
    clear hK K
  refine wpAnyR_end (by kernel_rfl) (fun w3 h3' => ?_)
  (try simp only [Act.put, List.setIfInBounds_toArray, List.set_cons_zero, List.set_cons_succ])
  have h3 := h0.trans h3'
  clear h0 h3'
  have kz3 := h3.size
  (try simp only [World.size_alloc, World.size_setCell, World.size_drew] at kz3)
  have H3 := Lib.hid h3
  clear h3
  go_wp2
  go_ret2
  exact ⟨_, _, rfl, key.out.1, key.out.2, H3.out⟩

set_option maxRecDepth 20000 in
set_option maxHeartbeats 1000000 in
theorem res21_34 (d0 d1 d2 : Int) (g cap : Nat) (w : World) (hg : g < w.heap.size) (h0 : 1 ≤ d0 ∧ d0 ≤ 4) (h1 : 1 ≤ d1 ∧ d1 ≤ 4) (h2 : 1 ≤ d2 ∧ d2 ≤ 4) (c0 : w.cell? ⟨g, 0, none⟩ = some (.int .i64 d0)) (c1 : w.cell? ⟨g, 1, none⟩ = some (.int .i64 d1)) (c2 : w.cell? ⟨g, 2, none⟩ = some (.int .i64 d2)) (f0 : ¬ d0 = 1) :
    Calls Tryd.prog 42 #[.int .i64 21, .slice (some ⟨g, 0, none⟩) 3 cap] w (RsRes (resV 21 d0 d1 d2) w) := by
  have key : Hid ((false) = (!(resV 21 d0 d1 d2 == 0)) ∧ ((false) = true → d1 = resV 21 d0 d1 d2)) := by
    show _ ∧ _
    clear c0 c1 c2 hg
    rcases (show d0 = 1 ∨ d0 = 2 ∨ d0 = 3 ∨ d0 = 4 by omega) with rfl | rfl | rfl | rfl <;>
    rcases (show d1 = 1 ∨ d1 = 2 ∨ d1 = 3 ∨ d1 = 4 by omega) with rfl | rfl | rfl | rfl <;>
    rcases (show d2 = 1 ∨ d2 = 2 ∨ d2 = 3 ∨ d2 = 4 by omega) with rfl | rfl | rfl | rfl <;>
    first | decide | (exfalso; omega)
  have b0 : (d0 == 1) = false := by simp; omega
  obtain ⟨R, hR⟩ : ∃ R, resV 21 d0 d1 d2 = R := ⟨_, rfl⟩
  rw [hR] at key ⊢
  clear hR h0 h1 h2 f0
  unfold RsRes
  go_enter Tryd.func42, Tryd.ntmps42
  go_wp2_with fail
  refine wp_region_calm (fun _ w' => w'.cell? { block := g, off := 0 } = some (.int .i64 d0) ∧ w'.cell? { block := g, off := 1 } = some (.int .i64 d1) ∧ w'.cell? { block := g, off := 2 } = some (.int .i64 d2)) (fun _ => false) [0, 1, 2, 3, 4, 5, 6, 7, 8, 9, 10, 11, 12, 13, 14, 15, 16, 17] 0 (by kernel_rfl) (by kernel_rfl) ?hst ?hS0 (fun w0 h0 => ?_)
  case hst => exact fun _ _ _ h r => ⟨r.cell h.1, r.cell h.2.1, r.cell h.2.2⟩
  case hS0 => exact ⟨by go_simp, by go_simp, by go_simp⟩
  iterate 8
    refine wpCalm_go rfl (by kernel_rfl) (fun K hK => ?_)
    apply Exists.intro
    refine ⟨fun M w hM hS => ?_, hK _ ?_⟩
    · have hc0 := hS.1
      have hc1 := hS.2.1
      have hc2 := hS.2.2
      unfold calmAt
      go_simp
      exact ⟨rfl, Rel.refl _⟩
    clear hK K
  iterate 7 (refine wpCalm_no rfl (by kernel_rfl) (fun K hK => hK _ ?_); clear hK K)
  iterate 3
    refine wpCalm_go rfl (by kernel_rfl) (fun K hK => ?_)
    apply Exists.intro
    refine ⟨fun M w hM hS => ?_, hK _ ?_⟩
    · have hc0 := hS.1
      have hc1 := hS.2.1
      have hc2 := hS.2.2
      unfold calmAt
      go_simp
      exact ⟨rfl, Rel.refl _⟩
    clear hK K
  refine wpAnyR_end (by kernel_rfl) (fun w3 h3' => ?_)
  (try simp only [Act.put, List.setIfInBounds_toArray, List.set_cons_zero, List.set_cons_succ])
  have h3 := h0.trans h3'
  clear h0 h3'
  have kz3 := h3.size
  (try simp only [World.size_alloc, World.size_setCell, World.size_drew] at kz3)
  have H3 := Lib.hid h3
  clear h3
  go_wp2
  go_ret2
  exact ⟨_, _, rfl, key.out.1, key.out.2, H3.out⟩

theorem result_any (op : Int) (n g cap : Nat) (D : Nat → Int) (w : World) (ho : 4 ≤ op ∧ op ≤ 21) (hn : (n : Int) = arI op) (hg : g < w.heap.size) (hD : ∀ i, i < n → 1 ≤ D i ∧ D i ≤ 4) (hc : ∀ i, i < n → w.cell? ⟨g, i, none⟩ = some (.int .i64 (D i))) :
    Calls Tryd.prog 42 #[.int .i64 op, .slice (some ⟨g, 0, none⟩) n cap] w (RsRes (resI op D) w) := by
  rw [resI_eq]
  rcases (show op = 4 ∨ op = 5 ∨ op = 6 ∨ op = 7 ∨ op = 8 ∨ op = 9 ∨ op = 10 ∨ op = 11 ∨ op = 12 ∨ op = 13 ∨ op = 14 ∨ op = 15 ∨ op = 16 ∨ op = 17 ∨ op = 18 ∨ op = 19 ∨ op = 20 ∨ op = 21 by omega) with rfl | rfl | rfl | rfl | rfl | rfl | rfl | rfl | rfl | rfl | rfl | rfl | rfl | rfl | rfl | rfl | rfl | rfl
  · obtain rfl : n = 1 := by
      have : arI 4 = 1 := rfl
      omega
    exact res4_0 (D 0) (D 1) (D 2) g cap w hg (hD 0 (by decide)) (hc 0 (by decide))
  · obtain rfl : n = 1 := by
      have : arI 5 = 1 := rfl
      omega
    exact res5_2 (D 0) (D 1) (D 2) g cap w hg (hD 0 (by decide)) (hc 0 (by decide))
  · obtain rfl : n = 1 := by
      have : arI 6 = 1 := rfl
      omega
    exact res6_1 (D 0) (D 1) (D 2) g cap w hg (hD 0 (by decide)) (hc 0 (by decide))
  · obtain rfl : n = 2 := by
      have : arI 7 = 2 := rfl
      omega
    by_cases f0 : D 0 = D 1
    · exact res7_3 (D 0) (D 1) (D 2) g cap w hg (hD 0 (by decide)) (hD 1 (by decide)) (hc 0 (by decide)) (hc 1 (by decide)) f0
    · exact res7_4 (D 0) (D 1) (D 2) g cap w hg (hD 0 (by decide)) (hD 1 (by decide)) (hc 0 (by decide)) (hc 1 (by decide)) f0
  · obtain rfl : n = 2 := by
      have : arI 8 = 2 := rfl
      omega
    by_cases f0 : D 0 = D 1
    · exact res8_5 (D 0) (D 1) (D 2) g cap w hg (hD 0 (by decide)) (hD 1 (by decide)) (hc 0 (by decide)) (hc 1 (by decide)) f0
    · exact res8_6 (D 0) (D 1) (D 2) g cap w hg (hD 0 (by decide)) (hD 1 (by decide)) (hc 0 (by decide)) (hc 1 (by decide)) f0
  · obtain rfl : n = 2 := by
      have : arI 9 = 2 := rfl
      omega
    by_cases f0 : D 0 = 2
    · exact res9_11 (D 0) (D 1) (D 2) g cap w hg (hD 0 (by decide)) (hD 1 (by decide)) (hc 0 (by decide)) (hc 1 (by decide)) f0
    · by_cases f1 : D 1 = 2
      · exact res9_12 (D 0) (D 1) (D 2) g cap w hg (hD 0 (by decide)) (hD 1 (by decide)) (hc 0 (by decide)) (hc 1 (by decide)) f0 f1
      · exact res9_13 (D 0) (D 1) (D 2) g cap w hg (hD 0 (by decide)) (hD 1 (by decide)) (hc 0 (by decide)) (hc 1 (by decide)) f0 f1
  · obtain rfl : n = 2 := by
      have : arI 10 = 2 := rfl
      omega
    by_cases f0 : D 1 = 2
    · exact res10_14 (D 0) (D 1) (D 2) g cap w hg (hD 0 (by decide)) (hD 1 (by decide)) (hc 0 (by decide)) (hc 1 (by decide)) f0
    · by_cases f1 : D 0 = D 1
      · exact res10_15 (D 0) (D 1) (D 2) g cap w hg (hD 0 (by decide)) (hD 1 (by decide)) (hc 0 (by decide)) (hc 1 (by decide)) f0 f1
      · exact res10_16 (D 0) (D 1) (D 2) g cap w hg (hD 0 (by decide)) (hD 1 (by decide)) (hc 0 (by decide)) (hc 1 (by decide)) f0 f1
  · obtain rfl : n = 2 := by
      have : arI 11 = 2 := rfl
      omega
    by_cases f0 : D 0 = D 1
    · exact res11_17 (D 0) (D 1) (D 2) g cap w hg (hD 0 (by decide)) (hD 1 (by decide)) (hc 0 (by decide)) (hc 1 (by decide)) f0
    · exact res11_18 (D 0) (D 1) (D 2) g cap w hg (hD 0 (by decide)) (hD 1 (by decide)) (hc 0 (by decide)) (hc 1 (by decide)) f0
  · obtain rfl : n = 2 := by
      have : arI 12 = 2 := rfl
      omega
    by_cases f0 : D 0 = D 1
    · exact res12_19 (D 0) (D 1) (D 2) g cap w hg (hD 0 (by decide)) (hD 1 (by decide)) (hc 0 (by decide)) (hc 1 (by decide)) f0
    · exact res12_20 (D 0) (D 1) (D 2) g cap w hg (hD 0 (by decide)) (hD 1 (by decide)) (hc 0 (by decide)) (hc 1 (by decide)) f0
  · obtain rfl : n = 2 := by
      have : arI 13 = 2 := rfl
      omega
    by_cases f0 : D 0 = D 1
    · exact res13_21 (D 0) (D 1) (D 2) g cap w hg (hD 0 (by decide)) (hD 1 (by decide)) (hc 0 (by decide)) (hc 1 (by decide)) f0
    · exact res13_22 (D 0) (D 1) (D 2) g cap w hg (hD 0 (by decide)) (hD 1 (by decide)) (hc 0 (by decide)) (hc 1 (by decide)) f0
  · obtain rfl : n = 2 := by
      have : arI 14 = 2 := rfl
      omega
    by_cases f0 : D 0 = D 1
    · exact res14_23 (D 0) (D 1) (D 2) g cap w hg (hD 0 (by decide)) (hD 1 (by decide)) (hc 0 (by decide)) (hc 1 (by decide)) f0
    · exact res14_24 (D 0) (D 1) (D 2) g cap w hg (hD 0 (by decide)) (hD 1 (by decide)) (hc 0 (by decide)) (hc 1 (by decide)) f0
  · obtain rfl : n = 2 := by
      have : arI 15 = 2 := rfl
      omega
    by_cases f0 : D 0 = D 1
    · exact res15_25 (D 0) (D 1) (D 2) g cap w hg (hD 0 (by decide)) (hD 1 (by decide)) (hc 0 (by decide)) (hc 1 (by decide)) f0
    · exact res15_26 (D 0) (D 1) (D 2) g cap w hg (hD 0 (by decide)) (hD 1 (by decide)) (hc 0 (by decide)) (hc 1 (by decide)) f0
  · obtain rfl : n = 2 := by
      have : arI 16 = 2 := rfl
      omega
    by_cases f0 : D 0 = D 1
    · exact res16_27 (D 0) (D 1) (D 2) g cap w hg (hD 0 (by decide)) (hD 1 (by decide)) (hc 0 (by decide)) (hc 1 (by decide)) f0
    · exact res16_28 (D 0) (D 1) (D 2) g cap w hg (hD 0 (by decide)) (hD 1 (by decide)) (hc 0 (by decide)) (hc 1 (by decide)) f0
  · obtain rfl : n = 2 := by
      have : arI 17 = 2 := rfl
      omega
    by_cases f0 : D 0 = 1
    · exact res17_29 (D 0) (D 1) (D 2) g cap w hg (hD 0 (by decide)) (hD 1 (by decide)) (hc 0 (by decide)) (hc 1 (by decide)) f0
    · exact res17_30 (D 0) (D 1) (D 2) g cap w hg (hD 0 (by decide)) (hD 1 (by decide)) (hc 0 (by decide)) (hc 1 (by decide)) f0
  · obtain rfl : n = 2 := by
      have : arI 18 = 2 := rfl
      omega
    by_cases f0 : D 0 = 1
    · exact res18_31 (D 0) (D 1) (D 2) g cap w hg (hD 0 (by decide)) (hD 1 (by decide)) (hc 0 (by decide)) (hc 1 (by decide)) f0
    · exact res18_32 (D 0) (D 1) (D 2) g cap w hg (hD 0 (by decide)) (hD 1 (by decide)) (hc 0 (by decide)) (hc 1 (by decide)) f0
  · obtain rfl : n = 2 := by
      have : arI 19 = 2 := rfl
      omega
    by_cases f0 : D 0 = D 1
    · exact res19_7 (D 0) (D 1) (D 2) g cap w hg (hD 0 (by decide)) (hD 1 (by decide)) (hc 0 (by decide)) (hc 1 (by decide)) f0
    · exact res19_8 (D 0) (D 1) (D 2) g cap w hg (hD 0 (by decide)) (hD 1 (by decide)) (hc 0 (by decide)) (hc 1 (by decide)) f0
  · obtain rfl : n = 2 := by
      have : arI 20 = 2 := rfl
      omega
    by_cases f0 : D 0 = D 1
    · exact res20_9 (D 0) (D 1) (D 2) g cap w hg (hD 0 (by decide)) (hD 1 (by decide)) (hc 0 (by decide)) (hc 1 (by decide)) f0
    · exact res20_10 (D 0) (D 1) (D 2) g cap w hg (hD 0 (by decide)) (hD 1 (by decide)) (hc 0 (by decide)) (hc 1 (by decide)) f0
  · obtain rfl : n = 3 := by
      have : arI 21 = 3 := rfl
      omega
    by_cases f0 : D 0 = 1
    · exact res21_33 (D 0) (D 1) (D 2) g cap w hg (hD 0 (by decide)) (hD 1 (by decide)) (hD 2 (by decide)) (hc 0 (by decide)) (hc 1 (by decide)) (hc 2 (by decide)) f0
    · exact res21_34 (D 0) (D 1) (D 2) g cap w hg (hD 0 (by decide)) (hD 1 (by decide)) (hD 2 (by decide)) (hc 0 (by decide)) (hc 1 (by decide)) (hc 2 (by decide)) f0

end Go.Proofs.YtnhmebhmlbofgaaDoor

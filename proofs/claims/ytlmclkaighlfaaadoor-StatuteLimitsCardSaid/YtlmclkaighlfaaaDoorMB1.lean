/- Bundle of texts: each says at its head what it proves; no conditions but those printed. -/
import Derived.Test.YtlmclkaighlfaaaDoorMB0
namespace Go.Proofs.YtlmclkaighlfaaaDoor
set_option maxHeartbeats 16000000
open Go.RowKit Frac
attribute [local go_sem] calmUpon
set_option linter.unusedSimpArgs false
set_option linter.unusedVariables false
def BRes (b : Bool) (w : World) (e : Ending) (w' : World) : Prop := e = .returned (.bool b) ∧ Rel w w'
theorem valid_ways (n d : Int) :
  (decide (1 ≤ d) = false ∧ validB n d = false) ∨
  (1 ≤ d ∧ decide (1 ≤ d) = true ∧ decide (d ≤ 1000000000) = false ∧ validB n d = false) ∨
  (1 ≤ d ∧ decide (1 ≤ d) = true ∧ decide (d ≤ 1000000000) = true ∧ decide (-1000000000000000 ≤ n) = false ∧ validB n d = false) ∨
  (1 ≤ d ∧ decide (1 ≤ d) = true ∧ decide (d ≤ 1000000000) = true ∧ decide (-1000000000000000 ≤ n) = true ∧ decide (n ≤ 1000000000000000) = false ∧ validB n d = false) ∨
  (1 ≤ d ∧ d ≤ 1000000000 ∧ decide (1 ≤ d) = true ∧ decide (d ≤ 1000000000) = true ∧ decide (-1000000000000000 ≤ n) = true ∧ decide (n ≤ 1000000000000000) = true ∧ (((Nat.gcd n.natAbs d.natAbs : Nat) : Int) == 1) = validB n d) := by
 unfold validB;by_cases h1 : 1 ≤ d
 ·by_cases h2 : d ≤ 1000000000
  ·by_cases h3 : -1000000000000000 ≤ n
   ·by_cases h4 : n ≤ 1000000000000000
    ·refine .inr (.inr (.inr (.inr ⟨h1, h2, by simp [h1], by simp [h2], by simp [h3], by simp [h4], ?_⟩)));simp only [h1, h2, h3, h4, and_self, decide_true, Bool.true_and]
     by_cases g : Nat.gcd n.natAbs d.natAbs = 1 <;> simp [g]
     omega
    ·exact .inr (.inr (.inr (.inl ⟨h1, by simp [h1], by simp [h2], by simp [h3], by simp [h4], by simp [h4]⟩)))
   ·exact .inr (.inr (.inl ⟨h1, by simp [h1], by simp [h2], by simp [h3], by simp [h3]⟩))
  ·exact .inr (.inl ⟨h1, by simp [h1], by simp [h2], by simp [h2]⟩)
 ·exact .inl ⟨by simp [h1], by simp [h1]⟩
theorem valid_any (n d : Int) (w : World) (n0 : -9223372036854775808 ≤ n) (n1 : n ≤ 9223372036854775807) (d0 : -9223372036854775808 ≤ d) (d1 : d ≤ 9223372036854775807) :
  Calls Tryd.prog 54 #[.agg #[.int .i64 n, .int .i64 d]] w (BRes (validB n d) w) := by
 unfold BRes;have P1 : decide (1 ≤ d) = false → d < 1 := by simp
 have P2 : decide (d ≤ 1000000000) = false → 1000000000 < d := by simp
 have P3 : decide (-1000000000000000 ≤ n) = false → n < -1000000000000000 := by simp
 have P4 : decide (n ≤ 1000000000000000) = false → 1000000000000000 < n := by simp
 have Q2 : decide (d ≤ 1000000000) = true → d ≤ 1000000000 := by simp
 have Q3 : decide (-1000000000000000 ≤ n) = true → -1000000000000000 ≤ n := by simp
 have Q4 : decide (n ≤ 1000000000000000) = true → n ≤ 1000000000000000 := by simp
 rcases valid_ways n d with ⟨k1, kv⟩ | ⟨kd, k1, k2, kv⟩ | ⟨kd, k1, k2, k3, kv⟩ | ⟨kd, k1, k2, k3, k4, kv⟩ | ⟨kd, kd', k1, k2, k3, k4, kv⟩
 ·have p1 := P1 k1;clear P1 P2 P3 P4 Q2 Q3 Q4;rw [kv];go_enter Tryd.func54, Tryd.ntmps54;go_wp2_with fail;refine wp_region_calm (fun _ w' => w'.cell? { block := w.heap.size, off := 0 } = some (.int .i64 n) ∧ w'.cell? { block := w.heap.size, off := 1 } = some (.int .i64 d)) (fun _ => false) [0, 1, 2, 3, 4, 5, 6, 7, 8, 9, 10, 11, 12, 13, 14, 15, 16, 17, 18, 19, 20, 21, 22, 23, 24, 25, 26, 27, 28] 0 (by kernel_rfl) (by kernel_rfl) ?hst ?hS0 (fun w0 h0 => ?_)
  case hst => exact fun _ _ _ h r => ⟨r.cell h.1, r.cell h.2⟩
  case hS0 => exact ⟨by go_simp, by go_simp⟩
  iterate 4
   refine wpCalm_go rfl (by kernel_rfl) (fun K hK => ?_);apply Exists.intro;refine ⟨fun M w hM hS => ?_, hK _ ?_⟩
   ·have hc := hS.1;have hc' := hS.2;unfold calmAt;go_simp;exact ⟨rfl, Rel.refl _⟩
   clear hK K
  iterate 3 (refine wpCalm_no rfl (by kernel_rfl) (fun K hK => hK _ ?_); clear hK K)
  iterate 2
   refine wpCalm_go rfl (by kernel_rfl) (fun K hK => ?_);apply Exists.intro;refine ⟨fun M w hM hS => ?_, hK _ ?_⟩
   ·have hc := hS.1;have hc' := hS.2;unfold calmAt;go_simp;exact ⟨rfl, Rel.refl _⟩
   clear hK K
  iterate 3 (refine wpCalm_no rfl (by kernel_rfl) (fun K hK => hK _ ?_); clear hK K)
  iterate 2
   refine wpCalm_go rfl (by kernel_rfl) (fun K hK => ?_);apply Exists.intro;refine ⟨fun M w hM hS => ?_, hK _ ?_⟩
   ·have hc := hS.1;have hc' := hS.2;unfold calmAt;go_simp;exact ⟨rfl, Rel.refl _⟩
   clear hK K
  iterate 3 (refine wpCalm_no rfl (by kernel_rfl) (fun K hK => hK _ ?_); clear hK K)
  iterate 2
   refine wpCalm_go rfl (by kernel_rfl) (fun K hK => ?_);apply Exists.intro;refine ⟨fun M w hM hS => ?_, hK _ ?_⟩
   ·have hc := hS.1;have hc' := hS.2;unfold calmAt;go_simp;exact ⟨rfl, Rel.refl _⟩
   clear hK K
  iterate 8 (refine wpCalm_no rfl (by kernel_rfl) (fun K hK => hK _ ?_); clear hK K)
  iterate 2
   refine wpCalm_go rfl (by kernel_rfl) (fun K hK => ?_);apply Exists.intro;refine ⟨fun M w hM hS => ?_, hK _ ?_⟩
   ·have hc := hS.1;have hc' := hS.2;unfold calmAt;go_simp;exact ⟨rfl, Rel.refl _⟩
   clear hK K
  refine wpAnyR_end (by kernel_rfl) (fun w1 h1 => ?_);(try simp only [Act.put, zla, zlb, zlc]);have kz1 := h1.size;(try simp only [zsa, zsc, zsd] at kz1);have H1 := Hj h1;clear h1;go_wp2;go_ret;exact ⟨rfl, (((Rel.refl _).alloc _).trans (h0.trans H1.out))⟩
 ·have p1 := P2 k2;clear P1 P2 P3 P4 Q2 Q3 Q4;rw [kv];go_enter Tryd.func54, Tryd.ntmps54;go_wp2_with fail;refine wp_region_calm (fun _ w' => w'.cell? { block := w.heap.size, off := 0 } = some (.int .i64 n) ∧ w'.cell? { block := w.heap.size, off := 1 } = some (.int .i64 d)) (fun _ => false) [0, 1, 2, 3, 4, 5, 6, 7, 8, 9, 10, 11, 12, 13, 14, 15, 16, 17, 18, 19, 20, 21, 22, 23, 24, 25, 26, 27, 28] 0 (by kernel_rfl) (by kernel_rfl) ?hst ?hS0 (fun w0 h0 => ?_)
  case hst => exact fun _ _ _ h r => ⟨r.cell h.1, r.cell h.2⟩
  case hS0 => exact ⟨by go_simp, by go_simp⟩
  iterate 9
   refine wpCalm_go rfl (by kernel_rfl) (fun K hK => ?_);apply Exists.intro;refine ⟨fun M w hM hS => ?_, hK _ ?_⟩
   ·have hc := hS.1;have hc' := hS.2;unfold calmAt;go_simp;exact ⟨rfl, Rel.refl _⟩
   clear hK K
  iterate 3 (refine wpCalm_no rfl (by kernel_rfl) (fun K hK => hK _ ?_); clear hK K)
  iterate 2
   refine wpCalm_go rfl (by kernel_rfl) (fun K hK => ?_);apply Exists.intro;refine ⟨fun M w hM hS => ?_, hK _ ?_⟩
   ·have hc := hS.1;have hc' := hS.2;unfold calmAt;go_simp;exact ⟨rfl, Rel.refl _⟩
   clear hK K
  iterate 3 (refine wpCalm_no rfl (by kernel_rfl) (fun K hK => hK _ ?_); clear hK K)
  iterate 2
   refine wpCalm_go rfl (by kernel_rfl) (fun K hK => ?_);apply Exists.intro;refine ⟨fun M w hM hS => ?_, hK _ ?_⟩
   ·have hc := hS.1;have hc' := hS.2;unfold calmAt;go_simp;exact ⟨rfl, Rel.refl _⟩
   clear hK K
  iterate 8 (refine wpCalm_no rfl (by kernel_rfl) (fun K hK => hK _ ?_); clear hK K)
  iterate 2
   refine wpCalm_go rfl (by kernel_rfl) (fun K hK => ?_);apply Exists.intro;refine ⟨fun M w hM hS => ?_, hK _ ?_⟩
   ·have hc := hS.1;have hc' := hS.2;unfold calmAt;go_simp;exact ⟨rfl, Rel.refl _⟩
   clear hK K
  refine wpAnyR_end (by kernel_rfl) (fun w1 h1 => ?_);(try simp only [Act.put, zla, zlb, zlc]);have kz1 := h1.size;(try simp only [zsa, zsc, zsd] at kz1);have H1 := Hj h1;clear h1;go_wp2;go_ret;exact ⟨rfl, (((Rel.refl _).alloc _).trans (h0.trans H1.out))⟩
 ·have p1 := Q2 k2;have p2 := P3 k3;clear P1 P2 P3 P4 Q2 Q3 Q4;rw [kv];go_enter Tryd.func54, Tryd.ntmps54;go_wp2_with fail;refine wp_region_calm (fun _ w' => w'.cell? { block := w.heap.size, off := 0 } = some (.int .i64 n) ∧ w'.cell? { block := w.heap.size, off := 1 } = some (.int .i64 d)) (fun _ => false) [0, 1, 2, 3, 4, 5, 6, 7, 8, 9, 10, 11, 12, 13, 14, 15, 16, 17, 18, 19, 20, 21, 22, 23, 24, 25, 26, 27, 28] 0 (by kernel_rfl) (by kernel_rfl) ?hst ?hS0 (fun w0 h0 => ?_)
  case hst => exact fun _ _ _ h r => ⟨r.cell h.1, r.cell h.2⟩
  case hS0 => exact ⟨by go_simp, by go_simp⟩
  iterate 14
   refine wpCalm_go rfl (by kernel_rfl) (fun K hK => ?_);apply Exists.intro;refine ⟨fun M w hM hS => ?_, hK _ ?_⟩
   ·have hc := hS.1;have hc' := hS.2;unfold calmAt;go_simp;exact ⟨rfl, Rel.refl _⟩
   clear hK K
  iterate 3 (refine wpCalm_no rfl (by kernel_rfl) (fun K hK => hK _ ?_); clear hK K)
  iterate 2
   refine wpCalm_go rfl (by kernel_rfl) (fun K hK => ?_);apply Exists.intro;refine ⟨fun M w hM hS => ?_, hK _ ?_⟩
   ·have hc := hS.1;have hc' := hS.2;unfold calmAt;go_simp;exact ⟨rfl, Rel.refl _⟩
   clear hK K
  iterate 8 (refine wpCalm_no rfl (by kernel_rfl) (fun K hK => hK _ ?_); clear hK K)
  iterate 2
   refine wpCalm_go rfl (by kernel_rfl) (fun K hK => ?_);apply Exists.intro;refine ⟨fun M w hM hS => ?_, hK _ ?_⟩
   ·have hc := hS.1;have hc' := hS.2;unfold calmAt;go_simp;exact ⟨rfl, Rel.refl _⟩
   clear hK K
  refine wpAnyR_end (by kernel_rfl) (fun w1 h1 => ?_);(try simp only [Act.put, zla, zlb, zlc]);have kz1 := h1.size;(try simp only [zsa, zsc, zsd] at kz1);have H1 := Hj h1;clear h1;go_wp2;go_ret;exact ⟨rfl, (((Rel.refl _).alloc _).trans (h0.trans H1.out))⟩
 ·have p1 := Q2 k2;have p2 := Q3 k3;have p3 := P4 k4;clear P1 P2 P3 P4 Q2 Q3 Q4;rw [kv];go_enter Tryd.func54, Tryd.ntmps54;go_wp2_with fail;refine wp_region_calm (fun _ w' => w'.cell? { block := w.heap.size, off := 0 } = some (.int .i64 n) ∧ w'.cell? { block := w.heap.size, off := 1 } = some (.int .i64 d)) (fun _ => false) [0, 1, 2, 3, 4, 5, 6, 7, 8, 9, 10, 11, 12, 13, 14, 15, 16, 17, 18, 19, 20, 21, 22, 23, 24, 25, 26, 27, 28] 0 (by kernel_rfl) (by kernel_rfl) ?hst ?hS0 (fun w0 h0 => ?_)
  case hst => exact fun _ _ _ h r => ⟨r.cell h.1, r.cell h.2⟩
  case hS0 => exact ⟨by go_simp, by go_simp⟩
  iterate 19
   refine wpCalm_go rfl (by kernel_rfl) (fun K hK => ?_);apply Exists.intro;refine ⟨fun M w hM hS => ?_, hK _ ?_⟩
   ·have hc := hS.1;have hc' := hS.2;unfold calmAt;go_simp;exact ⟨rfl, Rel.refl _⟩
   clear hK K
  iterate 8 (refine wpCalm_no rfl (by kernel_rfl) (fun K hK => hK _ ?_); clear hK K)
  iterate 2
   refine wpCalm_go rfl (by kernel_rfl) (fun K hK => ?_);apply Exists.intro;refine ⟨fun M w hM hS => ?_, hK _ ?_⟩
   ·have hc := hS.1;have hc' := hS.2;unfold calmAt;go_simp;exact ⟨rfl, Rel.refl _⟩
   clear hK K
  refine wpAnyR_end (by kernel_rfl) (fun w1 h1 => ?_);(try simp only [Act.put, zla, zlb, zlc]);have kz1 := h1.size;(try simp only [zsa, zsc, zsd] at kz1);have H1 := Hj h1;clear h1;go_wp2;go_ret;exact ⟨rfl, (((Rel.refl _).alloc _).trans (h0.trans H1.out))⟩
 ·have p2 := Q3 k3;have p3 := Q4 k4;clear P1 P2 P3 P4 Q2 Q3 Q4;have G1 := Hj (fun w => size_any n w n0 n1);have G2 := Hj (fun w => size_any d w d0 d1);have G := Hj (fun w => gcd_any n.natAbs d.natAbs w (by omega) (by omega));generalize Nat.gcd n.natAbs d.natAbs = g at *;generalize n.natAbs = a at *;generalize d.natAbs = b at *;generalize validB n d = v at *;go_enter Tryd.func54, Tryd.ntmps54;go_wp2_with fail;refine wp_region_calm (fun _ w' => w'.cell? { block := w.heap.size, off := 0 } = some (.int .i64 n) ∧ w'.cell? { block := w.heap.size, off := 1 } = some (.int .i64 d)) (fun _ => false) [0, 1, 2, 3, 4, 5, 6, 7, 8, 9, 10, 11, 12, 13, 14, 15, 16, 17, 18, 19, 20, 21, 22, 23, 24, 25, 26, 27, 28] 0 (by kernel_rfl) (by kernel_rfl) ?hst ?hS0 (fun w0 h0 => ?_)
  case hst => exact fun _ _ _ h r => ⟨r.cell h.1, r.cell h.2⟩
  case hS0 => exact ⟨by go_simp, by go_simp⟩
  iterate 21
   refine wpCalm_go rfl (by kernel_rfl) (fun K hK => ?_);apply Exists.intro;refine ⟨fun M w hM hS => ?_, hK _ ?_⟩
   ·have hc := hS.1;have hc' := hS.2;unfold calmAt;go_simp;exact ⟨rfl, Rel.refl _⟩
   clear hK K
  refine wpCalm_go rfl (by kernel_rfl) (fun K hK => ?_);apply Exists.intro;refine ⟨fun M w hM hS => ?_, hK _ ?_⟩
  ·unfold calmAt;go_simp
   with_reducible refine (G1.out _).mono ?_
   rintro e w1 ⟨rfl, rfl⟩;exact ⟨rfl, Rel.refl _⟩
  clear hK K
  iterate 2
   refine wpCalm_go rfl (by kernel_rfl) (fun K hK => ?_);apply Exists.intro;refine ⟨fun M w hM hS => ?_, hK _ ?_⟩
   ·have hc := hS.1;have hc' := hS.2;unfold calmAt;go_simp;exact ⟨rfl, Rel.refl _⟩
   clear hK K
  refine wpCalm_go rfl (by kernel_rfl) (fun K hK => ?_);apply Exists.intro;refine ⟨fun M w hM hS => ?_, hK _ ?_⟩
  ·unfold calmAt;go_simp
   with_reducible refine (G2.out _).mono ?_
   rintro e w1 ⟨rfl, rfl⟩;exact ⟨rfl, Rel.refl _⟩
  clear hK K;refine wpCalm_go rfl (by kernel_rfl) (fun K hK => ?_);apply Exists.intro;refine ⟨fun M w hM hS => ?_, hK _ ?_⟩
  ·unfold calmAt;go_simp
   with_reducible refine (G.out _).mono ?_
   rintro e w1 ⟨rfl, hb⟩;exact ⟨rfl, hb⟩
  clear hK K
  iterate 3
   refine wpCalm_go rfl (by kernel_rfl) (fun K hK => ?_);apply Exists.intro;refine ⟨fun M w hM hS => ?_, hK _ ?_⟩
   ·unfold calmAt;go_simp;exact ⟨rfl, Rel.refl _⟩
   clear hK K
  refine wpAnyR_end (by kernel_rfl) (fun w1 h1 => ?_);(try simp only [Act.put, zla, zlb, zlc]);have kz1 := h1.size;(try simp only [zsa, zsc, zsd] at kz1);have H1 := Hj h1;clear h1;go_wp2;go_ret;exact ⟨rfl, (((Rel.refl _).alloc _).trans (h0.trans H1.out))⟩
theorem tmod_gt (v n : Int) (h : 0 < n) : -n < Int.tmod v n := by
 have h1 := Int.tmod_lt_of_pos (-v) h;rw [Int.neg_tmod] at h1; omega
theorem fpick_eq (v n : Int) (h : 1 ≤ n) : Int.tmod (Int.tmod v n + n) n = v % n := by
 have hn := Int.emod_nonneg v (show n ≠ 0 by omega);have hl := Int.emod_lt_of_pos v (show 0 < n by omega);by_cases hv : 0 ≤ v
 ·rw [Int.tmod_eq_emod_of_nonneg hv, Int.tmod_eq_emod_of_nonneg (by omega), Int.add_emod_right, Int.emod_emod]
 ·have hb := Int.tmod_lt_of_pos v (show 0 < n by omega);have hb2 := tmod_gt v n (by omega);rw [Int.tmod_eq_emod_of_nonneg (by omega), Int.add_emod_right];have := Int.emod_def (Int.tmod v n) n
  have e : v.tmod n % n = v % n := by
   have h1 := Int.tmod_def v n;rw [h1, Int.sub_mul_emod_self_left]
  exact e
theorem pick_any (v n : Int) (w : World) (v0 : -9223372036854775808 ≤ v) (v1 : v ≤ 9223372036854775807) (h1 : 1 ≤ n) (h2 : n ≤ 4000000000000000000) :
  Calls Tryd.prog 4 #[.int .i64 v, .int .i64 n] w fun e w' => e = .returned (.int .i64 (v % n)) ∧ w = w' := by
 have hb := Int.tmod_lt_of_pos v (show 0 < n by omega);have hb2 := tmod_gt v n (by omega);have z1 : (n == 0) = false := by simp; omega
 have z2 : ¬ n = 0 := by omega
 rw [← fpick_eq v n h1];by_cases hv : 0 ≤ v
 ·rw [Int.tmod_eq_emod_of_nonneg hv] at hb hb2 ⊢;have := Int.emod_nonneg v (show n ≠ 0 by omega);rw [Int.tmod_eq_emod_of_nonneg (show 0 ≤ v % n + n by omega)];go_enter Tryd.func4, Tryd.ntmps4;go_wp2;go_ret;exact ⟨rfl, rfl⟩
 ·have hlt : v < 0 := by omega
  generalize ht : Int.tmod v n = t at *;have HT := ht;rw [Int.tmod_eq_emod_of_nonneg (show 0 ≤ t + n by omega)];go_enter Tryd.func4, Tryd.ntmps4;go_wp2;go_ret;exact ⟨rfl, rfl⟩
theorem valid_is {n d : Int} {b : Bool} (h : validB n d = b) (w : World) (n0 : -9223372036854775808 ≤ n) (n1 : n ≤ 9223372036854775807) (d0 : -9223372036854775808 ≤ d) (d1 : d ≤ 9223372036854775807) :
  Calls Tryd.prog 54 #[.agg #[.int .i64 n, .int .i64 d]] w fun e w' => e = .returned (.bool b) ∧ Rel w w' := by
 have := valid_any n d w n0 n1 d0 d1;rw [h] at this; exact this
theorem div_uniq {n d q s : Int} (hd : 0 < d) (h0 : 0 ≤ s) (h1 : s < d) (e : d * q + s = n) : n / d = q := by
 rw [← e, Int.add_comm, Int.add_mul_ediv_left _ _ (by omega), Int.ediv_eq_zero_of_lt h0 h1]; omega
theorem div_ways (n d : Int) (hd : 1 ≤ d) (h3 : -1000000000000000 ≤ n) (h4 : n ≤ 1000000000000000) :
  ∃ q r p : Int, Int.tdiv n d = q ∧ Int.tmod n d = r ∧ q * d = p ∧ -1000000000000000 ≤ q ∧ q ≤ 1000000000000000 ∧ -1000000000000000 ≤ p ∧ p ≤ 1000000000000000 ∧
   ((r = 0 ∧ p = n ∧ n / d = q ∧ -(-n / d) = q) ∨ (r < 0 ∧ n < p ∧ n / d = q - 1 ∧ -(-n / d) = q) ∨ (0 < r ∧ p < n ∧ n / d = q ∧ -(-n / d) = q + 1)) := by
 refine ⟨_, _, _, rfl, rfl, rfl, ?_⟩;have e1 := Int.tmod_def n d;have c1 := Int.tmod_lt_of_pos n (show 0 < d by omega);have c2 := tmod_gt n d (by omega)
 have hs : (0 ≤ n → 0 ≤ Int.tmod n d) ∧ (n ≤ 0 → Int.tmod n d ≤ 0) := by
  refine ⟨fun h => Int.tmod_nonneg _ h, fun h => ?_⟩;have := Int.tmod_nonneg d (show 0 ≤ -n by omega);rw [Int.neg_tmod] at this; omega
 have hq : (0 ≤ n → 0 ≤ Int.tdiv n d ∧ Int.tdiv n d ≤ n) ∧ (n ≤ 0 → n ≤ Int.tdiv n d ∧ Int.tdiv n d ≤ 0) := by
  refine ⟨fun h => ?_, fun h => ?_⟩
  ·rw [Int.tdiv_eq_ediv_of_nonneg h];exact ⟨Int.ediv_nonneg h (by omega), Int.ediv_le_self _ h⟩
  ·have e : Int.tdiv n d = -Int.tdiv (-n) d := by rw [Int.neg_tdiv]; omega
   rw [e, Int.tdiv_eq_ediv_of_nonneg (by omega)];have := Int.ediv_nonneg (show 0 ≤ -n by omega) (show 0 ≤ d by omega);have := Int.ediv_le_self d (show 0 ≤ -n by omega);omega
 have hp : (0 ≤ n → 0 ≤ Int.tdiv n d * d) ∧ (n ≤ 0 → Int.tdiv n d * d ≤ 0) := by
  refine ⟨fun h => Int.mul_nonneg (hq.1 h).1 (by omega), fun h => Int.mul_nonpos_of_nonpos_of_nonneg (hq.2 h).2 (by omega)⟩
 have u := fun q s (h0 : 0 ≤ s) (h1 : s < d) (e : d * q + s = n) => div_uniq (n := n) (q := q) (show 0 < d by omega) h0 h1 e
 have v := fun q s (h0 : 0 ≤ s) (h1 : s < d) (e : d * q + s = -n) => div_uniq (n := -n) (q := q) (show 0 < d by omega) h0 h1 e
 rw [Int.mul_comm d] at e1;generalize Int.tdiv n d = q at *;generalize Int.tmod n d = r at *;have k1 : d * (q - 1) = q * d - d := by grind
 have k2 : d * q = q * d := by grind
 have k3 : d * (-q) = -(q * d) := by grind
 have k4 : d * (-q - 1) = -(q * d) - d := by grind
 refine ⟨by omega, by omega, by omega, by omega, ?_⟩
 rcases Int.lt_trichotomy r 0 with h | h | h
 ·refine .inr (.inl ⟨h, by omega, u _ (r + d) (by omega) (by omega) (by omega), ?_⟩);rw [v (-q) (-r) (by omega) (by omega) (by omega)]; omega
 ·refine .inl ⟨h, by omega, u _ 0 (by omega) (by omega) (by omega), ?_⟩;rw [v (-q) 0 (by omega) (by omega) (by omega)]; omega
 ·refine .inr (.inr ⟨h, by omega, u _ r (by omega) (by omega) (by omega), ?_⟩);rw [v (-q - 1) (d - r) (by omega) (by omega) (by omega)]; omega
def ZRes (x y : Int) (w : World) (e : Ending) (w' : World) : Prop := e = .returned (.tuple #[.int .i64 x, .int .i64 y]) ∧ Rel w w'
theorem floor_any (n d : Int) (w : World) (n0 : -9223372036854775808 ≤ n) (n1 : n ≤ 9223372036854775807) (d0 : -9223372036854775808 ≤ d) (d1 : d ≤ 9223372036854775807) :
  Calls Tryd.prog 34 #[.agg #[.int .i64 n, .int .i64 d]] w (ZRes (flN n d) (flE n d) w) := by
 unfold flN flE ZRes
 cases hv : validB n d
 ·have V := Hj (fun w => valid_is hv w n0 n1 d0 d1);clear hv;rw [if_neg (by simp), if_neg (by simp)];go_enter Tryd.func34, Tryd.ntmps34;go_wp2_with fail
  with_reducible refine (V.out _).mono ?_
  rintro e w1 ⟨rfl, h1⟩;have kq0 := keep2 h1 (b := w.heap.size) (by first | (simp; done) | (simp; omega) | omega);have kz1 := h1.size;(try simp only [zsa, zsc, zsd] at kz1);have H1 := Hj h1;clear h1;go_wp2
  go_ret2
  exact ⟨rfl, by (show Rel _ _; repeat (first | with_reducible (first | exact qR _ | refine qA ?_ _ | refine qD ?_ | refine qT ?_ H1.out | refine qT ?_ H0.out) | with_reducible refine qS ?_ (by first | (simp; done) | (simp; omega)) _))⟩
 ·have V := Hj (fun w => valid_is hv w n0 n1 d0 d1);have hb := (validB_iff n d).1 hv;have b1 := hb.1.1; have b2 := hb.1.2.1; have b3 := hb.1.2.2.1; have b4 := hb.1.2.2.2;clear hv hb;rw [if_pos rfl, if_pos rfl];obtain ⟨q, r, p, hq, hr, hp, q1, q2, p1, p2, hw⟩ := div_ways n d b1 b3 b4;have z1 : (d == 0) = false := by simp; omega
  have z2 : ¬ d = 0 := by omega
  have hq0 : 0 ≤ n → n / d = q := fun h => by rw [← hq, Int.tdiv_eq_ediv_of_nonneg h]
  have hr0 : 0 ≤ n → n % d = r := fun h => by rw [← hr, Int.tmod_eq_emod_of_nonneg h]
  rcases hw with ⟨h1, h2, h3, h4⟩ | ⟨h1, h2, h3, h4⟩ | ⟨h1, h2, h3, h4⟩
  all_goals
   rw [h3];clear h3 h4;by_cases hn : 0 ≤ n
   all_goals
    (first | (have hq1 := hq0 hn; have hr1 := hr0 hn; clear hq0 hr0) | clear hq0 hr0)
    go_enter Tryd.func34, Tryd.ntmps34;go_wp2_with fail
    with_reducible refine (V.out _).mono ?_
    rintro e w1 ⟨rfl, h1⟩;have kq1 := keep2 h1 (b := w.heap.size) (by first | (simp; done) | (simp; omega) | omega);have kz1 := h1.size;(try simp only [zsa, zsc, zsd] at kz1);have H1 := Hj h1;clear h1;go_wp2
    go_ret2
    exact ⟨by first | rfl | (congr; omega) | simp [*], by (show Rel _ _; repeat (first | with_reducible (first | exact qR _ | refine qA ?_ _ | refine qD ?_ | refine qT ?_ H1.out | refine qT ?_ H0.out) | with_reducible refine qS ?_ (by first | (simp; done) | (simp; omega)) _))⟩
end Go.Proofs.YtlmclkaighlfaaaDoor

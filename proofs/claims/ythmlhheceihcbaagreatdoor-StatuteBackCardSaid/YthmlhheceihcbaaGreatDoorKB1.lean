/- Lemmas, each as it is printed; no conditions but those printed. -/
import Derived.Test.YthmlhheceihcbaaGreatDoorKB0
import Derived.Lib.ItoaNum
namespace Go.Proofs.YthmlhheceihcbaaGreatDoor
set_option maxHeartbeats 16000000
open Go.RowKit Frac Tryz
attribute [local go_sem] calmUpon
theorem ret_uu {k l : IntKind} {a b c d : Int} (h : a = b) (h' : c = d) : Ending.returned (.tuple #[.int k a, .int l c]) = .returned (.tuple #[.int k b, .int l d]) := by rw [h, h']
theorem div64_small (l y : Nat) (w : World) (hl : l < 18446744073709551616) (hy0 : 0 < y) (hy : y < 18446744073709551616) :
    Calls prog 175 #[.int .u64 0, .int .u64 l, .int .u64 y] w fun e w' => e = .returned (.tuple #[.int .u64 (l / y : Nat), .int .u64 (l % y : Nat)]) /\ Rel w w' := by
  have c1 : ((y : Int) == 0) = false := by simp; omega
  have c2 : (0 : Int) < y := by omega
  have c3 : decide ((y : Int) <= 0) = false := by simp; omega
  have hmod := nmod_cast l y;have hdiv : Int.tdiv (l : Int) (y : Int) = ((l / y : Nat) : Int) := by rw [Int.tdiv_eq_ediv_of_nonneg (by omega)]; rfl
  have hdl : l / y <= l := Nat.div_le_self _ _;have hwr : IntKind.u64.wrap ((l / y : Nat) : Int) = ((l / y : Nat) : Int) := by generalize l / y = q at *; exact IntWalk.u64_in _ ⟨by omega, by omega⟩
  clear hdl;go_enter func175, ntmps175;go_wp2;refine wp_region_calm (fun _ _ => True) (fun _ => false) [0, 1, 2, 3, 4, 5, 6, 7] 0 (by kernel_rfl) (by kernel_rfl) (fun _ _ _ _ _ => trivial) trivial (fun w0 h0 => ?_)
  iterate 8
    first
      | (refine wpCalm_no rfl rfl (fun K hK => hK _ ?_); clear hK K)
      | (refine wpCalm_go rfl rfl (fun K hK => ?_)
         apply Exists.intro;refine ⟨fun M w hM hS => ?_, hK _ ?_⟩
         · unfold calmAt;go_simp;exact ⟨rfl, Rel.refl _⟩
         clear hK K)
  refine wpCalm_nil (wpAnyR_end (by kernel_rfl) (fun w1 h1 => ?_));simp only [Act.put, zla, zlb, zlc];go_wp2
  go_ret2
  exact ⟨ret_uu hwr rfl, h0.trans h1⟩
-- BEGIN div64_core (gen_div.py)
theorem div64_core (h l y s Y v1 v0 U D u1 u0 qa Pa ra Q1 V qb Pb rb Q2 R N0 N1 : Nat) (w : World) (h0 : 0 < h) (hh : h < y) (hy : y < 18446744073709551616)
  (hs : 64 - (Lib.bitLen y : Int) = s) (hs0 : s <= 63) (hY : (y : Int) * 2 ^ s = Y) (hY2 : Y < 18446744073709551616) (hv1 : (Y : Int) / 4294967296 = v1) (hv1p : 2147483648 <= v1) (hv1q : v1 < 4294967296)
  (hv0 : bits .and .u64 (Y : Int) 4294967295 = v0) (hv : Hid (v1 = Y / 4294967296 /\ v0 = Y % 4294967296 /\ v0 < 4294967296 /\ True))
  (hU : bits .or .u64 (IntKind.u64.wrap ((h : Int) * 2 ^ s)) ((l : Int) / 2 ^ (64 - s)) = U) (hU2 : U < 18446744073709551616) (hD : IntKind.u64.wrap ((l : Int) * 2 ^ s) = D)
  (hu1 : (D : Int) / 4294967296 = u1) (hu12 : u1 < 4294967296) (hu0 : bits .and .u64 (D : Int) 4294967295 = u0) (hu02 : u0 < 4294967296)
  (hqa : (U : Int) / v1 = qa) (hPa : (qa : Int) * v1 = Pa) (hPa2 : Pa <= U) (hra : (U : Int) - Pa = ra) (hra2 : ra < 4294967296) (hqa2 : qa <= 4294967298) (hqar : Hid (qa * v1 + ra = U)) (hqaQ : Hid (Q1 <= qa))
  (hA : Hid (U < Y /\ Q1 = (U * 4294967296 + u1) / Y /\ u1 < 4294967296)) (hQ1lt : Q1 < 4294967296)
  (hV : Hid (IntKind.u64.wrap (IntKind.u64.wrap (IntKind.u64.wrap ((U : Int) * 4294967296) + u1) - IntKind.u64.wrap ((Q1 : Int) * Y)) = V)) (hV2 : V < 18446744073709551616)
  (hqb' : (V : Int) / v1 = qb) (hPb : (qb : Int) * v1 = Pb) (hPb2 : Pb <= V) (hrb' : (V : Int) - Pb = rb) (hrb : rb < 4294967296) (hqb : qb <= 4294967298) (hqbr : Hid (qb * v1 + rb = V)) (hqbQ : Hid (Q2 <= qb))
  (hB : Hid (V < Y /\ Q2 = (V * 4294967296 + u0) / Y /\ u0 < 4294967296)) (hQ2lt : Q2 < 4294967296)
  (hR : Hid (IntKind.u64.wrap (IntKind.u64.wrap (IntKind.u64.wrap ((V : Int) * 4294967296) + u0) - IntKind.u64.wrap ((Q2 : Int) * Y)) = R))
  (hres : Hid ((Q1 : Int) * 4294967296 + Q2 = N0 /\ (R : Int) / 2 ^ s = N1)) :
  Calls prog 175 #[.int .u64 h, .int .u64 l, .int .u64 y] w fun e w' => e = .returned (.tuple #[.int .u64 N0, .int .u64 N1]) /\ Rel w w' := by
 have c1 : ((y : Int) == 0) = false := by simp; omega
 have c3 : decide ((y : Int) <= h) = false := by simp; omega
 have c4 : ((h : Int) == 0) = false := by simp; omega
 have m1 : min s 64 = s := by omega
 have HS := Hj hs;clear hs;go_enter func175, ntmps175
 go_wp2_with (go_at_call 192; refine (Tryz.bits_LeadingZeros64 _ _ (by omega) (by omega)).mono ?_; rw [show (y : Int).toNat = y from rfl, HS.out]; rintro e w1 ⟨rfl, rfl⟩)
 go_loop [15, 16] (fun a b => ∃ q r : Nat, a = .int .u64 q /\ b = .int .u64 r /\ r < 4294967296 /\ q <= 4294967298 /\ Hid (q * v1 + r = U) /\ Hid (Q1 <= q)) (fun a _ => (intOf a).toNat)
 case atStart => exact ⟨qa, ra, rfl, rfl, hra2, hqa2, hqar, hqaQ⟩
 case round =>
  obtain ⟨q, r, rfl, rfl, hr32, hq32, hqr, hqQ⟩ := hrel;by_cases hbig : 4294967296 <= q \/ 4294967296 * r + u1 < q * v0
  ·have hgt := Hj (Dv.est_yes (u1 := u1) hA.out.1 hA.out.2.2 (by rw [<- hv.out.1]; exact hqr.out) (by rw [<- hv.out.2.1]; exact hbig));obtain ⟨k, rfl⟩ : ∃ k, q = k + 1 := ⟨q - 1, by have := hgt.out; rw [<- hA.out.2.1] at this; omega⟩;have hkr := Hj (show k * v1 + (r + v1) = U from Dv.est_step hqr.out (by omega));have hkQ := Hj (show Q1 <= k by have := hgt.out; rw [<- hA.out.2.1] at this; omega);have hprod : k + 1 < 4294967296 -> (((k : Int) + 1) * v0 = (((k + 1) * v0 : Nat) : Int) /\ (k + 1) * v0 < 18446744073709551616) := fun hk => ⟨by rw [Int.natCast_mul]; rfl, Dv.est_prod hk hv.out.2.2.1⟩
   by_cases hk1 : 4294967296 <= k + 1
   ·clear hprod hbig hqr hgt;have hki : ¬ ((k : Int) + 1 < 4294967296) := by omega
    have hkj : decide (4294967296 <= (k : Int) + 1) = true := by simp; omega
    by_cases hbr : 4294967296 <= r + v1
    ·have hk := Hj (show k = Q1 by rw [hA.out.2.1]; exact Dv.est_break (u1 := u1) hA.out.1 (by rw [<- hv.out.1]; exact hkr.out) (by rw [<- hA.out.2.1]; exact hkQ.out) (by omega) hbr);have hkb : ¬ ((r : Int) + v1 < 4294967296) := by omega
     have hkc : decide (4294967296 <= (r : Int) + v1) = true := by simp; omega
     have hk1st := hk;clear hk;have hVq : IntKind.u64.wrap (IntKind.u64.wrap (IntKind.u64.wrap ((U : Int) * 4294967296) + u1) - IntKind.u64.wrap ((k : Int) * Y)) = V := by rw [hk1st.out]; exact hV.out
     have hQ1 : k < 4294967296 := by rw [hk1st.out]; exact hQ1lt
     go_wp2
     go_loop [18, 16] (fun a b => ∃ q2 r2 : Nat, a = .int .u64 q2 /\ b = .int .u64 r2 /\ r2 < 4294967296 /\ q2 <= 4294967298 /\ Hid (q2 * v1 + r2 = V) /\ Hid (Q2 <= q2)) (fun a _ => (intOf a).toNat)
     case atStart => exact ⟨qb, rb, rfl, rfl, hrb, hqb, hqbr, hqbQ⟩
     case round =>
      obtain ⟨q2, r2, rfl, rfl, hr322, hq322, hqr2, hqQ2⟩ := hrel;by_cases hbig2 : 4294967296 <= q2 \/ 4294967296 * r2 + u0 < q2 * v0
      ·have hgt2 := Hj (Dv.est_yes (u1 := u0) hB.out.1 hB.out.2.2 (by rw [<- hv.out.1]; exact hqr2.out) (by rw [<- hv.out.2.1]; exact hbig2));obtain ⟨k2, rfl⟩ : ∃ k2, q2 = k2 + 1 := ⟨q2 - 1, by have := hgt2.out; rw [<- hB.out.2.1] at this; omega⟩;have hkr2 := Hj (show k2 * v1 + (r2 + v1) = V from Dv.est_step hqr2.out (by omega));have hkQ2 := Hj (show Q2 <= k2 by have := hgt2.out; rw [<- hB.out.2.1] at this; omega);have hprod2 : k2 + 1 < 4294967296 -> (((k2 : Int) + 1) * v0 = (((k2 + 1) * v0 : Nat) : Int) /\ (k2 + 1) * v0 < 18446744073709551616) := fun hk => ⟨by rw [Int.natCast_mul]; rfl, Dv.est_prod hk hv.out.2.2.1⟩
       by_cases hk12 : 4294967296 <= k2 + 1
       ·clear hprod2 hbig2 hqr2 hgt2;have hki2 : ¬ ((k2 : Int) + 1 < 4294967296) := by omega
        have hkj2 : decide (4294967296 <= (k2 : Int) + 1) = true := by simp; omega
        by_cases hbr2 : 4294967296 <= r2 + v1
        ·have hk := Hj (show k2 = Q2 by rw [hB.out.2.1]; exact Dv.est_break (u1 := u0) hB.out.1 (by rw [<- hv.out.1]; exact hkr2.out) (by rw [<- hB.out.2.1]; exact hkQ2.out) (by omega) hbr2);have hkb2 : ¬ ((r2 : Int) + v1 < 4294967296) := by omega
         have hkc2 : decide (4294967296 <= (r2 : Int) + v1) = true := by simp; omega
         have hRq : IntKind.u64.wrap (IntKind.u64.wrap (IntKind.u64.wrap ((V : Int) * 4294967296) + u0) - IntKind.u64.wrap ((k2 : Int) * Y)) = R := by rw [hk.out]; exact hR.out
         have hQ2 : k2 < 4294967296 := by rw [hk.out]; exact hQ2lt
         go_wp2
         go_ret2
         exact ⟨ret_uu (by rw [hk1st.out, hk.out]; exact hres.out.1) hres.out.2, Rel.refl _⟩
        ·have hkb2 : ((r2 : Int) + v1 < 4294967296) := by omega
         have hkc2 : decide (4294967296 <= (r2 : Int) + v1) = false := by simp; omega
         go_wp2
         go_round
         case rel => exact ⟨k2, r2 + v1, by go_num, by go_num, by omega, by omega, hkr2, hkQ2⟩
         case measure => simp [intOf] <;> omega
       ·obtain ⟨hp12, hp22⟩ := hprod2 (by omega);generalize (k2 + 1) * v0 = X2 at *;have hX2 : 4294967296 * r2 + u0 < X2 := by omega
        clear hprod2 hbig2 hqr2 hgt2;have hki2 : ((k2 : Int) + 1 < 4294967296) := by omega
        have hkj2 : decide (4294967296 <= (k2 : Int) + 1) = false := by simp; omega
        have hkx2 : decide ((4294967296 : Int) * r2 + u0 < X2) = true := by simp; omega
        by_cases hbr2 : 4294967296 <= r2 + v1
        ·have hk := Hj (show k2 = Q2 by rw [hB.out.2.1]; exact Dv.est_break (u1 := u0) hB.out.1 (by rw [<- hv.out.1]; exact hkr2.out) (by rw [<- hB.out.2.1]; exact hkQ2.out) (by omega) hbr2);have hkb2 : ¬ ((r2 : Int) + v1 < 4294967296) := by omega
         have hkc2 : decide (4294967296 <= (r2 : Int) + v1) = true := by simp; omega
         have hRq : IntKind.u64.wrap (IntKind.u64.wrap (IntKind.u64.wrap ((V : Int) * 4294967296) + u0) - IntKind.u64.wrap ((k2 : Int) * Y)) = R := by rw [hk.out]; exact hR.out
         have hQ2 : k2 < 4294967296 := by rw [hk.out]; exact hQ2lt
         go_wp2
         go_ret2
         exact ⟨ret_uu (by rw [hk1st.out, hk.out]; exact hres.out.1) hres.out.2, Rel.refl _⟩
        ·have hkb2 : ((r2 : Int) + v1 < 4294967296) := by omega
         have hkc2 : decide (4294967296 <= (r2 : Int) + v1) = false := by simp; omega
         go_wp2
         go_round
         case rel => exact ⟨k2, r2 + v1, by go_num, by go_num, by omega, by omega, hkr2, hkQ2⟩
         case measure => simp [intOf] <;> omega
      ·have hk12 : q2 < 4294967296 := by omega
       have hp12 : (q2 : Int) * v0 = ((q2 * v0 : Nat) : Int) := by rw [Int.natCast_mul]
       have hp22 := Dv.est_prod hk12 hv.out.2.2.1;have hle2 : q2 * v0 <= 4294967296 * r2 + u0 := by omega
       have hk := Hj (show q2 = Q2 by rw [hB.out.2.1]; exact Dv.est_no (u1 := u0) hB.out.1 (by rw [<- hv.out.1]; exact hqr2.out) (by rw [<- hB.out.2.1]; exact hqQ2.out) (by rw [<- hv.out.2.1]; exact hle2));clear hbig2;generalize q2 * v0 = X2 at *;have hki2 : ((q2 : Int) < 4294967296) := by omega
       have hkj2 : decide (4294967296 <= (q2 : Int)) = false := by simp; omega
       have hkx2 : decide ((4294967296 : Int) * r2 + u0 < X2) = false := by simp; omega
       have hRq : IntKind.u64.wrap (IntKind.u64.wrap (IntKind.u64.wrap ((V : Int) * 4294967296) + u0) - IntKind.u64.wrap ((q2 : Int) * Y)) = R := by rw [hk.out]; exact hR.out
       have hQ2 : q2 < 4294967296 := by rw [hk.out]; exact hQ2lt
       go_wp2
       go_ret2
       exact ⟨ret_uu (by rw [hk1st.out, hk.out]; exact hres.out.1) hres.out.2, Rel.refl _⟩
    ·have hkb : ((r : Int) + v1 < 4294967296) := by omega
     have hkc : decide (4294967296 <= (r : Int) + v1) = false := by simp; omega
     go_wp2
     go_round
     case rel => exact ⟨k, r + v1, by go_num, by go_num, by omega, by omega, hkr, hkQ⟩
     case measure => simp [intOf] <;> omega
   ·obtain ⟨hp1, hp2⟩ := hprod (by omega);generalize (k + 1) * v0 = X at *;have hX : 4294967296 * r + u1 < X := by omega
    clear hprod hbig hqr hgt;have hki : ((k : Int) + 1 < 4294967296) := by omega
    have hkj : decide (4294967296 <= (k : Int) + 1) = false := by simp; omega
    have hkx : decide ((4294967296 : Int) * r + u1 < X) = true := by simp; omega
    by_cases hbr : 4294967296 <= r + v1
    ·have hk := Hj (show k = Q1 by rw [hA.out.2.1]; exact Dv.est_break (u1 := u1) hA.out.1 (by rw [<- hv.out.1]; exact hkr.out) (by rw [<- hA.out.2.1]; exact hkQ.out) (by omega) hbr);have hkb : ¬ ((r : Int) + v1 < 4294967296) := by omega
     have hkc : decide (4294967296 <= (r : Int) + v1) = true := by simp; omega
     have hk1st := hk;clear hk;have hVq : IntKind.u64.wrap (IntKind.u64.wrap (IntKind.u64.wrap ((U : Int) * 4294967296) + u1) - IntKind.u64.wrap ((k : Int) * Y)) = V := by rw [hk1st.out]; exact hV.out
     have hQ1 : k < 4294967296 := by rw [hk1st.out]; exact hQ1lt
     go_wp2
     go_loop [18, 16] (fun a b => ∃ q2 r2 : Nat, a = .int .u64 q2 /\ b = .int .u64 r2 /\ r2 < 4294967296 /\ q2 <= 4294967298 /\ Hid (q2 * v1 + r2 = V) /\ Hid (Q2 <= q2)) (fun a _ => (intOf a).toNat)
     case atStart => exact ⟨qb, rb, rfl, rfl, hrb, hqb, hqbr, hqbQ⟩
     case round =>
      obtain ⟨q2, r2, rfl, rfl, hr322, hq322, hqr2, hqQ2⟩ := hrel;by_cases hbig2 : 4294967296 <= q2 \/ 4294967296 * r2 + u0 < q2 * v0
      ·have hgt2 := Hj (Dv.est_yes (u1 := u0) hB.out.1 hB.out.2.2 (by rw [<- hv.out.1]; exact hqr2.out) (by rw [<- hv.out.2.1]; exact hbig2));obtain ⟨k2, rfl⟩ : ∃ k2, q2 = k2 + 1 := ⟨q2 - 1, by have := hgt2.out; rw [<- hB.out.2.1] at this; omega⟩;have hkr2 := Hj (show k2 * v1 + (r2 + v1) = V from Dv.est_step hqr2.out (by omega));have hkQ2 := Hj (show Q2 <= k2 by have := hgt2.out; rw [<- hB.out.2.1] at this; omega);have hprod2 : k2 + 1 < 4294967296 -> (((k2 : Int) + 1) * v0 = (((k2 + 1) * v0 : Nat) : Int) /\ (k2 + 1) * v0 < 18446744073709551616) := fun hk => ⟨by rw [Int.natCast_mul]; rfl, Dv.est_prod hk hv.out.2.2.1⟩
       by_cases hk12 : 4294967296 <= k2 + 1
       ·clear hprod2 hbig2 hqr2 hgt2;have hki2 : ¬ ((k2 : Int) + 1 < 4294967296) := by omega
        have hkj2 : decide (4294967296 <= (k2 : Int) + 1) = true := by simp; omega
        by_cases hbr2 : 4294967296 <= r2 + v1
        ·have hk := Hj (show k2 = Q2 by rw [hB.out.2.1]; exact Dv.est_break (u1 := u0) hB.out.1 (by rw [<- hv.out.1]; exact hkr2.out) (by rw [<- hB.out.2.1]; exact hkQ2.out) (by omega) hbr2);have hkb2 : ¬ ((r2 : Int) + v1 < 4294967296) := by omega
         have hkc2 : decide (4294967296 <= (r2 : Int) + v1) = true := by simp; omega
         have hRq : IntKind.u64.wrap (IntKind.u64.wrap (IntKind.u64.wrap ((V : Int) * 4294967296) + u0) - IntKind.u64.wrap ((k2 : Int) * Y)) = R := by rw [hk.out]; exact hR.out
         have hQ2 : k2 < 4294967296 := by rw [hk.out]; exact hQ2lt
         go_wp2
         go_ret2
         exact ⟨ret_uu (by rw [hk1st.out, hk.out]; exact hres.out.1) hres.out.2, Rel.refl _⟩
        ·have hkb2 : ((r2 : Int) + v1 < 4294967296) := by omega
         have hkc2 : decide (4294967296 <= (r2 : Int) + v1) = false := by simp; omega
         go_wp2
         go_round
         case rel => exact ⟨k2, r2 + v1, by go_num, by go_num, by omega, by omega, hkr2, hkQ2⟩
         case measure => simp [intOf] <;> omega
       ·obtain ⟨hp12, hp22⟩ := hprod2 (by omega);generalize (k2 + 1) * v0 = X2 at *;have hX2 : 4294967296 * r2 + u0 < X2 := by omega
        clear hprod2 hbig2 hqr2 hgt2;have hki2 : ((k2 : Int) + 1 < 4294967296) := by omega
        have hkj2 : decide (4294967296 <= (k2 : Int) + 1) = false := by simp; omega
        have hkx2 : decide ((4294967296 : Int) * r2 + u0 < X2) = true := by simp; omega
        by_cases hbr2 : 4294967296 <= r2 + v1
        ·have hk := Hj (show k2 = Q2 by rw [hB.out.2.1]; exact Dv.est_break (u1 := u0) hB.out.1 (by rw [<- hv.out.1]; exact hkr2.out) (by rw [<- hB.out.2.1]; exact hkQ2.out) (by omega) hbr2);have hkb2 : ¬ ((r2 : Int) + v1 < 4294967296) := by omega
         have hkc2 : decide (4294967296 <= (r2 : Int) + v1) = true := by simp; omega
         have hRq : IntKind.u64.wrap (IntKind.u64.wrap (IntKind.u64.wrap ((V : Int) * 4294967296) + u0) - IntKind.u64.wrap ((k2 : Int) * Y)) = R := by rw [hk.out]; exact hR.out
         have hQ2 : k2 < 4294967296 := by rw [hk.out]; exact hQ2lt
         go_wp2
         go_ret2
         exact ⟨ret_uu (by rw [hk1st.out, hk.out]; exact hres.out.1) hres.out.2, Rel.refl _⟩
        ·have hkb2 : ((r2 : Int) + v1 < 4294967296) := by omega
         have hkc2 : decide (4294967296 <= (r2 : Int) + v1) = false := by simp; omega
         go_wp2
         go_round
         case rel => exact ⟨k2, r2 + v1, by go_num, by go_num, by omega, by omega, hkr2, hkQ2⟩
         case measure => simp [intOf] <;> omega
      ·have hk12 : q2 < 4294967296 := by omega
       have hp12 : (q2 : Int) * v0 = ((q2 * v0 : Nat) : Int) := by rw [Int.natCast_mul]
       have hp22 := Dv.est_prod hk12 hv.out.2.2.1;have hle2 : q2 * v0 <= 4294967296 * r2 + u0 := by omega
       have hk := Hj (show q2 = Q2 by rw [hB.out.2.1]; exact Dv.est_no (u1 := u0) hB.out.1 (by rw [<- hv.out.1]; exact hqr2.out) (by rw [<- hB.out.2.1]; exact hqQ2.out) (by rw [<- hv.out.2.1]; exact hle2));clear hbig2;generalize q2 * v0 = X2 at *;have hki2 : ((q2 : Int) < 4294967296) := by omega
       have hkj2 : decide (4294967296 <= (q2 : Int)) = false := by simp; omega
       have hkx2 : decide ((4294967296 : Int) * r2 + u0 < X2) = false := by simp; omega
       have hRq : IntKind.u64.wrap (IntKind.u64.wrap (IntKind.u64.wrap ((V : Int) * 4294967296) + u0) - IntKind.u64.wrap ((q2 : Int) * Y)) = R := by rw [hk.out]; exact hR.out
       have hQ2 : q2 < 4294967296 := by rw [hk.out]; exact hQ2lt
       go_wp2
       go_ret2
       exact ⟨ret_uu (by rw [hk1st.out, hk.out]; exact hres.out.1) hres.out.2, Rel.refl _⟩
    ·have hkb : ((r : Int) + v1 < 4294967296) := by omega
     have hkc : decide (4294967296 <= (r : Int) + v1) = false := by simp; omega
     go_wp2
     go_round
     case rel => exact ⟨k, r + v1, by go_num, by go_num, by omega, by omega, hkr, hkQ⟩
     case measure => simp [intOf] <;> omega
  ·have hk1 : q < 4294967296 := by omega
   have hp1 : (q : Int) * v0 = ((q * v0 : Nat) : Int) := by rw [Int.natCast_mul]
   have hp2 := Dv.est_prod hk1 hv.out.2.2.1;have hle : q * v0 <= 4294967296 * r + u1 := by omega
   have hk := Hj (show q = Q1 by rw [hA.out.2.1]; exact Dv.est_no (u1 := u1) hA.out.1 (by rw [<- hv.out.1]; exact hqr.out) (by rw [<- hA.out.2.1]; exact hqQ.out) (by rw [<- hv.out.2.1]; exact hle));clear hbig;generalize q * v0 = X at *;have hki : ((q : Int) < 4294967296) := by omega
   have hkj : decide (4294967296 <= (q : Int)) = false := by simp; omega
   have hkx : decide ((4294967296 : Int) * r + u1 < X) = false := by simp; omega
   have hk1st := hk;clear hk;have hVq : IntKind.u64.wrap (IntKind.u64.wrap (IntKind.u64.wrap ((U : Int) * 4294967296) + u1) - IntKind.u64.wrap ((q : Int) * Y)) = V := by rw [hk1st.out]; exact hV.out
   have hQ1 : q < 4294967296 := by rw [hk1st.out]; exact hQ1lt
   go_wp2
   go_loop [18, 16] (fun a b => ∃ q2 r2 : Nat, a = .int .u64 q2 /\ b = .int .u64 r2 /\ r2 < 4294967296 /\ q2 <= 4294967298 /\ Hid (q2 * v1 + r2 = V) /\ Hid (Q2 <= q2)) (fun a _ => (intOf a).toNat)
   case atStart => exact ⟨qb, rb, rfl, rfl, hrb, hqb, hqbr, hqbQ⟩
   case round =>
    obtain ⟨q2, r2, rfl, rfl, hr322, hq322, hqr2, hqQ2⟩ := hrel;by_cases hbig2 : 4294967296 <= q2 \/ 4294967296 * r2 + u0 < q2 * v0
    ·have hgt2 := Hj (Dv.est_yes (u1 := u0) hB.out.1 hB.out.2.2 (by rw [<- hv.out.1]; exact hqr2.out) (by rw [<- hv.out.2.1]; exact hbig2));obtain ⟨k2, rfl⟩ : ∃ k2, q2 = k2 + 1 := ⟨q2 - 1, by have := hgt2.out; rw [<- hB.out.2.1] at this; omega⟩;have hkr2 := Hj (show k2 * v1 + (r2 + v1) = V from Dv.est_step hqr2.out (by omega));have hkQ2 := Hj (show Q2 <= k2 by have := hgt2.out; rw [<- hB.out.2.1] at this; omega);have hprod2 : k2 + 1 < 4294967296 -> (((k2 : Int) + 1) * v0 = (((k2 + 1) * v0 : Nat) : Int) /\ (k2 + 1) * v0 < 18446744073709551616) := fun hk => ⟨by rw [Int.natCast_mul]; rfl, Dv.est_prod hk hv.out.2.2.1⟩
     by_cases hk12 : 4294967296 <= k2 + 1
     ·clear hprod2 hbig2 hqr2 hgt2;have hki2 : ¬ ((k2 : Int) + 1 < 4294967296) := by omega
      have hkj2 : decide (4294967296 <= (k2 : Int) + 1) = true := by simp; omega
      by_cases hbr2 : 4294967296 <= r2 + v1
      ·have hk := Hj (show k2 = Q2 by rw [hB.out.2.1]; exact Dv.est_break (u1 := u0) hB.out.1 (by rw [<- hv.out.1]; exact hkr2.out) (by rw [<- hB.out.2.1]; exact hkQ2.out) (by omega) hbr2);have hkb2 : ¬ ((r2 : Int) + v1 < 4294967296) := by omega
       have hkc2 : decide (4294967296 <= (r2 : Int) + v1) = true := by simp; omega
       have hRq : IntKind.u64.wrap (IntKind.u64.wrap (IntKind.u64.wrap ((V : Int) * 4294967296) + u0) - IntKind.u64.wrap ((k2 : Int) * Y)) = R := by rw [hk.out]; exact hR.out
       have hQ2 : k2 < 4294967296 := by rw [hk.out]; exact hQ2lt
       go_wp2
       go_ret2
       exact ⟨ret_uu (by rw [hk1st.out, hk.out]; exact hres.out.1) hres.out.2, Rel.refl _⟩
      ·have hkb2 : ((r2 : Int) + v1 < 4294967296) := by omega
       have hkc2 : decide (4294967296 <= (r2 : Int) + v1) = false := by simp; omega
       go_wp2
       go_round
       case rel => exact ⟨k2, r2 + v1, by go_num, by go_num, by omega, by omega, hkr2, hkQ2⟩
       case measure => simp [intOf] <;> omega
     ·obtain ⟨hp12, hp22⟩ := hprod2 (by omega);generalize (k2 + 1) * v0 = X2 at *;have hX2 : 4294967296 * r2 + u0 < X2 := by omega
      clear hprod2 hbig2 hqr2 hgt2;have hki2 : ((k2 : Int) + 1 < 4294967296) := by omega
      have hkj2 : decide (4294967296 <= (k2 : Int) + 1) = false := by simp; omega
      have hkx2 : decide ((4294967296 : Int) * r2 + u0 < X2) = true := by simp; omega
      by_cases hbr2 : 4294967296 <= r2 + v1
      ·have hk := Hj (show k2 = Q2 by rw [hB.out.2.1]; exact Dv.est_break (u1 := u0) hB.out.1 (by rw [<- hv.out.1]; exact hkr2.out) (by rw [<- hB.out.2.1]; exact hkQ2.out) (by omega) hbr2);have hkb2 : ¬ ((r2 : Int) + v1 < 4294967296) := by omega
       have hkc2 : decide (4294967296 <= (r2 : Int) + v1) = true := by simp; omega
       have hRq : IntKind.u64.wrap (IntKind.u64.wrap (IntKind.u64.wrap ((V : Int) * 4294967296) + u0) - IntKind.u64.wrap ((k2 : Int) * Y)) = R := by rw [hk.out]; exact hR.out
       have hQ2 : k2 < 4294967296 := by rw [hk.out]; exact hQ2lt
       go_wp2
       go_ret2
       exact ⟨ret_uu (by rw [hk1st.out, hk.out]; exact hres.out.1) hres.out.2, Rel.refl _⟩
      ·have hkb2 : ((r2 : Int) + v1 < 4294967296) := by omega
       have hkc2 : decide (4294967296 <= (r2 : Int) + v1) = false := by simp; omega
       go_wp2
       go_round
       case rel => exact ⟨k2, r2 + v1, by go_num, by go_num, by omega, by omega, hkr2, hkQ2⟩
       case measure => simp [intOf] <;> omega
    ·have hk12 : q2 < 4294967296 := by omega
     have hp12 : (q2 : Int) * v0 = ((q2 * v0 : Nat) : Int) := by rw [Int.natCast_mul]
     have hp22 := Dv.est_prod hk12 hv.out.2.2.1;have hle2 : q2 * v0 <= 4294967296 * r2 + u0 := by omega
     have hk := Hj (show q2 = Q2 by rw [hB.out.2.1]; exact Dv.est_no (u1 := u0) hB.out.1 (by rw [<- hv.out.1]; exact hqr2.out) (by rw [<- hB.out.2.1]; exact hqQ2.out) (by rw [<- hv.out.2.1]; exact hle2));clear hbig2;generalize q2 * v0 = X2 at *;have hki2 : ((q2 : Int) < 4294967296) := by omega
     have hkj2 : decide (4294967296 <= (q2 : Int)) = false := by simp; omega
     have hkx2 : decide ((4294967296 : Int) * r2 + u0 < X2) = false := by simp; omega
     have hRq : IntKind.u64.wrap (IntKind.u64.wrap (IntKind.u64.wrap ((V : Int) * 4294967296) + u0) - IntKind.u64.wrap ((q2 : Int) * Y)) = R := by rw [hk.out]; exact hR.out
     have hQ2 : q2 < 4294967296 := by rw [hk.out]; exact hQ2lt
     go_wp2
     go_ret2
     exact ⟨ret_uu (by rw [hk1st.out, hk.out]; exact hres.out.1) hres.out.2, Rel.refl _⟩
-- END div64_core
end Go.Proofs.YthmlhheceihcbaaGreatDoor
namespace Go.Proofs.YthmlhheceihcbaaGreatDoor.Dv
set_option maxHeartbeats 16000000
open Go
theorem norm {y : Nat} (h0 : 0 < y) (h : y < 18446744073709551616) :
  ∃ s : Nat, s <= 63 /\ 64 - (Lib.bitLen y : Int) = s /\ 9223372036854775808 <= y * 2 ^ s /\ y * 2 ^ s < 18446744073709551616 := by
 obtain ⟨a1, a2, a3⟩ := Lib.bitLenAux_bounds 64 y h (by omega);have a4 : Lib.bitLen y <= 64 := Lib.bitLen_le y 64 (by omega) h
 change 1 <= Lib.bitLen y at a1
 change 2 ^ (Lib.bitLen y - 1) <= y at a2
 change y < 2 ^ Lib.bitLen y at a3
 refine ⟨64 - Lib.bitLen y, by omega, by omega, ?_, ?_⟩
 ·have e : 2 ^ (Lib.bitLen y - 1) * 2 ^ (64 - Lib.bitLen y) = 9223372036854775808 := by
   rw [<- Nat.pow_add, show Lib.bitLen y - 1 + (64 - Lib.bitLen y) = 63 by omega]
  exact e ▸ Nat.mul_le_mul_right _ a2
 ·have e : 2 ^ Lib.bitLen y * 2 ^ (64 - Lib.bitLen y) = 18446744073709551616 := by
   rw [<- Nat.pow_add, show Lib.bitLen y + (64 - Lib.bitLen y) = 64 by omega]
  exact e ▸ Nat.mul_lt_mul_of_pos_right a3 (Nat.two_pow_pos _)
theorem top_lt {h l y s : Nat} (hh : h < y) (hl : l < 18446744073709551616) (hs : s <= 63) : l / 2 ^ (64 - s) < 2 ^ s /\ h * 2 ^ s + l / 2 ^ (64 - s) < y * 2 ^ s := by
 have a : l / 2 ^ (64 - s) < 2 ^ s := by
  rw [Nat.div_lt_iff_lt_mul (Nat.two_pow_pos _), <- Nat.pow_add, show s + (64 - s) = 64 by omega];exact hl
 have b := Nat.mul_le_mul_right (2 ^ s) (show h + 1 <= y from hh);rw [Nat.add_mul] at b;exact ⟨a, by omega⟩
end Go.Proofs.YthmlhheceihcbaaGreatDoor.Dv
namespace Go.Proofs.YthmlhheceihcbaaGreatDoor
set_option maxHeartbeats 16000000
open Go.RowKit Frac Tryz
theorem u64_nat {n : Nat} (h : n < 18446744073709551616) : IntKind.u64.wrap (n : Int) = n := IntWalk.u64_in _ ⟨by omega, by omega⟩
theorem div64_big {h l y s Y U D : Nat} {w : World} (hh : h < y) (hy : y < 18446744073709551616) (h0 : 0 < h) (hs : 64 - (Lib.bitLen y : Int) = s) (hs0 : s <= 63) (e1 : (y : Int) * 2 ^ s = Y)
  (hY1 : 9223372036854775808 <= Y) (hY2 : Y < 18446744073709551616) (hor : bits .or .u64 (IntKind.u64.wrap ((h : Int) * 2 ^ s)) ((l : Int) / 2 ^ (64 - s)) = U) (hw2 : IntKind.u64.wrap ((l : Int) * 2 ^ s) = D)
  (hUY : U < Y) (hD2 : D < 18446744073709551616) {N0 N1 : Nat} (r1 : N0 = (U * 4294967296 + D / 4294967296) / Y * 4294967296 + ((U * 4294967296 + D / 4294967296) % Y * 4294967296 + D % 4294967296) / Y)
  (r2 : N1 = ((U * 4294967296 + D / 4294967296) % Y * 4294967296 + D % 4294967296) % Y / 2 ^ s) :
  Calls prog 175 #[.int .u64 h, .int .u64 l, .int .u64 y] w fun e w' => e = .returned (.tuple #[.int .u64 N0, .int .u64 N1]) /\ Rel w w' := by
 obtain ⟨u1, hu1⟩ : ∃ u, D / 4294967296 = u := ⟨_, rfl⟩;obtain ⟨u0, hu0⟩ : ∃ u, D % 4294967296 = u := ⟨_, rfl⟩;have hu1' : (D : Int) / 4294967296 = u1 := by omega
 have hu0' : bits .and .u64 (D : Int) 4294967295 = u0 := by rw [Dv.and_mask hD2, hu0]
 have hu1b : u1 < 4294967296 := by omega
 have hu0b : u0 < 4294967296 := by omega
 rw [hu1, hu0] at r1 r2;clear hu1 hu0 hD2;have eA := Dv.est0 hUY hY1 hY2 hu1b;have dA := Dv.dig_lt hUY hu1b;have wA := Dv.rest_eq (u1 := u1) hUY hY2;have hVY : (U * 4294967296 + u1) % Y < Y := Nat.mod_lt _ (by omega);obtain ⟨Q1, hQ1⟩ : ∃ q, (U * 4294967296 + u1) / Y = q := ⟨_, rfl⟩;obtain ⟨V, hV⟩ : ∃ q, (U * 4294967296 + u1) % Y = q := ⟨_, rfl⟩;rw [hQ1] at eA dA wA r1;rw [hV] at wA r1 r2 hVY;have eB := Dv.est0 hVY hY1 hY2 hu0b;have dB := Dv.dig_lt hVY hu0b;have wB := Dv.rest_eq (u1 := u0) hVY hY2;obtain ⟨Q2, hQ2⟩ : ∃ q, (V * 4294967296 + u0) / Y = q := ⟨_, rfl⟩;obtain ⟨R, hR⟩ : ∃ q, (V * 4294967296 + u0) % Y = q := ⟨_, rfl⟩;rw [hQ2] at eB dB wB r1;rw [hR] at wB r2;obtain ⟨v1, hv1⟩ : ∃ v, Y / 4294967296 = v := ⟨_, rfl⟩;have hv0 := Dv.and_mask hY2;have hv1' : (Y : Int) / 4294967296 = v1 := by omega
 rw [hv1] at eA eB;have hv1p : 2147483648 <= v1 := by omega
 have hv1q : v1 < 4294967296 := by omega
 have mA : U % v1 < v1 := Nat.mod_lt _ (by omega);have mB : V % v1 < v1 := Nat.mod_lt _ (by omega);have iA : (U : Int) / v1 = ((U / v1 : Nat) : Int) := rfl;have iB : (V : Int) / v1 = ((V / v1 : Nat) : Int) := rfl;obtain ⟨qa, hqa⟩ : ∃ q, U / v1 = q := ⟨_, rfl⟩;obtain ⟨qb, hqb⟩ : ∃ q, V / v1 = q := ⟨_, rfl⟩;obtain ⟨ra, hra⟩ : ∃ q, U % v1 = q := ⟨_, rfl⟩;obtain ⟨rb, hrb⟩ : ∃ q, V % v1 = q := ⟨_, rfl⟩;rw [hqa] at iA eA;rw [hqb] at iB eB;rw [hra] at mA eA;rw [hrb] at mB eB;obtain ⟨a1, a2, a3⟩ := eA;obtain ⟨b1, b2, b3⟩ := eB;have pA : (qa : Int) * v1 = ((qa * v1 : Nat) : Int) := rfl;have pB : (qb : Int) * v1 = ((qb * v1 : Nat) : Int) := rfl
 refine div64_core h l y s Y v1 (Y % 4294967296) U D u1 u0 qa (qa * v1) ra Q1 V qb (qb * v1) rb Q2 R N0 N1 w h0 hh hy hs hs0 e1 hY2 hv1' hv1p hv1q hv0 (Hj ⟨hv1.symm, rfl, by omega, trivial⟩)
  hor (by omega) hw2 hu1' hu1b hu0' hu0b iA pA (by omega) ?_ (by omega) a2 (Hj a3) (Hj a1) (Hj ⟨hUY, hQ1.symm, hu1b⟩) dA (Hj ?_) (by omega) iB pB (by omega) ?_ (by omega) b2 (Hj b3) (Hj b1)
  (Hj ⟨hVY, hQ2.symm, hu0b⟩) dB (Hj ?_) (Hj ⟨?_, ?_⟩)
 ·omega
 ·simp only [IntKind.wrap_u64]; exact wA
 ·omega
 ·simp only [IntKind.wrap_u64]; exact wB
 ·rw [r1]; rfl
 ·rw [r2]; simp
theorem div64_any (h l y : Nat) (w : World) (hh : h < y) (hl : l < 18446744073709551616) (hy : y < 18446744073709551616) :
  Calls prog 175 #[.int .u64 h, .int .u64 l, .int .u64 y] w fun e w' => e = .returned (.tuple #[.int .u64 ((h * 18446744073709551616 + l) / y : Nat), .int .u64 ((h * 18446744073709551616 + l) % y : Nat)]) /\ Rel w w' := by
 rcases Nat.eq_zero_or_pos h with rfl | h0
 ·have := div64_small l y w hl hh hy
  rwa [show 0 * 18446744073709551616 + l = l by omega]
 ·obtain ⟨s, hs0, hs, hY1, hY2⟩ := Dv.norm (by omega) hy;obtain ⟨ht, hUY⟩ := Dv.top_lt (s := s) hh hl hs0;have e1 : (y : Int) * 2 ^ s = ((y * 2 ^ s : Nat) : Int) := by simp
  have e2 : (h : Int) * 2 ^ s = ((h * 2 ^ s : Nat) : Int) := by simp
  have e3 : (l : Int) / 2 ^ (64 - s) = ((l / 2 ^ (64 - s) : Nat) : Int) := by simp
  have e4 : (l : Int) * 2 ^ s = ((l * 2 ^ s : Nat) : Int) := by simp
  have hor := Dv.or_add (h := h) (s := s) (x := l / 2 ^ (64 - s)) ht (Nat.lt_trans hUY hY2);rw [<- e3] at hor
  have hw1 : IntKind.u64.wrap ((h : Int) * 2 ^ s) = ((h * 2 ^ s : Nat) : Int) := by
   rw [e2]; exact u64_nat (Nat.lt_of_le_of_lt (Nat.le_add_right _ _) (Nat.lt_trans hUY hY2))
  have hw2 : IntKind.u64.wrap ((l : Int) * 2 ^ s) = ((l * 2 ^ s % 18446744073709551616 : Nat) : Int) := by
   rw [e4]; simp only [IntKind.wrap_u64]; rfl
  have hsh := Dv.shifted (h := h) (l := l) hs0;obtain ⟨Y, hYe⟩ : ∃ Y, y * 2 ^ s = Y := ⟨_, rfl⟩;obtain ⟨U, hUe⟩ : ∃ U, h * 2 ^ s + l / 2 ^ (64 - s) = U := ⟨_, rfl⟩;obtain ⟨D, hDe⟩ : ∃ D, l * 2 ^ s % 18446744073709551616 = D := ⟨_, rfl⟩;rw [<- hw1, hUe] at hor;rw [hDe] at hw2;have hD2 : D < 18446744073709551616 := by rw [<- hDe]; exact Nat.mod_lt _ (by omega)
  rw [hUe, hDe] at hsh;rw [hYe] at hY1 hY2 e1 hUY;rw [hUe] at hUY;obtain ⟨r1, r2⟩ := Dv.two_digits (D := D) (u1 := D / 4294967296) (u0 := D % 4294967296) (show 0 < y by omega) hYe hsh (by omega);clear hsh ht e2 e3 e4 hw1 hDe hUe;exact div64_big hh hy h0 hs hs0 e1 hY1 hY2 hor hw2 hUY hD2 r1 r2
end Go.Proofs.YthmlhheceihcbaaGreatDoor
namespace Go.Proofs.YthmlhheceihcbaaGreatDoor
set_option maxHeartbeats 16000000
open Go.RowKit Frac Tryz
attribute [local go_sem] calmUpon
theorem rcell {W w1 : World} (h : Rel W w1) : (∀ b o, b < W.heap.size -> w1.cell? ⟨b, o, none⟩ = W.cell? ⟨b, o, none⟩) /\ (∀ b o, b < W.heap.size -> w1.frozen? ⟨b, o, none⟩ = W.frozen? ⟨b, o, none⟩) :=
 ⟨fun b o k => Below.cell (p := ⟨b, o, none⟩) h k, fun b o k => Below.frozen (p := ⟨b, o, none⟩) h k⟩
theorem keep2 {W w1 : World} (h : Rel W w1) {b : Nat} (hb : b < W.heap.size) : w1.cell? ⟨b, 0, none⟩ = W.cell? ⟨b, 0, none⟩ /\ w1.cell? ⟨b, 1, none⟩ = W.cell? ⟨b, 1, none⟩ /\ w1.frozen? ⟨b, 0, none⟩ = W.frozen? ⟨b, 0, none⟩ /\ w1.frozen? ⟨b, 1, none⟩ = W.frozen? ⟨b, 1, none⟩ /\ b < w1.heap.size /\ b ≠ w1.heap.size /\ w1.heap.size ≠ b :=
 ⟨(rcell h).1 b 0 hb, (rcell h).1 b 1 hb, (rcell h).2 b 0 hb, (rcell h).2 b 1 hb, h.lt hb, Nat.ne_of_lt (h.lt hb), Nat.ne_of_gt (h.lt hb)⟩
theorem keep3 {W w1 : World} (h : Rel W w1) {b : Nat} (hb : b < W.heap.size) : w1.cell? ⟨b, 0, none⟩ = W.cell? ⟨b, 0, none⟩ /\ w1.cell? ⟨b, 1, none⟩ = W.cell? ⟨b, 1, none⟩ /\ w1.cell? ⟨b, 2, none⟩ = W.cell? ⟨b, 2, none⟩ /\ w1.frozen? ⟨b, 0, none⟩ = W.frozen? ⟨b, 0, none⟩ /\ w1.frozen? ⟨b, 1, none⟩ = W.frozen? ⟨b, 1, none⟩ /\ w1.frozen? ⟨b, 2, none⟩ = W.frozen? ⟨b, 2, none⟩ /\ b < w1.heap.size /\ b ≠ w1.heap.size /\ w1.heap.size ≠ b :=
 ⟨(rcell h).1 b 0 hb, (rcell h).1 b 1 hb, (rcell h).1 b 2 hb, (rcell h).2 b 0 hb, (rcell h).2 b 1 hb, (rcell h).2 b 2 hb, h.lt hb, Nat.ne_of_lt (h.lt hb), Nat.ne_of_gt (h.lt hb)⟩
theorem over_num (x : Nat) {d : Nat} (hd : 0 < d) : hi64 (x / d) = hi64 x / d /\ lo64 (x / d) = (hi64 x % d * 18446744073709551616 + lo64 x) / d /\ x % d = (hi64 x % d * 18446744073709551616 + lo64 x) % d := by
 have e := Nat.div_add_mod (hi64 x) d;have hr := Nat.mod_lt (hi64 x) hd;have hl := lo64_lt x;have hh := halves x;generalize hi64 x / d = q at *;generalize hi64 x % d = r at *
 have hx : x = d * (q * 18446744073709551616) + (r * 18446744073709551616 + lo64 x) := by
  rw [<- Nat.mul_assoc, <- Nat.add_assoc, <- Nat.add_mul, e, hh]
 have hq : x / d = q * 18446744073709551616 + (r * 18446744073709551616 + lo64 x) / d := by
  conv => lhs; rw [hx]
  exact Nat.mul_add_div hd _ _
 have hm : x % d = (r * 18446744073709551616 + lo64 x) % d := by
  conv => lhs; rw [hx]
  exact Nat.mul_add_mod _ _ _
 have hb : (r * 18446744073709551616 + lo64 x) / d < 18446744073709551616 := by
  rw [Nat.div_lt_iff_lt_mul hd];have := Nat.mul_le_mul_right 18446744073709551616 (show r + 1 <= d from hr);rw [Nat.mul_comm 18446744073709551616 d]; omega
 refine ⟨?_, ?_, hm⟩
 ·rw [hq]; generalize (r * 18446744073709551616 + lo64 x) / d = t at *; unfold hi64; clear hm hx hh hl e; omega
 ·rw [hq]; generalize (r * 18446744073709551616 + lo64 x) / d = t at *; clear hm hx hh hl e hq; unfold lo64; omega
theorem tdiv_nat (a b : Nat) : Int.tdiv (a : Int) (b : Int) = ((a / b : Nat) : Int) := by rw [Int.tdiv_eq_ediv_of_nonneg (by omega)]; rfl
def wOk (n d : Nat) : Bool := decide (n <= 1000000000000000) && decide (d <= 1000000000)
def wN (s : Bool) (n d : Nat) : Int := if wOk n d = true then (if s = true then -(n : Int) else n) else 0
def wD (n d : Nat) : Int := if wOk n d = true then d else 0
def wE (n d : Nat) : Int := if wOk n d = true then 0 else 2
theorem w_no {s : Bool} {n d : Nat} (h : wOk n d = false) : wN s n d = 0 /\ wD n d = 0 /\ wE n d = 2 := by
 unfold wN wD wE; rw [h]; exact ⟨rfl, rfl, rfl⟩
theorem w_yes {n d : Nat} (h : wOk n d = true) : wN true n d = -(n : Int) /\ wN false n d = n /\ wD n d = d /\ wE n d = 0 := by
 unfold wN wD wE; rw [h]; exact ⟨rfl, rfl, rfl, rfl⟩
end Go.Proofs.YthmlhheceihcbaaGreatDoor
namespace Go.Proofs.YthmlhheceihcbaaGreatDoor
set_option maxHeartbeats 16000000
open Go.RowKit Frac Tryz
attribute [local go_sem] calmUpon
set_option linter.unusedSimpArgs false
set_option linter.unusedVariables false
theorem rover_raw (h l d : Nat) (w : World) (hl : l < 18446744073709551616) (hd : 0 < d) (hd2 : d < 18446744073709551616) (hh : h < 18446744073709551616) :
  Calls prog 142 #[.agg #[.int .u64 h, .int .u64 l], .int .u64 d] w fun e w' => e = .returned (.tuple #[.agg #[.int .u64 (h / d : Nat), .int .u64 ((h % d * 18446744073709551616 + l) / d : Nat)], .int .u64 ((h % d * 18446744073709551616 + l) % d : Nat)]) /\ Rel w w' := by
 have hm := nmod_cast h d;have hdv := tdiv_nat h d;have hlt := Nat.mod_lt h hd;have hy1 : ((d : Int) == 0) = false := by simp; omega
 have hne : ¬ d = 0 := by omega
 have hq : h / d < 18446744073709551616 := Nat.lt_of_le_of_lt (Nat.div_le_self _ _) hh;have hqw := u64_nat hq;generalize h % d = r at *;generalize h / d = q at *;have hD := fun w => div64_any r l d w hlt hl hd2
 generalize (r * 18446744073709551616 + l) / d = N0 at *;generalize (r * 18446744073709551616 + l) % d = N1 at *;go_enter func142, ntmps142;go_wp2;refine wp_region_calm (fun _ w' => w'.cell? { block := w.heap.size, off := 0 } = some (.int .u64 h) /\ w'.cell? { block := w.heap.size, off := 1 } = some (.int .u64 l)) (fun _ => false) [0, 1, 2, 3, 4, 5, 6, 7, 8, 9, 10, 11, 12] 0 (by kernel_rfl) (by kernel_rfl) ?hst ?hS0 (fun w0 h0 => ?_)
 case hst => exact fun _ _ _ h r => ⟨r.cell h.1, r.cell h.2⟩
 case hS0 => exact ⟨by go_simp, by go_simp⟩
 iterate 7
  refine wcg ?_;apply ei
  ·intro M w hM hS;have hc := hS.1;have hc' := hS.2;unfold calmAt;go_simp;exact ⟨rfl, Rel.refl _⟩
 refine wpCalm_go rfl rfl (fun K hK => ?_);apply Exists.intro;refine ⟨fun M w hM hS => ?_, hK _ ?_⟩
 ·unfold calmAt;go_simp;refine (hD _).mono ?_;rintro e w1 ⟨rfl, hb⟩;exact ⟨rfl, hb⟩
 clear hK K
 iterate 5
  refine wcg ?_;apply ei
  ·intro M w hM hS;unfold calmAt;go_simp;exact ⟨rfl, Rel.refl _⟩
 refine wpCalm_nil (wpAnyR_end (by kernel_rfl) (fun w1 h1 => ?_));simp only [Act.put, zla, zlb, zlc];obtain ⟨bc, bf⟩ := rcell (h0.trans h1);have hr := Hj (h0.trans h1);have hw3 := (h0.trans h1).lt (n := w.heap.size + 1) (by simp);clear h0 h1;go_wp2;refine bodyPost_ret ?_ rfl ⟨rfl, ?_⟩
 ·simp [results, results142, go_sem, bc, bf, hw3]
 ·exact (((((Rel.refl _).alloc _).alloc _).trans hr.out).setCell (by simp) _).setCell (by simp) _
theorem rover_any (x d : Nat) (w : World) (hx : x < 340282366920938463463374607431768211456) (hd : 0 < d) (hd2 : d < 18446744073709551616) :
  Calls prog 142 #[.agg #[.int .u64 (hi64 x), .int .u64 (lo64 x)], .int .u64 d] w fun e w' => e = .returned (.tuple #[.agg #[.int .u64 (hi64 (x / d)), .int .u64 (lo64 (x / d))], .int .u64 (x % d : Nat)]) /\ Rel w w' := by
 obtain ⟨e1, e2, e3⟩ := over_num x hd;rw [e1, e2, e3];exact rover_raw _ _ _ _ (lo64_lt _) hd hd2 (hi64_lt hx)
theorem w_ways (s : Bool) (n d : Nat) :
  (((hi64 n : Int) != 0) = true /\ wN s n d = 0 /\ wD n d = 0 /\ wE n d = 2) \/
  (((hi64 n : Int) != 0) = false /\ decide ((1000000000000000 : Int) < lo64 n) = true /\ wN s n d = 0 /\ wD n d = 0 /\ wE n d = 2) \/
  (((hi64 n : Int) != 0) = false /\ decide ((1000000000000000 : Int) < lo64 n) = false /\ ((hi64 d : Int) != 0) = true /\ wN s n d = 0 /\ wD n d = 0 /\ wE n d = 2) \/
  (((hi64 n : Int) != 0) = false /\ decide ((1000000000000000 : Int) < lo64 n) = false /\ ((hi64 d : Int) != 0) = false /\ decide ((1000000000 : Int) < lo64 d) = true /\ wN s n d = 0 /\ wD n d = 0 /\ wE n d = 2) \/
  (((hi64 n : Int) != 0) = false /\ decide ((1000000000000000 : Int) < lo64 n) = false /\ ((hi64 d : Int) != 0) = false /\ decide ((1000000000 : Int) < lo64 d) = false /\ lo64 n <= 1000000000000000 /\ lo64 d <= 1000000000 /\ wN true n d = -(lo64 n : Int) /\ wN false n d = lo64 n /\ wD n d = lo64 d /\ wE n d = 0) := by
 by_cases c1 : hi64 n = 0
 ·have k1 : ((hi64 n : Int) != 0) = false := by simp; omega
  by_cases c2 : lo64 n <= 1000000000000000
  ·have k2 : decide ((1000000000000000 : Int) < lo64 n) = false := by simp; omega
   by_cases c3 : hi64 d = 0
   ·have k3 : ((hi64 d : Int) != 0) = false := by simp; omega
    by_cases c4 : lo64 d <= 1000000000
    ·have k4 : decide ((1000000000 : Int) < lo64 d) = false := by simp; omega
     have ho : wOk n d = true := by unfold wOk; unfold hi64 at *; (try unfold lo64 at *); simp; omega
     have hn : lo64 n = n := by unfold hi64 at c1; unfold lo64; omega
     have hd : lo64 d = d := by unfold hi64 at c3; unfold lo64; omega
     obtain ⟨r0, r1, r2, r3⟩ := w_yes ho;rw [r0, r1, r2, r3, k1, k2, k3, k4, hn, hd];rw [hn] at c2; rw [hd] at c4;exact .inr (.inr (.inr (.inr ⟨rfl, rfl, rfl, rfl, c2, c4, rfl, rfl, rfl, rfl⟩)))
    ·have ho : wOk n d = false := by unfold wOk; unfold hi64 at *; (try unfold lo64 at *); simp; omega
     have k4 : decide ((1000000000 : Int) < lo64 d) = true := by simp; omega
     exact .inr (.inr (.inr (.inl ⟨k1, k2, k3, k4, w_no ho⟩)))
   ·have ho : wOk n d = false := by unfold wOk; unfold hi64 at *; (try unfold lo64 at *); simp; omega
    have k3 : ((hi64 d : Int) != 0) = true := by simp; omega
    exact .inr (.inr (.inl ⟨k1, k2, k3, w_no ho⟩))
  ·have ho : wOk n d = false := by unfold wOk; unfold hi64 at *; (try unfold lo64 at *); simp; omega
   have k2 : decide ((1000000000000000 : Int) < lo64 n) = true := by simp; omega
   exact .inr (.inl ⟨k1, k2, w_no ho⟩)
 ·have ho : wOk n d = false := by unfold wOk; unfold hi64 at *; (try unfold lo64 at *); simp; omega
  have k1 : ((hi64 n : Int) != 0) = true := by simp; omega
  exact .inl ⟨k1, w_no ho⟩
def FrRes (a b c : Int) (w : World) (e : Ending) (w' : World) : Prop := e = .returned (.tuple #[.agg #[.int .i64 a, .int .i64 b], .int .i64 c]) /\ Rel w w'
theorem lowest_core (s : Bool) (h l d r g H L r2 D Q1 Q2 : Nat) (A B C : Int) (w : World) (hg : 0 < g) (hd2 : d < 18446744073709551616) (hD : d / g = D)
  (O1 : Hid (∀ w, Calls prog 142 #[.agg #[.int .u64 h, .int .u64 l], .int .u64 d] w fun e w' => e = .returned (.tuple #[.agg #[.int .u64 Q1, .int .u64 Q2], .int .u64 r]) /\ Rel w w'))
  (G : Hid (∀ w, Calls prog 105 #[.int .u64 d, .int .u64 r] w fun e w' => e = .returned (.int .u64 g) /\ Rel w w'))
  (O2 : Hid (∀ w, Calls prog 142 #[.agg #[.int .u64 h, .int .u64 l], .int .u64 g] w fun e w' => e = .returned (.tuple #[.agg #[.int .u64 H, .int .u64 L], .int .u64 r2]) /\ Rel w w'))
  (hw : (((H : Int) != 0) = true /\ A = 0 /\ B = 0 /\ C = 2) \/
  (((H : Int) != 0) = false /\ decide ((1000000000000000 : Int) < L) = true /\ A = 0 /\ B = 0 /\ C = 2) \/
  (((H : Int) != 0) = false /\ decide ((1000000000000000 : Int) < L) = false /\ decide ((1000000000 : Int) < D) = true /\ A = 0 /\ B = 0 /\ C = 2) \/
  (((H : Int) != 0) = false /\ decide ((1000000000000000 : Int) < L) = false /\ decide ((1000000000 : Int) < D) = false /\ L <= 1000000000000000 /\ D <= 1000000000 /\ A = (if s = true then -(L : Int) else L) /\ B = D /\ C = 0)) :
  Calls prog 107 #[.bool s, .agg #[.int .u64 h, .int .u64 l], .int .u64 d] w (FrRes A B C w) := by
 have hdv : (d : Int) / g = D := by rw [<- hD]; rfl
 have hdt : Int.tdiv (d : Int) g = D := by rw [tdiv_nat, hD]
 have hy1 : ((g : Int) == 0) = false := by simp; omega
 have hDd : D < 18446744073709551616 := by rw [<- hD]; exact Nat.lt_of_le_of_lt (Nat.div_le_self _ _) hd2
 have hDw := u64_nat hDd;clear hD;unfold FrRes
 rcases hw with ⟨k1, rfl, rfl, rfl⟩ | ⟨k1, k2, rfl, rfl, rfl⟩ | ⟨k1, k2, k3, rfl, rfl, rfl⟩ | ⟨k1, k2, k3, k4, k5, hA, rfl, rfl⟩
 rotate_left
 rotate_left
 rotate_left
 ·subst hA;cases s
  all_goals
   go_enter func107, ntmps107;go_wp2_with fail;refine (O1.out _).mono ?_;rintro e w1 ⟨rfl, h1⟩;have kq0 := keep2 h1 (b := w.heap.size) (by first | (simp; done) | (simp; omega) | omega);have kq1 := keep2 h1 (b := w.heap.size + 1) (by first | (simp; done) | (simp; omega) | omega);have kc1_1_0 := kq1.1;have kc1_1_1 := kq1.2.1;have kl1_1 := kq1.2.2.2.2.1;have kz1 := h1.size;(try simp only [zsa, zsc, zsd] at kz1);have H1 := Hj h1;clear h1;go_wp2_with fail;refine (G.out _).mono ?_;rintro e w2 ⟨rfl, h2⟩;have kq2 := keep2 h2 (b := w.heap.size) (by first | (simp; done) | (simp; omega) | omega);have kq3 := keep2 h2 (b := w.heap.size + 1) (by first | (simp; done) | (simp; omega) | omega);have kc2_1_0 := kq3.1;have kc2_1_1 := kq3.2.1;have kl2_1 := kq3.2.2.2.2.1;have kz2 := h2.size;(try simp only [zsa, zsc, zsd] at kz2);have H2 := Hj h2;clear h2;go_wp2_with fail;refine (O2.out _).mono ?_;rintro e w3 ⟨rfl, h3⟩;have kq4 := keep2 h3 (b := w.heap.size) (by first | (simp; done) | (simp; omega) | omega);have kq5 := keep2 h3 (b := w.heap.size + 1) (by first | (simp; done) | (simp; omega) | omega);have kc3_1_0 := kq5.1;have kc3_1_1 := kq5.2.1;have kl3_1 := kq5.2.2.2.2.1;have kz3 := h3.size;(try simp only [zsa, zsc, zsd] at kz3);have H3 := Hj h3;clear h3;go_wp2_with fail;refine bodyPost_ret ?_ rfl ⟨rfl, ?_⟩
   ·simp [results, results107, go_sem, kc3_1_0, kc3_1_1, kc2_1_0, kc2_1_1, kc1_1_0, kc1_1_1, kl3_1, kl2_1, kl1_1]
   ·exact rx3210
 all_goals
   go_enter func107, ntmps107;go_wp2_with fail;refine (O1.out _).mono ?_;rintro e w1 ⟨rfl, h1⟩;have kq6 := keep2 h1 (b := w.heap.size) (by first | (simp; done) | (simp; omega) | omega);have kq7 := keep2 h1 (b := w.heap.size + 1) (by first | (simp; done) | (simp; omega) | omega);have kc1_1_0 := kq7.1;have kc1_1_1 := kq7.2.1;have kl1_1 := kq7.2.2.2.2.1;have kz1 := h1.size;(try simp only [zsa, zsc, zsd] at kz1);have H1 := Hj h1;clear h1;go_wp2_with fail;refine (G.out _).mono ?_;rintro e w2 ⟨rfl, h2⟩;have kq8 := keep2 h2 (b := w.heap.size) (by first | (simp; done) | (simp; omega) | omega);have kq9 := keep2 h2 (b := w.heap.size + 1) (by first | (simp; done) | (simp; omega) | omega);have kc2_1_0 := kq9.1;have kc2_1_1 := kq9.2.1;have kl2_1 := kq9.2.2.2.2.1;have kz2 := h2.size;(try simp only [zsa, zsc, zsd] at kz2);have H2 := Hj h2;clear h2;go_wp2_with fail;refine (O2.out _).mono ?_;rintro e w3 ⟨rfl, h3⟩;have kq10 := keep2 h3 (b := w.heap.size) (by first | (simp; done) | (simp; omega) | omega);have kq11 := keep2 h3 (b := w.heap.size + 1) (by first | (simp; done) | (simp; omega) | omega);have kc3_1_0 := kq11.1;have kc3_1_1 := kq11.2.1;have kl3_1 := kq11.2.2.2.2.1;have kz3 := h3.size;(try simp only [zsa, zsc, zsd] at kz3);have H3 := Hj h3;clear h3;go_wp2_with fail;refine bodyPost_ret ?_ rfl ⟨rfl, ?_⟩
   ·simp [results, results107, go_sem, kc3_1_0, kc3_1_1, kc2_1_0, kc2_1_1, kc1_1_0, kc1_1_1, kl3_1, kl2_1, kl1_1]
   ·exact rx3210
theorem w_ways2 (s : Bool) (n d : Nat) :
  (((hi64 n : Int) != 0) = true /\ wN s n d = 0 /\ wD n d = 0 /\ wE n d = 2) \/
  (((hi64 n : Int) != 0) = false /\ decide ((1000000000000000 : Int) < lo64 n) = true /\ wN s n d = 0 /\ wD n d = 0 /\ wE n d = 2) \/
  (((hi64 n : Int) != 0) = false /\ decide ((1000000000000000 : Int) < lo64 n) = false /\ ((hi64 d : Int) != 0) = true /\ wN s n d = 0 /\ wD n d = 0 /\ wE n d = 2) \/
  (((hi64 n : Int) != 0) = false /\ decide ((1000000000000000 : Int) < lo64 n) = false /\ ((hi64 d : Int) != 0) = false /\ decide ((1000000000 : Int) < lo64 d) = true /\ wN s n d = 0 /\ wD n d = 0 /\ wE n d = 2) \/
  (((hi64 n : Int) != 0) = false /\ decide ((1000000000000000 : Int) < lo64 n) = false /\ ((hi64 d : Int) != 0) = false /\ decide ((1000000000 : Int) < lo64 d) = false /\ lo64 n <= 1000000000000000 /\ lo64 d <= 1000000000 /\ wN s n d = (if s = true then -(lo64 n : Int) else lo64 n) /\ wD n d = lo64 d /\ wE n d = 0) := by
 rcases w_ways s n d with h | h | h | h | ⟨a, b, c, d, e, f, g, h, i, j⟩
 ·exact .inl h
 ·exact .inr (.inl h)
 ·exact .inr (.inr (.inl h))
 ·exact .inr (.inr (.inr (.inl h)))
 ·exact .inr (.inr (.inr (.inr ⟨a, b, c, d, e, f, by cases s <;> simp [g, h], i, j⟩)))
theorem w_n {s d : Int} {N D : Nat} {neg : Bool} (hd : 0 < d) (hD : 0 < D) (hc : Nat.gcd N D = 1) (hv : (if neg = true then -(N : Int) else N) * d = s * D) :
  wN neg N D = nN s d /\ wD N D = nD s d /\ wE N D = nE s d := by
 obtain ⟨e1, e2, e3⟩ := n_value (s := s) (d := d) (s' := if neg = true then -(N : Int) else N) (d' := D) hd (by omega) hv.symm;rw [e1, e2, e3]
 have hg : gOf (if neg = true then -(N : Int) else N) D = 1 := by
  unfold gOf; cases neg <;> simp [hc]
 have r1 : rN (if neg = true then -(N : Int) else N) D = (if neg = true then -(N : Int) else N) := by unfold rN; rw [hg]; simp
 have r2 : rD (if neg = true then -(N : Int) else N) D = D := by unfold rD; rw [hg]; simp
 have ho : nOk (if neg = true then -(N : Int) else N) D = wOk N D := by
  unfold nOk wOk; rw [r1, r2, Bool.eq_iff_iff]; cases neg <;> simp only [Bool.and_eq_true, decide_eq_true_eq, Bool.false_eq_true, if_true, if_false] <;> omega
 unfold wN wD wE nN nD nE;rw [ho, r1, r2];exact ⟨rfl, rfl, rfl⟩
theorem gcd_cut {n d : Nat} (hd : 0 < d) : Nat.gcd (n / Nat.gcd n d) (d / Nat.gcd n d) = 1 /\ 0 < d / Nat.gcd n d /\ n / Nat.gcd n d * d = n * (d / Nat.gcd n d) := by
 have hg : 0 < Nat.gcd n d := Nat.gcd_pos_of_pos_right _ hd;refine ⟨Nat.coprime_div_gcd_div_gcd hg, Nat.div_pos (Nat.gcd_le_right _ hd) hg, ?_⟩;obtain ⟨a, ha⟩ := Nat.gcd_dvd_left n d;obtain ⟨b, hb⟩ := Nat.gcd_dvd_right n d;generalize Nat.gcd n d = g at *;subst ha;subst hb;rw [Nat.mul_div_cancel_left _ hg, Nat.mul_div_cancel_left _ hg];simp only [Nat.mul_left_comm, Nat.mul_assoc, Nat.mul_comm]
theorem w_cut {s d : Int} {N D : Nat} {neg : Bool} (hd : 0 < d) (hD : 0 < D) (hv : (if neg = true then -(N : Int) else N) * d = s * D) :
  wN neg (N / Nat.gcd N D) (D / Nat.gcd N D) = nN s d /\ wD (N / Nat.gcd N D) (D / Nat.gcd N D) = nD s d /\ wE (N / Nat.gcd N D) (D / Nat.gcd N D) = nE s d := by
 obtain ⟨h1, h2, h3⟩ := gcd_cut (n := N) hD;refine w_n hd h2 h1 ?_;generalize N / Nat.gcd N D = a at *;generalize D / Nat.gcd N D = b at *;have h3' : (a : Int) * D = N * b := by exact_mod_cast h3
 have hD' : (0 : Int) < D := by omega
 refine Int.eq_of_mul_eq_mul_right (a := (D : Int)) (by omega) ?_;cases neg
 ·simp only [Bool.false_eq_true, if_false] at hv |-
  calc (a : Int) * d * D = (a * D) * d := by grind
   _ = N * d * b := by rw [h3']; grind
   _ = s * b * D := by rw [hv]; grind
 ·simp only [if_true] at hv |-
  calc -(a : Int) * d * D = -(a * D) * d := by grind
   _ = -(N : Int) * d * b := by rw [h3']; grind
   _ = s * b * D := by rw [hv]; grind
theorem mk_value (n d : Int) (hd : d ≠ 0) (neg : Bool) (hneg : n = 0 \/ (neg = true ↔ ((n < 0 /\ ¬ d < 0) \/ (¬ n < 0 /\ d < 0)))) :
  (if neg = true then -(n.natAbs : Int) else n.natAbs) * (d.natAbs : Int) = mkS n d * (d.natAbs : Int) := by
 unfold mkS;by_cases h0 : n = 0
 ·subst h0; cases neg <;> simp
 ·congr 1
  rcases hneg with hneg | hneg
  ·exact absurd hneg h0
  ·by_cases h1 : d < 0 <;> cases neg <;> simp at hneg |- <;> omega
theorem mk_join (n d : Int) (hd : d ≠ 0) (neg : Bool) (hneg : n = 0 \/ (neg = true ↔ ((n < 0 /\ ¬ d < 0) \/ (¬ n < 0 /\ d < 0)))) :
  wN neg (n.natAbs / Nat.gcd n.natAbs d.natAbs) (d.natAbs / Nat.gcd n.natAbs d.natAbs) = mkN n d /\ wD (n.natAbs / Nat.gcd n.natAbs d.natAbs) (d.natAbs / Nat.gcd n.natAbs d.natAbs) = mkD n d /\ wE (n.natAbs / Nat.gcd n.natAbs d.natAbs) (d.natAbs / Nat.gcd n.natAbs d.natAbs) = mkE n d := by
 unfold mkN mkD mkE;rw [if_neg hd, if_neg hd, if_neg hd];exact w_cut (by omega) (by omega) (mk_value n d hd neg hneg)
def BRes (b : Bool) (w : World) (e : Ending) (w' : World) : Prop := e = .returned (.bool b) /\ Rel w w'
theorem valid_ways (n d : Int) :
  (decide (1 <= d) = false /\ validB n d = false) \/
  (1 <= d /\ decide (1 <= d) = true /\ decide (d <= 1000000000) = false /\ validB n d = false) \/
  (1 <= d /\ decide (1 <= d) = true /\ decide (d <= 1000000000) = true /\ decide (-1000000000000000 <= n) = false /\ validB n d = false) \/
  (1 <= d /\ decide (1 <= d) = true /\ decide (d <= 1000000000) = true /\ decide (-1000000000000000 <= n) = true /\ decide (n <= 1000000000000000) = false /\ validB n d = false) \/
  (1 <= d /\ d <= 1000000000 /\ decide (1 <= d) = true /\ decide (d <= 1000000000) = true /\ decide (-1000000000000000 <= n) = true /\ decide (n <= 1000000000000000) = true /\ (((Nat.gcd n.natAbs d.natAbs : Nat) : Int) == 1) = validB n d) := by
 unfold validB;by_cases h1 : 1 <= d
 ·by_cases h2 : d <= 1000000000
  ·by_cases h3 : -1000000000000000 <= n
   ·by_cases h4 : n <= 1000000000000000
    ·refine .inr (.inr (.inr (.inr ⟨h1, h2, by simp [h1], by simp [h2], by simp [h3], by simp [h4], ?_⟩)));simp only [h1, h2, h3, h4, and_self, decide_true, Bool.true_and]
     by_cases g : Nat.gcd n.natAbs d.natAbs = 1 <;> simp [g]
     omega
    ·exact .inr (.inr (.inr (.inl ⟨h1, by simp [h1], by simp [h2], by simp [h3], by simp [h4], by simp [h4]⟩)))
   ·exact .inr (.inr (.inl ⟨h1, by simp [h1], by simp [h2], by simp [h3], by simp [h3]⟩))
  ·exact .inr (.inl ⟨h1, by simp [h1], by simp [h2], by simp [h2]⟩)
 ·exact .inl ⟨by simp [h1], by simp [h1]⟩
theorem valid_any (n d : Int) (w : World) (n0 : -9223372036854775808 <= n) (n1 : n <= 9223372036854775807) (d0 : -9223372036854775808 <= d) (d1 : d <= 9223372036854775807) :
  Calls prog 151 #[.agg #[.int .i64 n, .int .i64 d]] w (BRes (validB n d) w) := by
 unfold BRes;have P1 : decide (1 <= d) = false -> d < 1 := by simp
 have P2 : decide (d <= 1000000000) = false -> 1000000000 < d := by simp
 have P3 : decide (-1000000000000000 <= n) = false -> n < -1000000000000000 := by simp
 have P4 : decide (n <= 1000000000000000) = false -> 1000000000000000 < n := by simp
 have Q2 : decide (d <= 1000000000) = true -> d <= 1000000000 := by simp
 have Q3 : decide (-1000000000000000 <= n) = true -> -1000000000000000 <= n := by simp
 have Q4 : decide (n <= 1000000000000000) = true -> n <= 1000000000000000 := by simp
 rcases valid_ways n d with ⟨k1, kv⟩ | ⟨kd, k1, k2, kv⟩ | ⟨kd, k1, k2, k3, kv⟩ | ⟨kd, k1, k2, k3, k4, kv⟩ | ⟨kd, kd', k1, k2, k3, k4, kv⟩
 ·have p1 := P1 k1;clear P1 P2 P3 P4 Q2 Q3 Q4;rw [kv];go_enter func151, ntmps151;go_wp2_with fail;refine wp_region_calm (fun _ w' => w'.cell? { block := w.heap.size, off := 0 } = some (.int .i64 n) /\ w'.cell? { block := w.heap.size, off := 1 } = some (.int .i64 d)) (fun _ => false) [0, 1, 2, 3, 4, 5, 6, 7, 8, 9, 10, 11, 12, 13, 14, 15, 16, 17, 18, 19, 20, 21, 22, 23, 24, 25, 26, 27, 28] 0 (by kernel_rfl) (by kernel_rfl) ?hst ?hS0 (fun w0 h0 => ?_)
  case hst => exact fun _ _ _ h r => ⟨r.cell h.1, r.cell h.2⟩
  case hS0 => exact ⟨by go_simp, by go_simp⟩
  iterate 4
   refine wcg ?_;apply ei
   ·intro M w hM hS;have hc := hS.1;have hc' := hS.2;unfold calmAt;go_simp;exact ⟨rfl, Rel.refl _⟩
  iterate 3 (refine wcn ?_)
  iterate 2
   refine wcg ?_;apply ei
   ·intro M w hM hS;have hc := hS.1;have hc' := hS.2;unfold calmAt;go_simp;exact ⟨rfl, Rel.refl _⟩
  iterate 3 (refine wcn ?_)
  iterate 2
   refine wcg ?_;apply ei
   ·intro M w hM hS;have hc := hS.1;have hc' := hS.2;unfold calmAt;go_simp;exact ⟨rfl, Rel.refl _⟩
  iterate 3 (refine wcn ?_)
  iterate 2
   refine wcg ?_;apply ei
   ·intro M w hM hS;have hc := hS.1;have hc' := hS.2;unfold calmAt;go_simp;exact ⟨rfl, Rel.refl _⟩
  iterate 8 (refine wcn ?_)
  iterate 2
   refine wcg ?_;apply ei
   ·intro M w hM hS;have hc := hS.1;have hc' := hS.2;unfold calmAt;go_simp;exact ⟨rfl, Rel.refl _⟩
  refine wpAnyR_end (by kernel_rfl) (fun w1 h1 => ?_);(try simp only [Act.put, zla, zlb, zlc]);have kz1 := h1.size;(try simp only [zsa, zsc, zsd] at kz1);have H1 := Hj h1;clear h1;go_wp2;go_ret;exact ⟨rfl, (((Rel.refl _).alloc _).trans (h0.trans H1.out))⟩
 ·have p1 := P2 k2;clear P1 P2 P3 P4 Q2 Q3 Q4;rw [kv];go_enter func151, ntmps151;go_wp2_with fail;refine wp_region_calm (fun _ w' => w'.cell? { block := w.heap.size, off := 0 } = some (.int .i64 n) /\ w'.cell? { block := w.heap.size, off := 1 } = some (.int .i64 d)) (fun _ => false) [0, 1, 2, 3, 4, 5, 6, 7, 8, 9, 10, 11, 12, 13, 14, 15, 16, 17, 18, 19, 20, 21, 22, 23, 24, 25, 26, 27, 28] 0 (by kernel_rfl) (by kernel_rfl) ?hst ?hS0 (fun w0 h0 => ?_)
  case hst => exact fun _ _ _ h r => ⟨r.cell h.1, r.cell h.2⟩
  case hS0 => exact ⟨by go_simp, by go_simp⟩
  iterate 9
   refine wcg ?_;apply ei
   ·intro M w hM hS;have hc := hS.1;have hc' := hS.2;unfold calmAt;go_simp;exact ⟨rfl, Rel.refl _⟩
  iterate 3 (refine wcn ?_)
  iterate 2
   refine wcg ?_;apply ei
   ·intro M w hM hS;have hc := hS.1;have hc' := hS.2;unfold calmAt;go_simp;exact ⟨rfl, Rel.refl _⟩
  iterate 3 (refine wcn ?_)
  iterate 2
   refine wcg ?_;apply ei
   ·intro M w hM hS;have hc := hS.1;have hc' := hS.2;unfold calmAt;go_simp;exact ⟨rfl, Rel.refl _⟩
  iterate 8 (refine wcn ?_)
  iterate 2
   refine wcg ?_;apply ei
   ·intro M w hM hS;have hc := hS.1;have hc' := hS.2;unfold calmAt;go_simp;exact ⟨rfl, Rel.refl _⟩
  refine wpAnyR_end (by kernel_rfl) (fun w1 h1 => ?_);(try simp only [Act.put, zla, zlb, zlc]);have kz1 := h1.size;(try simp only [zsa, zsc, zsd] at kz1);have H1 := Hj h1;clear h1;go_wp2;go_ret;exact ⟨rfl, (((Rel.refl _).alloc _).trans (h0.trans H1.out))⟩
 ·have p1 := Q2 k2;have p2 := P3 k3;clear P1 P2 P3 P4 Q2 Q3 Q4;rw [kv];go_enter func151, ntmps151;go_wp2_with fail;refine wp_region_calm (fun _ w' => w'.cell? { block := w.heap.size, off := 0 } = some (.int .i64 n) /\ w'.cell? { block := w.heap.size, off := 1 } = some (.int .i64 d)) (fun _ => false) [0, 1, 2, 3, 4, 5, 6, 7, 8, 9, 10, 11, 12, 13, 14, 15, 16, 17, 18, 19, 20, 21, 22, 23, 24, 25, 26, 27, 28] 0 (by kernel_rfl) (by kernel_rfl) ?hst ?hS0 (fun w0 h0 => ?_)
  case hst => exact fun _ _ _ h r => ⟨r.cell h.1, r.cell h.2⟩
  case hS0 => exact ⟨by go_simp, by go_simp⟩
  iterate 14
   refine wcg ?_;apply ei
   ·intro M w hM hS;have hc := hS.1;have hc' := hS.2;unfold calmAt;go_simp;exact ⟨rfl, Rel.refl _⟩
  iterate 3 (refine wcn ?_)
  iterate 2
   refine wcg ?_;apply ei
   ·intro M w hM hS;have hc := hS.1;have hc' := hS.2;unfold calmAt;go_simp;exact ⟨rfl, Rel.refl _⟩
  iterate 8 (refine wcn ?_)
  iterate 2
   refine wcg ?_;apply ei
   ·intro M w hM hS;have hc := hS.1;have hc' := hS.2;unfold calmAt;go_simp;exact ⟨rfl, Rel.refl _⟩
  refine wpAnyR_end (by kernel_rfl) (fun w1 h1 => ?_);(try simp only [Act.put, zla, zlb, zlc]);have kz1 := h1.size;(try simp only [zsa, zsc, zsd] at kz1);have H1 := Hj h1;clear h1;go_wp2;go_ret;exact ⟨rfl, (((Rel.refl _).alloc _).trans (h0.trans H1.out))⟩
 ·have p1 := Q2 k2;have p2 := Q3 k3;have p3 := P4 k4;clear P1 P2 P3 P4 Q2 Q3 Q4;rw [kv];go_enter func151, ntmps151;go_wp2_with fail;refine wp_region_calm (fun _ w' => w'.cell? { block := w.heap.size, off := 0 } = some (.int .i64 n) /\ w'.cell? { block := w.heap.size, off := 1 } = some (.int .i64 d)) (fun _ => false) [0, 1, 2, 3, 4, 5, 6, 7, 8, 9, 10, 11, 12, 13, 14, 15, 16, 17, 18, 19, 20, 21, 22, 23, 24, 25, 26, 27, 28] 0 (by kernel_rfl) (by kernel_rfl) ?hst ?hS0 (fun w0 h0 => ?_)
  case hst => exact fun _ _ _ h r => ⟨r.cell h.1, r.cell h.2⟩
  case hS0 => exact ⟨by go_simp, by go_simp⟩
  iterate 19
   refine wcg ?_;apply ei
   ·intro M w hM hS;have hc := hS.1;have hc' := hS.2;unfold calmAt;go_simp;exact ⟨rfl, Rel.refl _⟩
  iterate 8 (refine wcn ?_)
  iterate 2
   refine wcg ?_;apply ei
   ·intro M w hM hS;have hc := hS.1;have hc' := hS.2;unfold calmAt;go_simp;exact ⟨rfl, Rel.refl _⟩
  refine wpAnyR_end (by kernel_rfl) (fun w1 h1 => ?_);(try simp only [Act.put, zla, zlb, zlc]);have kz1 := h1.size;(try simp only [zsa, zsc, zsd] at kz1);have H1 := Hj h1;clear h1;go_wp2;go_ret;exact ⟨rfl, (((Rel.refl _).alloc _).trans (h0.trans H1.out))⟩
 ·have p2 := Q3 k3;have p3 := Q4 k4;clear P1 P2 P3 P4 Q2 Q3 Q4;have G1 := Hj (fun w => size_any n w n0 n1);have G2 := Hj (fun w => size_any d w d0 d1);have G := Hj (fun w => gcd_any n.natAbs d.natAbs w (by omega) (by omega));generalize Nat.gcd n.natAbs d.natAbs = g at *;generalize n.natAbs = a at *;generalize d.natAbs = b at *;generalize validB n d = v at *;go_enter func151, ntmps151;go_wp2_with fail;refine wp_region_calm (fun _ w' => w'.cell? { block := w.heap.size, off := 0 } = some (.int .i64 n) /\ w'.cell? { block := w.heap.size, off := 1 } = some (.int .i64 d)) (fun _ => false) [0, 1, 2, 3, 4, 5, 6, 7, 8, 9, 10, 11, 12, 13, 14, 15, 16, 17, 18, 19, 20, 21, 22, 23, 24, 25, 26, 27, 28] 0 (by kernel_rfl) (by kernel_rfl) ?hst ?hS0 (fun w0 h0 => ?_)
  case hst => exact fun _ _ _ h r => ⟨r.cell h.1, r.cell h.2⟩
  case hS0 => exact ⟨by go_simp, by go_simp⟩
  iterate 21
   refine wcg ?_;apply ei
   ·intro M w hM hS;have hc := hS.1;have hc' := hS.2;unfold calmAt;go_simp;exact ⟨rfl, Rel.refl _⟩
  refine wcg ?_;apply ei
  ·intro M w hM hS;unfold calmAt;go_simp
   with_reducible refine (G1.out _).mono ?_
   rintro e w1 ⟨rfl, rfl⟩;exact ⟨rfl, Rel.refl _⟩
  iterate 2
   refine wcg ?_;apply ei
   ·intro M w hM hS;have hc := hS.1;have hc' := hS.2;unfold calmAt;go_simp;exact ⟨rfl, Rel.refl _⟩
  refine wcg ?_;apply ei
  ·intro M w hM hS;unfold calmAt;go_simp
   with_reducible refine (G2.out _).mono ?_
   rintro e w1 ⟨rfl, rfl⟩;exact ⟨rfl, Rel.refl _⟩
  refine wcg ?_;apply ei
  ·intro M w hM hS;unfold calmAt;go_simp
   with_reducible refine (G.out _).mono ?_
   rintro e w1 ⟨rfl, hb⟩;exact ⟨rfl, hb⟩
  iterate 3
   refine wcg ?_;apply ei
   ·intro M w hM hS;unfold calmAt;go_simp;exact ⟨rfl, Rel.refl _⟩
  refine wpAnyR_end (by kernel_rfl) (fun w1 h1 => ?_);(try simp only [Act.put, zla, zlb, zlc]);have kz1 := h1.size;(try simp only [zsa, zsc, zsd] at kz1);have H1 := Hj h1;clear h1;go_wp2;go_ret;exact ⟨rfl, (((Rel.refl _).alloc _).trans (h0.trans H1.out))⟩
theorem rvalid_any (n d : Int) (w : World) (n0 : -9223372036854775808 <= n) (n1 : n <= 9223372036854775807) (d0 : -9223372036854775808 <= d) (d1 : d <= 9223372036854775807) :
  Calls prog 59 #[.agg #[.int .i64 n, .int .i64 d]] w (BRes (validB n d) w) := by
 unfold BRes;have P1 : decide (1 <= d) = false -> d < 1 := by simp
 have P2 : decide (d <= 1000000000) = false -> 1000000000 < d := by simp
 have P3 : decide (-1000000000000000 <= n) = false -> n < -1000000000000000 := by simp
 have P4 : decide (n <= 1000000000000000) = false -> 1000000000000000 < n := by simp
 have Q2 : decide (d <= 1000000000) = true -> d <= 1000000000 := by simp
 have Q3 : decide (-1000000000000000 <= n) = true -> -1000000000000000 <= n := by simp
 have Q4 : decide (n <= 1000000000000000) = true -> n <= 1000000000000000 := by simp
 rcases valid_ways n d with ⟨k1, kv⟩ | ⟨kd, k1, k2, kv⟩ | ⟨kd, k1, k2, k3, kv⟩ | ⟨kd, k1, k2, k3, k4, kv⟩ | ⟨kd, kd', k1, k2, k3, k4, kv⟩
 ·have p1 := P1 k1;clear P1 P2 P3 P4 Q2 Q3 Q4;rw [kv];go_enter func59, ntmps59;go_wp2_with fail;refine wp_region_calm (fun _ w' => w'.cell? { block := w.heap.size, off := 0 } = some (.int .i64 n) /\ w'.cell? { block := w.heap.size, off := 1 } = some (.int .i64 d)) (fun _ => false) [0, 1, 2, 3, 4, 5, 6, 7, 8, 9, 10, 11, 12, 13, 14, 15, 16, 17, 18, 19, 20, 21, 22, 23, 24, 25, 26, 27, 28] 0 (by kernel_rfl) (by kernel_rfl) ?hst ?hS0 (fun w0 h0 => ?_)
  case hst => exact fun _ _ _ h r => ⟨r.cell h.1, r.cell h.2⟩
  case hS0 => exact ⟨by go_simp, by go_simp⟩
  iterate 4
   refine wcg ?_;apply ei
   ·intro M w hM hS;have hc := hS.1;have hc' := hS.2;unfold calmAt;go_simp;exact ⟨rfl, Rel.refl _⟩
  iterate 3 (refine wcn ?_)
  iterate 2
   refine wcg ?_;apply ei
   ·intro M w hM hS;have hc := hS.1;have hc' := hS.2;unfold calmAt;go_simp;exact ⟨rfl, Rel.refl _⟩
  iterate 3 (refine wcn ?_)
  iterate 2
   refine wcg ?_;apply ei
   ·intro M w hM hS;have hc := hS.1;have hc' := hS.2;unfold calmAt;go_simp;exact ⟨rfl, Rel.refl _⟩
  iterate 3 (refine wcn ?_)
  iterate 2
   refine wcg ?_;apply ei
   ·intro M w hM hS;have hc := hS.1;have hc' := hS.2;unfold calmAt;go_simp;exact ⟨rfl, Rel.refl _⟩
  iterate 8 (refine wcn ?_)
  iterate 2
   refine wcg ?_;apply ei
   ·intro M w hM hS;have hc := hS.1;have hc' := hS.2;unfold calmAt;go_simp;exact ⟨rfl, Rel.refl _⟩
  refine wpAnyR_end (by kernel_rfl) (fun w1 h1 => ?_);(try simp only [Act.put, zla, zlb, zlc]);have kz1 := h1.size;(try simp only [zsa, zsc, zsd] at kz1);have H1 := Hj h1;clear h1;go_wp2;go_ret;exact ⟨rfl, (((Rel.refl _).alloc _).trans (h0.trans H1.out))⟩
 ·have p1 := P2 k2;clear P1 P2 P3 P4 Q2 Q3 Q4;rw [kv];go_enter func59, ntmps59;go_wp2_with fail;refine wp_region_calm (fun _ w' => w'.cell? { block := w.heap.size, off := 0 } = some (.int .i64 n) /\ w'.cell? { block := w.heap.size, off := 1 } = some (.int .i64 d)) (fun _ => false) [0, 1, 2, 3, 4, 5, 6, 7, 8, 9, 10, 11, 12, 13, 14, 15, 16, 17, 18, 19, 20, 21, 22, 23, 24, 25, 26, 27, 28] 0 (by kernel_rfl) (by kernel_rfl) ?hst ?hS0 (fun w0 h0 => ?_)
  case hst => exact fun _ _ _ h r => ⟨r.cell h.1, r.cell h.2⟩
  case hS0 => exact ⟨by go_simp, by go_simp⟩
  iterate 9
   refine wcg ?_;apply ei
   ·intro M w hM hS;have hc := hS.1;have hc' := hS.2;unfold calmAt;go_simp;exact ⟨rfl, Rel.refl _⟩
  iterate 3 (refine wcn ?_)
  iterate 2
   refine wcg ?_;apply ei
   ·intro M w hM hS;have hc := hS.1;have hc' := hS.2;unfold calmAt;go_simp;exact ⟨rfl, Rel.refl _⟩
  iterate 3 (refine wcn ?_)
  iterate 2
   refine wcg ?_;apply ei
   ·intro M w hM hS;have hc := hS.1;have hc' := hS.2;unfold calmAt;go_simp;exact ⟨rfl, Rel.refl _⟩
  iterate 8 (refine wcn ?_)
  iterate 2
   refine wcg ?_;apply ei
   ·intro M w hM hS;have hc := hS.1;have hc' := hS.2;unfold calmAt;go_simp;exact ⟨rfl, Rel.refl _⟩
  refine wpAnyR_end (by kernel_rfl) (fun w1 h1 => ?_);(try simp only [Act.put, zla, zlb, zlc]);have kz1 := h1.size;(try simp only [zsa, zsc, zsd] at kz1);have H1 := Hj h1;clear h1;go_wp2;go_ret;exact ⟨rfl, (((Rel.refl _).alloc _).trans (h0.trans H1.out))⟩
 ·have p1 := Q2 k2;have p2 := P3 k3;clear P1 P2 P3 P4 Q2 Q3 Q4;rw [kv];go_enter func59, ntmps59;go_wp2_with fail;refine wp_region_calm (fun _ w' => w'.cell? { block := w.heap.size, off := 0 } = some (.int .i64 n) /\ w'.cell? { block := w.heap.size, off := 1 } = some (.int .i64 d)) (fun _ => false) [0, 1, 2, 3, 4, 5, 6, 7, 8, 9, 10, 11, 12, 13, 14, 15, 16, 17, 18, 19, 20, 21, 22, 23, 24, 25, 26, 27, 28] 0 (by kernel_rfl) (by kernel_rfl) ?hst ?hS0 (fun w0 h0 => ?_)
  case hst => exact fun _ _ _ h r => ⟨r.cell h.1, r.cell h.2⟩
  case hS0 => exact ⟨by go_simp, by go_simp⟩
  iterate 14
   refine wcg ?_;apply ei
   ·intro M w hM hS;have hc := hS.1;have hc' := hS.2;unfold calmAt;go_simp;exact ⟨rfl, Rel.refl _⟩
  iterate 3 (refine wcn ?_)
  iterate 2
   refine wcg ?_;apply ei
   ·intro M w hM hS;have hc := hS.1;have hc' := hS.2;unfold calmAt;go_simp;exact ⟨rfl, Rel.refl _⟩
  iterate 8 (refine wcn ?_)
  iterate 2
   refine wcg ?_;apply ei
   ·intro M w hM hS;have hc := hS.1;have hc' := hS.2;unfold calmAt;go_simp;exact ⟨rfl, Rel.refl _⟩
  refine wpAnyR_end (by kernel_rfl) (fun w1 h1 => ?_);(try simp only [Act.put, zla, zlb, zlc]);have kz1 := h1.size;(try simp only [zsa, zsc, zsd] at kz1);have H1 := Hj h1;clear h1;go_wp2;go_ret;exact ⟨rfl, (((Rel.refl _).alloc _).trans (h0.trans H1.out))⟩
 ·have p1 := Q2 k2;have p2 := Q3 k3;have p3 := P4 k4;clear P1 P2 P3 P4 Q2 Q3 Q4;rw [kv];go_enter func59, ntmps59;go_wp2_with fail;refine wp_region_calm (fun _ w' => w'.cell? { block := w.heap.size, off := 0 } = some (.int .i64 n) /\ w'.cell? { block := w.heap.size, off := 1 } = some (.int .i64 d)) (fun _ => false) [0, 1, 2, 3, 4, 5, 6, 7, 8, 9, 10, 11, 12, 13, 14, 15, 16, 17, 18, 19, 20, 21, 22, 23, 24, 25, 26, 27, 28] 0 (by kernel_rfl) (by kernel_rfl) ?hst ?hS0 (fun w0 h0 => ?_)
  case hst => exact fun _ _ _ h r => ⟨r.cell h.1, r.cell h.2⟩
  case hS0 => exact ⟨by go_simp, by go_simp⟩
  iterate 19
   refine wcg ?_;apply ei
   ·intro M w hM hS;have hc := hS.1;have hc' := hS.2;unfold calmAt;go_simp;exact ⟨rfl, Rel.refl _⟩
  iterate 8 (refine wcn ?_)
  iterate 2
   refine wcg ?_;apply ei
   ·intro M w hM hS;have hc := hS.1;have hc' := hS.2;unfold calmAt;go_simp;exact ⟨rfl, Rel.refl _⟩
  refine wpAnyR_end (by kernel_rfl) (fun w1 h1 => ?_);(try simp only [Act.put, zla, zlb, zlc]);have kz1 := h1.size;(try simp only [zsa, zsc, zsd] at kz1);have H1 := Hj h1;clear h1;go_wp2;go_ret;exact ⟨rfl, (((Rel.refl _).alloc _).trans (h0.trans H1.out))⟩
 ·have p2 := Q3 k3;have p3 := Q4 k4;clear P1 P2 P3 P4 Q2 Q3 Q4;have G1 := Hj (fun w => rsize_any n w n0 n1);obtain ⟨b, rfl⟩ := Int.eq_ofNat_of_zero_le (show 0 <= d by omega);rw [Int.natAbs_natCast] at kv;have hbw := u64_nat (n := b) (by omega);have G := Hj (fun w => rgcd_any n.natAbs b w (by omega) (by omega));generalize Nat.gcd n.natAbs b = g at *;generalize n.natAbs = a at *;generalize validB n b = v at *;go_enter func59, ntmps59;go_wp2_with fail;refine wp_region_calm (fun _ w' => w'.cell? { block := w.heap.size, off := 0 } = some (.int .i64 n) /\ w'.cell? { block := w.heap.size, off := 1 } = some (.int .i64 b)) (fun _ => false) [0, 1, 2, 3, 4, 5, 6, 7, 8, 9, 10, 11, 12, 13, 14, 15, 16, 17, 18, 19, 20, 21, 22, 23, 24, 25, 26, 27, 28] 0 (by kernel_rfl) (by kernel_rfl) ?hst ?hS0 (fun w0 h0 => ?_)
  case hst => exact fun _ _ _ h r => ⟨r.cell h.1, r.cell h.2⟩
  case hS0 => exact ⟨by go_simp, by go_simp⟩
  iterate 21
   refine wcg ?_;apply ei
   ·intro M w hM hS;have hc := hS.1;have hc' := hS.2;unfold calmAt;go_simp;exact ⟨rfl, Rel.refl _⟩
  refine wcg ?_;apply ei
  ·intro M w hM hS;unfold calmAt;go_simp
   with_reducible refine (G1.out _).mono ?_
   rintro e w1 ⟨rfl, rfl⟩;exact ⟨rfl, Rel.refl _⟩
  iterate 3
   refine wcg ?_;apply ei
   ·intro M w hM hS;have hc := hS.1;have hc' := hS.2;unfold calmAt;go_simp;exact ⟨rfl, Rel.refl _⟩
  refine wcg ?_;apply ei
  ·intro M w hM hS;unfold calmAt;go_simp
   with_reducible refine (G.out _).mono ?_
   rintro e w1 ⟨rfl, hb⟩;exact ⟨rfl, hb⟩
  iterate 3
   refine wcg ?_;apply ei
   ·intro M w hM hS;unfold calmAt;go_simp;exact ⟨rfl, Rel.refl _⟩
  refine wpAnyR_end (by kernel_rfl) (fun w1 h1 => ?_);(try simp only [Act.put, zla, zlb, zlc]);have kz1 := h1.size;(try simp only [zsa, zsc, zsd] at kz1);have H1 := Hj h1;clear h1;go_wp2;go_ret;exact ⟨rfl, (((Rel.refl _).alloc _).trans (h0.trans H1.out))⟩
theorem hi_small {n : Nat} (h : n < 18446744073709551616) : hi64 n = 0 := by unfold hi64; omega
theorem lo_small {n : Nat} (h : n < 18446744073709551616) : lo64 n = n := by unfold lo64; omega
theorem lowest_any (s : Bool) (X d : Nat) (w : World) (hX : X < 340282366920938463463374607431768211456) (hd : 0 < d) (hd2 : d < 18446744073709551616) :
  Calls prog 107 #[.bool s, .agg #[.int .u64 (hi64 X), .int .u64 (lo64 X)], .int .u64 d] w (FrRes (wN s (X / Nat.gcd X d) (d / Nat.gcd X d)) (wD (X / Nat.gcd X d) (d / Nat.gcd X d)) (wE (X / Nat.gcd X d) (d / Nat.gcd X d)) w) := by
 have hg : 0 < Nat.gcd X d := Nat.gcd_pos_of_pos_right _ hd;have hgd : Nat.gcd X d <= d := Nat.gcd_le_right _ hd;have hge : Nat.gcd d (X % d) = Nat.gcd X d := by rw [Nat.gcd_comm X d, Nat.gcd_rec d X, Nat.gcd_comm]
 have hm : X % d < d := Nat.mod_lt _ hd
 refine lowest_core s (hi64 X) (lo64 X) d (X % d) (Nat.gcd X d) (hi64 (X / Nat.gcd X d)) (lo64 (X / Nat.gcd X d)) (X % Nat.gcd X d) (d / Nat.gcd X d) (hi64 (X / d)) (lo64 (X / d)) _ _ _ w hg hd2 rfl
  (Hj fun w => rover_any X d w hX hd hd2) (Hj fun w => by have := rgcd_any d (X % d) w hd2 (by omega); rwa [hge] at this) (Hj fun w => rover_any X (Nat.gcd X d) w hX hg (by omega)) ?_
 have hdd : d / Nat.gcd X d < 18446744073709551616 := Nat.lt_of_le_of_lt (Nat.div_le_self _ _) hd2;have h1 := hi_small hdd;have h2 := lo_small hdd
 rcases w_ways2 s (X / Nat.gcd X d) (d / Nat.gcd X d) with h | h | ⟨_, _, h, _⟩ | ⟨a, b, c, e, f⟩ | ⟨a, b, c, e, f, g, k, l, m⟩
 ·exact .inl h
 ·exact .inr (.inl h)
 ·rw [h1] at h; simp at h
 ·rw [h2] at e; exact .inr (.inr (.inl ⟨a, b, e, f⟩))
 ·rw [h2] at e g l; exact .inr (.inr (.inr ⟨a, b, e, f, g, k, l, m⟩))
theorem lowest_small (s : Bool) (X d : Nat) (w : World) (hX : X < 18446744073709551616) (hd : 0 < d) (hd2 : d < 18446744073709551616) :
  Calls prog 107 #[.bool s, .agg #[.int .u64 0, .int .u64 X], .int .u64 d] w (FrRes (wN s (X / Nat.gcd X d) (d / Nat.gcd X d)) (wD (X / Nat.gcd X d) (d / Nat.gcd X d)) (wE (X / Nat.gcd X d) (d / Nat.gcd X d)) w) := by
 have h := lowest_any s X d w (by omega) hd hd2;rw [hi_small hX, lo_small hX] at h;exact h
theorem rmake_core (n d : Int) (s : Bool) (a b : Nat) (R1 R2 R3 : Int) (w : World) (hd : d ≠ 0)
  (h : (n < 0 /\ d < 0 /\ s = false) \/ (n < 0 /\ 0 < d /\ s = true) \/ (0 <= n /\ d < 0 /\ s = true) \/ (0 <= n /\ 0 < d /\ s = false))
  (S1 : Hid (∀ w, Calls prog 103 #[.int .i64 n] w fun e w' => e = .returned (.int .u64 a) /\ w = w'))
  (S2 : Hid (∀ w, Calls prog 103 #[.int .i64 d] w fun e w' => e = .returned (.int .u64 b) /\ w = w'))
  (hW : Hid (∀ w, Calls prog 107 #[.bool s, .agg #[.int .u64 0, .int .u64 a], .int .u64 b] w (FrRes R1 R2 R3 w))) :
  Calls prog 62 #[.int .i64 n, .int .i64 d] w (FrRes R1 R2 R3 w) := by
 have z1 : (d == 0) = false := by simp; omega
 unfold FrRes at hW |-;have hN : ∀ x : Int, x < 0 -> decide (x < 0) = true := by simp
 have hP : ∀ x : Int, 0 <= x -> decide (x < 0) = false := by intro x hx; simp; omega
 rcases h with ⟨h1, h2, rfl⟩ | ⟨h1, h2, rfl⟩ | ⟨h1, h2, rfl⟩ | ⟨h1, h2, rfl⟩
 ·have z3 := hN n h1; have z4 := hN d h2; clear hN hP;go_enter func62, ntmps62;go_wp2_with fail
  with_reducible refine (S1.out _).mono ?_
  rintro e w1 ⟨rfl, rfl⟩;go_wp2_with fail
  with_reducible refine (S2.out _).mono ?_
  rintro e w1 ⟨rfl, rfl⟩;go_wp2_with fail
  with_reducible refine (hW.out _).mono ?_
  rintro e w1 ⟨rfl, h3⟩;have kq0 := keep2 h3 (b := w.heap.size) (by first | (simp; done) | (simp; omega) | omega);have kc3_0_0 := kq0.1;have kc3_0_1 := kq0.2.1;have kl3_0 := kq0.2.2.2.2.1;have kz3 := h3.size;(try simp only [zsa, zsc, zsd] at kz3);have H3 := Hj h3;clear h3;go_wp2;refine bodyPost_ret ?_ rfl ⟨rfl, ?_⟩
  ·simp [results, results62, go_sem, kc3_0_0, kc3_0_1, kl3_0]
  ·exact rx3210
 ·have z3 := hN n h1; have z4 := hP d (by omega); clear hN hP;go_enter func62, ntmps62;go_wp2_with fail
  with_reducible refine (S1.out _).mono ?_
  rintro e w1 ⟨rfl, rfl⟩;go_wp2_with fail
  with_reducible refine (S2.out _).mono ?_
  rintro e w1 ⟨rfl, rfl⟩;go_wp2_with fail
  with_reducible refine (hW.out _).mono ?_
  rintro e w1 ⟨rfl, h3⟩;have kq1 := keep2 h3 (b := w.heap.size) (by first | (simp; done) | (simp; omega) | omega);have kc3_0_0 := kq1.1;have kc3_0_1 := kq1.2.1;have kl3_0 := kq1.2.2.2.2.1;have kz3 := h3.size;(try simp only [zsa, zsc, zsd] at kz3);have H3 := Hj h3;clear h3;go_wp2;refine bodyPost_ret ?_ rfl ⟨rfl, ?_⟩
  ·simp [results, results62, go_sem, kc3_0_0, kc3_0_1, kl3_0]
  ·exact rx3210
 ·have z3 := hP n h1; have z4 := hN d h2; clear hN hP;go_enter func62, ntmps62;go_wp2_with fail
  with_reducible refine (S1.out _).mono ?_
  rintro e w1 ⟨rfl, rfl⟩;go_wp2_with fail
  with_reducible refine (S2.out _).mono ?_
  rintro e w1 ⟨rfl, rfl⟩;go_wp2_with fail
  with_reducible refine (hW.out _).mono ?_
  rintro e w1 ⟨rfl, h3⟩;have kq2 := keep2 h3 (b := w.heap.size) (by first | (simp; done) | (simp; omega) | omega);have kc3_0_0 := kq2.1;have kc3_0_1 := kq2.2.1;have kl3_0 := kq2.2.2.2.2.1;have kz3 := h3.size;(try simp only [zsa, zsc, zsd] at kz3);have H3 := Hj h3;clear h3;go_wp2;refine bodyPost_ret ?_ rfl ⟨rfl, ?_⟩
  ·simp [results, results62, go_sem, kc3_0_0, kc3_0_1, kl3_0]
  ·exact rx3210
 ·have z3 := hP n h1; have z4 := hP d (by omega); clear hN hP;go_enter func62, ntmps62;go_wp2_with fail
  with_reducible refine (S1.out _).mono ?_
  rintro e w1 ⟨rfl, rfl⟩;go_wp2_with fail
  with_reducible refine (S2.out _).mono ?_
  rintro e w1 ⟨rfl, rfl⟩;go_wp2_with fail
  with_reducible refine (hW.out _).mono ?_
  rintro e w1 ⟨rfl, h3⟩;have kq3 := keep2 h3 (b := w.heap.size) (by first | (simp; done) | (simp; omega) | omega);have kc3_0_0 := kq3.1;have kc3_0_1 := kq3.2.1;have kl3_0 := kq3.2.2.2.2.1;have kz3 := h3.size;(try simp only [zsa, zsc, zsd] at kz3);have H3 := Hj h3;clear h3;go_wp2;refine bodyPost_ret ?_ rfl ⟨rfl, ?_⟩
  ·simp [results, results62, go_sem, kc3_0_0, kc3_0_1, kl3_0]
  ·exact rx3210
theorem rmake_any (n d : Int) (w : World) (n0 : -9223372036854775808 <= n) (n1 : n <= 9223372036854775807) (d0 : -9223372036854775808 <= d) (d1 : d <= 9223372036854775807) :
  Calls prog 62 #[.int .i64 n, .int .i64 d] w (FrRes (mkN n d) (mkD n d) (mkE n d) w) := by
 by_cases hd : d = 0
 ·subst hd;have e1 : mkN n 0 = 0 := by simp [mkN]
  have e2 : mkD n 0 = 0 := by simp [mkD]
  have e3 : mkE n 0 = 3 := by simp [mkE]
  rw [e1, e2, e3];clear e1 e2 e3;unfold FrRes;go_enter func62, ntmps62;go_wp2;refine bodyPost_ret ?_ rfl ⟨rfl, ?_⟩
  ·simp [results, results62, go_sem]
  exact (Rel.refl _).alloc _
 ·have hh : ∃ s : Bool, (n < 0 /\ d < 0 /\ s = false) \/ (n < 0 /\ 0 < d /\ s = true) \/ (0 <= n /\ d < 0 /\ s = true) \/ (0 <= n /\ 0 < d /\ s = false) := by
   by_cases c1 : n < 0 <;> by_cases c2 : d < 0
   ·exact ⟨false, .inl ⟨c1, c2, rfl⟩⟩
   ·exact ⟨true, .inr (.inl ⟨c1, by omega, rfl⟩)⟩
   ·exact ⟨true, .inr (.inr (.inl ⟨by omega, by omega, rfl⟩))⟩
   ·exact ⟨false, .inr (.inr (.inr ⟨by omega, by omega, rfl⟩))⟩
  obtain ⟨s, hs⟩ := hh;obtain ⟨j1, j2, j3⟩ := mk_join n d hd s (by by_cases h0 : n = 0; exact .inl h0; right; cases s <;> simp at hs |- <;> omega);rw [<- j1, <- j2, <- j3];exact rmake_core n d s n.natAbs d.natAbs _ _ _ w hd hs (Hj fun w => rsize_any n w n0 n1) (Hj fun w => rsize_any d w d0 d1) (Hj fun w => lowest_small _ _ _ w (by omega) (by omega) (by omega))
theorem tmod_gt (v n : Int) (h : 0 < n) : -n < Int.tmod v n := by
 have h1 := Int.tmod_lt_of_pos (-v) h;rw [Int.neg_tmod] at h1; omega
theorem fpick_eq (v n : Int) (h : 1 <= n) : Int.tmod (Int.tmod v n + n) n = v % n := by
 have hn := Int.emod_nonneg v (show n ≠ 0 by omega);have hl := Int.emod_lt_of_pos v (show 0 < n by omega);by_cases hv : 0 <= v
 ·rw [Int.tmod_eq_emod_of_nonneg hv, Int.tmod_eq_emod_of_nonneg (by omega), Int.add_emod_right, Int.emod_emod]
 ·have hb := Int.tmod_lt_of_pos v (show 0 < n by omega);have hb2 := tmod_gt v n (by omega);rw [Int.tmod_eq_emod_of_nonneg (by omega), Int.add_emod_right];have := Int.emod_def (Int.tmod v n) n
  have e : v.tmod n % n = v % n := by
   have h1 := Int.tmod_def v n;rw [h1, Int.sub_mul_emod_self_left]
  exact e
theorem pick_any (v n : Int) (w : World) (v0 : -9223372036854775808 <= v) (v1 : v <= 9223372036854775807) (h1 : 1 <= n) (h2 : n <= 4000000000000000000) :
  Calls prog 19 #[.int .i64 v, .int .i64 n] w fun e w' => e = .returned (.int .i64 (v % n)) /\ w = w' := by
 have hb := Int.tmod_lt_of_pos v (show 0 < n by omega);have hb2 := tmod_gt v n (by omega);have z1 : (n == 0) = false := by simp; omega
 have z2 : ¬ n = 0 := by omega
 rw [<- fpick_eq v n h1];by_cases hv : 0 <= v
 ·rw [Int.tmod_eq_emod_of_nonneg hv] at hb hb2 |-;have := Int.emod_nonneg v (show n ≠ 0 by omega);rw [Int.tmod_eq_emod_of_nonneg (show 0 <= v % n + n by omega)];go_enter func19, ntmps19;go_wp2;go_ret;exact ⟨rfl, rfl⟩
 ·have hlt : v < 0 := by omega
  generalize ht : Int.tmod v n = t at *;have HT := ht;rw [Int.tmod_eq_emod_of_nonneg (show 0 <= t + n by omega)];go_enter func19, ntmps19;go_wp2;go_ret;exact ⟨rfl, rfl⟩
theorem valid_is {n d : Int} {b : Bool} (h : validB n d = b) (w : World) (n0 : -9223372036854775808 <= n) (n1 : n <= 9223372036854775807) (d0 : -9223372036854775808 <= d) (d1 : d <= 9223372036854775807) :
  Calls prog 151 #[.agg #[.int .i64 n, .int .i64 d]] w fun e w' => e = .returned (.bool b) /\ Rel w w' := by
 have := valid_any n d w n0 n1 d0 d1;rw [h] at this; exact this
theorem div_uniq {n d q s : Int} (hd : 0 < d) (h0 : 0 <= s) (h1 : s < d) (e : d * q + s = n) : n / d = q := by
 rw [<- e, Int.add_comm, Int.add_mul_ediv_left _ _ (by omega), Int.ediv_eq_zero_of_lt h0 h1]; omega
theorem div_ways (n d : Int) (hd : 1 <= d) (h3 : -1000000000000000 <= n) (h4 : n <= 1000000000000000) :
  ∃ q r p : Int, Int.tdiv n d = q /\ Int.tmod n d = r /\ q * d = p /\ -1000000000000000 <= q /\ q <= 1000000000000000 /\ -1000000000000000 <= p /\ p <= 1000000000000000 /\
   ((r = 0 /\ p = n /\ n / d = q /\ -(-n / d) = q) \/ (r < 0 /\ n < p /\ n / d = q - 1 /\ -(-n / d) = q) \/ (0 < r /\ p < n /\ n / d = q /\ -(-n / d) = q + 1)) := by
 refine ⟨_, _, _, rfl, rfl, rfl, ?_⟩;have e1 := Int.tmod_def n d;have c1 := Int.tmod_lt_of_pos n (show 0 < d by omega);have c2 := tmod_gt n d (by omega)
 have hs : (0 <= n -> 0 <= Int.tmod n d) /\ (n <= 0 -> Int.tmod n d <= 0) := by
  refine ⟨fun h => Int.tmod_nonneg _ h, fun h => ?_⟩;have := Int.tmod_nonneg d (show 0 <= -n by omega);rw [Int.neg_tmod] at this; omega
 have hq : (0 <= n -> 0 <= Int.tdiv n d /\ Int.tdiv n d <= n) /\ (n <= 0 -> n <= Int.tdiv n d /\ Int.tdiv n d <= 0) := by
  refine ⟨fun h => ?_, fun h => ?_⟩
  ·rw [Int.tdiv_eq_ediv_of_nonneg h];exact ⟨Int.ediv_nonneg h (by omega), Int.ediv_le_self _ h⟩
  ·have e : Int.tdiv n d = -Int.tdiv (-n) d := by rw [Int.neg_tdiv]; omega
   rw [e, Int.tdiv_eq_ediv_of_nonneg (by omega)];have := Int.ediv_nonneg (show 0 <= -n by omega) (show 0 <= d by omega);have := Int.ediv_le_self d (show 0 <= -n by omega);omega
 have hp : (0 <= n -> 0 <= Int.tdiv n d * d) /\ (n <= 0 -> Int.tdiv n d * d <= 0) := by
  refine ⟨fun h => Int.mul_nonneg (hq.1 h).1 (by omega), fun h => Int.mul_nonpos_of_nonpos_of_nonneg (hq.2 h).2 (by omega)⟩
 have u := fun q s (h0 : 0 <= s) (h1 : s < d) (e : d * q + s = n) => div_uniq (n := n) (q := q) (show 0 < d by omega) h0 h1 e
 have v := fun q s (h0 : 0 <= s) (h1 : s < d) (e : d * q + s = -n) => div_uniq (n := -n) (q := q) (show 0 < d by omega) h0 h1 e
 rw [Int.mul_comm d] at e1;generalize Int.tdiv n d = q at *;generalize Int.tmod n d = r at *;have k1 : d * (q - 1) = q * d - d := by grind
 have k2 : d * q = q * d := by grind
 have k3 : d * (-q) = -(q * d) := by grind
 have k4 : d * (-q - 1) = -(q * d) - d := by grind
 refine ⟨by omega, by omega, by omega, by omega, ?_⟩
 rcases Int.lt_trichotomy r 0 with h | h | h
 ·refine .inr (.inl ⟨h, by omega, u _ (r + d) (by omega) (by omega) (by omega), ?_⟩);rw [v (-q) (-r) (by omega) (by omega) (by omega)]; omega
 ·refine .inl ⟨h, by omega, u _ 0 (by omega) (by omega) (by omega), ?_⟩;rw [v (-q) 0 (by omega) (by omega) (by omega)]; omega
 ·refine .inr (.inr ⟨h, by omega, u _ r (by omega) (by omega) (by omega), ?_⟩);rw [v (-q - 1) (d - r) (by omega) (by omega) (by omega)]; omega
def ZRes (x y : Int) (w : World) (e : Ending) (w' : World) : Prop := e = .returned (.tuple #[.int .i64 x, .int .i64 y]) /\ Rel w w'
theorem floor_any (n d : Int) (w : World) (n0 : -9223372036854775808 <= n) (n1 : n <= 9223372036854775807) (d0 : -9223372036854775808 <= d) (d1 : d <= 9223372036854775807) :
  Calls prog 113 #[.agg #[.int .i64 n, .int .i64 d]] w (ZRes (flN n d) (flE n d) w) := by
 unfold flN flE ZRes
 cases hv : validB n d
 ·have V := Hj (fun w => valid_is hv w n0 n1 d0 d1);clear hv;rw [if_neg (by simp), if_neg (by simp)];go_enter func113, ntmps113;go_wp2_with fail
  with_reducible refine (V.out _).mono ?_
  rintro e w1 ⟨rfl, h1⟩;have kq0 := keep2 h1 (b := w.heap.size) (by first | (simp; done) | (simp; omega) | omega);have kz1 := h1.size;(try simp only [zsa, zsc, zsd] at kz1);have H1 := Hj h1;clear h1;go_wp2
  go_ret2
  exact ⟨rfl, rx10⟩
 ·have V := Hj (fun w => valid_is hv w n0 n1 d0 d1);have hb := (validB_iff n d).1 hv;have b1 := hb.1.1; have b2 := hb.1.2.1; have b3 := hb.1.2.2.1; have b4 := hb.1.2.2.2;clear hv hb;rw [if_pos rfl, if_pos rfl];obtain ⟨q, r, p, hq, hr, hp, q1, q2, p1, p2, hw⟩ := div_ways n d b1 b3 b4;have z1 : (d == 0) = false := by simp; omega
  have z2 : ¬ d = 0 := by omega
  have hq0 : 0 <= n -> n / d = q := fun h => by rw [<- hq, Int.tdiv_eq_ediv_of_nonneg h]
  have hr0 : 0 <= n -> n % d = r := fun h => by rw [<- hr, Int.tmod_eq_emod_of_nonneg h]
  rcases hw with ⟨h1, h2, h3, h4⟩ | ⟨h1, h2, h3, h4⟩ | ⟨h1, h2, h3, h4⟩
  all_goals
   rw [h3];clear h3 h4;by_cases hn : 0 <= n
   all_goals
    (first | (have hq1 := hq0 hn; have hr1 := hr0 hn; clear hq0 hr0) | clear hq0 hr0)
    go_enter func113, ntmps113;go_wp2_with fail
    with_reducible refine (V.out _).mono ?_
    rintro e w1 ⟨rfl, h1⟩;have kq1 := keep2 h1 (b := w.heap.size) (by first | (simp; done) | (simp; omega) | omega);have kz1 := h1.size;(try simp only [zsa, zsc, zsd] at kz1);have H1 := Hj h1;clear h1;go_wp2
    go_ret2
    exact ⟨by first | rfl | (congr; omega) | simp [*], rx10⟩
theorem mk_bd (n d : Int) : (-1000000000000000 <= mkN n d /\ mkN n d <= 1000000000000000) /\ (0 <= mkD n d /\ mkD n d <= 1000000000) := by
 unfold mkN mkD;by_cases hd : d = 0
 ·rw [if_pos hd, if_pos hd]; omega
 ·rw [if_neg hd, if_neg hd]
  rcases n_cases (mkS n d) (d.natAbs : Int) (by omega) with ⟨_, e1, e2, _⟩ | ⟨_, _, hv, _⟩
  ·rw [e1, e2]; omega
  ·have := (validB_iff _ _).1 hv; omega
end Go.Proofs.YthmlhheceihcbaaGreatDoor

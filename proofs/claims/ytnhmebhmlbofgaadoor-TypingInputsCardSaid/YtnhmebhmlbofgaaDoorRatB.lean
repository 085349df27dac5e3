/- Contracts of the library's Div64 and Rem64, and of the quotients of wide numbers. No conditions but those printed. -/
import Derived.Test.YtnhmebhmlbofgaaDoorRatA
import Derived.Test.YtnhmebhmlbofgaaDoorDivPlain
namespace Go.Proofs.YtnhmebhmlbofgaaDoor
open Go.RowKit Frac

attribute [local go_sem] calmUpon

theorem ret_uu {k l : IntKind} {a b c d : Int} (h : a = b) (h' : c = d) : Ending.returned (.tuple #[.int k a, .int l c]) = .returned (.tuple #[.int k b, .int l d]) := by rw [h, h']

set_option maxHeartbeats 2000000 in
theorem div64_small (l y : Nat) (w : World) (hl : l < 18446744073709551616) (hy0 : 0 < y) (hy : y < 18446744073709551616) :
    Calls Tryd.prog 71 #[.int .u64 0, .int .u64 l, .int .u64 y] w fun e w' => e = .returned (.tuple #[.int .u64 (l / y : Nat), .int .u64 (l % y : Nat)]) ∧ Rel w w' := by
  have c1 : ((y : Int) == 0) = false := by simp; omega
  have c2 : (0 : Int) < y := by omega
  have c3 : decide ((y : Int) ≤ 0) = false := by simp; omega
  have hmod := nmod_cast l y
  have hdiv : Int.tdiv (l : Int) (y : Int) = ((l / y : Nat) : Int) := by rw [Int.tdiv_eq_ediv_of_nonneg (by omega)]; rfl
  have hdl : l / y ≤ l := Nat.div_le_self _ _
  have hwr : IntKind.u64.wrap ((l / y : Nat) : Int) = ((l / y : Nat) : Int) := by generalize l / y = q at *; exact IntWalk.u64_in _ ⟨by omega, by omega⟩
  clear hdl
  go_enter Tryd.func71, Tryd.ntmps71
  go_wp2
  refine wp_region_calm (fun _ _ => True) (fun _ => false) [0, 1, 2, 3, 4, 5, 6, 7] 0 (by kernel_rfl) (by kernel_rfl) (fun _ _ _ _ _ => trivial) trivial (fun w0 h0 => ?_)
  iterate 8
    first
      | (refine wpCalm_no rfl rfl (fun K hK => hK _ ?_); clear hK K)
      | (refine wpCalm_go rfl rfl (fun K hK => ?_)
         apply Exists.intro
         refine ⟨fun M w hM hS => ?_, hK _ ?_⟩
         · unfold calmAt
           go_simp
           exact ⟨rfl, Rel.refl _⟩
         clear hK K)
  refine wpCalm_nil (wpAnyR_end (by kernel_rfl) (fun w1 h1 => ?_))
  simp only [Act.put, List.setIfInBounds_toArray, List.set_cons_zero, List.set_cons_succ]
  go_wp2
  go_ret2
  exact ⟨ret_uu hwr rfl, h0.trans h1⟩

-- BEGIN div64_core (gen_div.py)
set_option maxHeartbeats 8000000 in
theorem div64_core (h l y s Y v1 v0 U D u1 u0 qa Pa ra Q1 V qb Pb rb Q2 R N0 N1 : Nat) (w : World) (h0 : 0 < h) (hh : h < y) (hy : y < 18446744073709551616)
    (hs : 64 - (Lib.bitLen y : Int) = s) (hs0 : s ≤ 63) (hY : (y : Int) * 2 ^ s = Y) (hY2 : Y < 18446744073709551616) (hv1 : (Y : Int) / 4294967296 = v1) (hv1p : 2147483648 ≤ v1) (hv1q : v1 < 4294967296)
    (hv0 : bits .and .u64 (Y : Int) 4294967295 = v0) (hv : Hid (v1 = Y / 4294967296 ∧ v0 = Y % 4294967296 ∧ v0 < 4294967296 ∧ True))
    (hU : bits .or .u64 (IntKind.u64.wrap ((h : Int) * 2 ^ s)) ((l : Int) / 2 ^ (64 - s)) = U) (hU2 : U < 18446744073709551616) (hD : IntKind.u64.wrap ((l : Int) * 2 ^ s) = D)
    (hu1 : (D : Int) / 4294967296 = u1) (hu12 : u1 < 4294967296) (hu0 : bits .and .u64 (D : Int) 4294967295 = u0) (hu02 : u0 < 4294967296)
    (hqa : (U : Int) / v1 = qa) (hPa : (qa : Int) * v1 = Pa) (hPa2 : Pa ≤ U) (hra : (U : Int) - Pa = ra) (hra2 : ra < 4294967296) (hqa2 : qa ≤ 4294967298) (hqar : Hid (qa * v1 + ra = U)) (hqaQ : Hid (Q1 ≤ qa))
    (hA : Hid (U < Y ∧ Q1 = (U * 4294967296 + u1) / Y ∧ u1 < 4294967296)) (hQ1lt : Q1 < 4294967296)
    (hV : Hid (IntKind.u64.wrap (IntKind.u64.wrap (IntKind.u64.wrap ((U : Int) * 4294967296) + u1) - IntKind.u64.wrap ((Q1 : Int) * Y)) = V)) (hV2 : V < 18446744073709551616)
    (hqb' : (V : Int) / v1 = qb) (hPb : (qb : Int) * v1 = Pb) (hPb2 : Pb ≤ V) (hrb' : (V : Int) - Pb = rb) (hrb : rb < 4294967296) (hqb : qb ≤ 4294967298) (hqbr : Hid (qb * v1 + rb = V)) (hqbQ : Hid (Q2 ≤ qb))
    (hB : Hid (V < Y ∧ Q2 = (V * 4294967296 + u0) / Y ∧ u0 < 4294967296)) (hQ2lt : Q2 < 4294967296)
    (hR : Hid (IntKind.u64.wrap (IntKind.u64.wrap (IntKind.u64.wrap ((V : Int) * 4294967296) + u0) - IntKind.u64.wrap ((Q2 : Int) * Y)) = R))
    (hres : Hid ((Q1 : Int) * 4294967296 + Q2 = N0 ∧ (R : Int) / 2 ^ s = N1)) :
    Calls Tryd.prog 71 #[.int .u64 h, .int .u64 l, .int .u64 y] w fun e w' => e = .returned (.tuple #[.int .u64 N0, .int .u64 N1]) ∧ Rel w w' := by
  have c1 : ((y : Int) == 0) = false := by simp; omega
  have c3 : decide ((y : Int) ≤ h) = false := by simp; omega
  have c4 : ((h : Int) == 0) = false := by simp; omega
  have m1 : min s 64 = s := by omega
  have HS := Lib.hid hs
  clear hs
  go_enter Tryd.func71, Tryd.ntmps71
  go_wp2_with (go_at_call 77; refine (Tryd.bits_LeadingZeros64 _ _ (by omega) (by omega)).mono ?_; rw [show (y : Int).toNat = y from rfl, HS.out]; rintro e w1 ⟨rfl, rfl⟩)
  go_loop [15, 16] (fun a b => ∃ q r : Nat, a = .int .u64 q ∧ b = .int .u64 r ∧ r < 4294967296 ∧ q ≤ 4294967298 ∧ Hid (q * v1 + r = U) ∧ Hid (Q1 ≤ q)) (fun a _ => (intOf a).toNat)
  case atStart => exact ⟨qa, ra, rfl, rfl, hra2, hqa2, hqar, hqaQ⟩
  case round =>
    obtain ⟨q, r, rfl, rfl, hr32, hq32, hqr, hqQ⟩ := hrel
    by_cases hbig : 4294967296 ≤ q ∨ 4294967296 * r + u1 < q * v0
    · have hgt := Lib.hid (Dv.est_yes (u1 := u1) hA.out.1 hA.out.2.2 (by rw [← hv.out.1]; exact hqr.out) (by rw [← hv.out.2.1]; exact hbig))
      obtain ⟨k, rfl⟩ : ∃ k, q = k + 1 := ⟨q - 1, by have := hgt.out; rw [← hA.out.2.1] at this; omega⟩
      have hkr := Lib.hid (show k * v1 + (r + v1) = U from Dv.est_step hqr.out (by omega))
      have hkQ := Lib.hid (show Q1 ≤ k by have := hgt.out; rw [← hA.out.2.1] at this; omega)
      have hprod : k + 1 < 4294967296 → (((k : Int) + 1) * v0 = (((k + 1) * v0 : Nat) : Int) ∧ (k + 1) * v0 < 18446744073709551616) := fun hk => ⟨by rw [Int.natCast_mul]; rfl, Dv.est_prod hk hv.out.2.2.1⟩
      by_cases hk1 : 4294967296 ≤ k + 1
      · clear hprod hbig hqr hgt
        have hki : ¬ ((k : Int) + 1 < 4294967296) := by omega
        have hkj : decide (4294967296 ≤ (k : Int) + 1) = true := by simp; omega
        by_cases hbr : 4294967296 ≤ r + v1
        · have hk := Lib.hid (show k = Q1 by rw [hA.out.2.1]; exact Dv.est_break (u1 := u1) hA.out.1 (by rw [← hv.out.1]; exact hkr.out) (by rw [← hA.out.2.1]; exact hkQ.out) (by omega) hbr)
          have hkb : ¬ ((r : Int) + v1 < 4294967296) := by omega
          have hkc : decide (4294967296 ≤ (r : Int) + v1) = true := by simp; omega
          have hk1st := hk
          clear hk
          have hVq : IntKind.u64.wrap (IntKind.u64.wrap (IntKind.u64.wrap ((U : Int) * 4294967296) + u1) - IntKind.u64.wrap ((k : Int) * Y)) = V := by rw [hk1st.out]; exact hV.out
          have hQ1 : k < 4294967296 := by rw [hk1st.out]; exact hQ1lt
          go_wp2
          go_loop [18, 16] (fun a b => ∃ q2 r2 : Nat, a = .int .u64 q2 ∧ b = .int .u64 r2 ∧ r2 < 4294967296 ∧ q2 ≤ 4294967298 ∧ Hid (q2 * v1 + r2 = V) ∧ Hid (Q2 ≤ q2)) (fun a _ => (intOf a).toNat)
          case atStart => exact ⟨qb, rb, rfl, rfl, hrb, hqb, hqbr, hqbQ⟩
          case round =>
            obtain ⟨q2, r2, rfl, rfl, hr322, hq322, hqr2, hqQ2⟩ := hrel
            by_cases hbig2 : 4294967296 ≤ q2 ∨ 4294967296 * r2 + u0 < q2 * v0
            · have hgt2 := Lib.hid (Dv.est_yes (u1 := u0) hB.out.1 hB.out.2.2 (by rw [← hv.out.1]; exact hqr2.out) (by rw [← hv.out.2.1]; exact hbig2))
              obtain ⟨k2, rfl⟩ : ∃ k2, q2 = k2 + 1 := ⟨q2 - 1, by have := hgt2.out; rw [← hB.out.2.1] at this; omega⟩
              have hkr2 := Lib.hid (show k2 * v1 + (r2 + v1) = V from Dv.est_step hqr2.out (by omega))
              have hkQ2 := Lib.hid (show Q2 ≤ k2 by have := hgt2.out; rw [← hB.out.2.1] at this; omega)
              have hprod2 : k2 + 1 < 4294967296 → (((k2 : Int) + 1) * v0 = (((k2 + 1) * v0 : Nat) : Int) ∧ (k2 + 1) * v0 < 18446744073709551616) := fun hk => ⟨by rw [Int.natCast_mul]; rfl, Dv.est_prod hk hv.out.2.2.1⟩
              by_cases hk12 : 4294967296 ≤ k2 + 1
              · clear hprod2 hbig2 hqr2 hgt2
                have hki2 : ¬ ((k2 : Int) + 1 < 4294967296) := by omega
                have hkj2 : decide (4294967296 ≤ (k2 : Int) + 1) = true := by simp; omega
                by_cases hbr2 : 4294967296 ≤ r2 + v1
                · have hk := Lib.hid (show k2 = Q2 by rw [hB.out.2.1]; exact Dv.est_break (u1 := u0) hB.out.1 (by rw [← hv.out.1]; exact hkr2.out) (by rw [← hB.out.2.1]; exact hkQ2.out) (by omega) hbr2)
                  have hkb2 : ¬ ((r2 : Int) + v1 < 4294967296) := by omega
                  have hkc2 : decide (4294967296 ≤ (r2 : Int) + v1) = true := by simp; omega
                  have hRq : IntKind.u64.wrap (IntKind.u64.wrap (IntKind.u64.wrap ((V : Int) * 4294967296) + u0) - IntKind.u64.wrap ((k2 : Int) * Y)) = R := by rw [hk.out]; exact hR.out
                  have hQ2 : k2 < 4294967296 := by rw [hk.out]; exact hQ2lt
                  go_wp2
                  go_ret2
                  exact ⟨ret_uu (by rw [hk1st.out, hk.out]; exact hres.out.1) hres.out.2, Rel.refl _⟩
                · have hkb2 : ((r2 : Int) + v1 < 4294967296) := by omega
                  have hkc2 : decide (4294967296 ≤ (r2 : Int) + v1) = false := by simp; omega
                  go_wp2
                  go_round
                  case rel => exact ⟨k2, r2 + v1, by go_num, by go_num, by omega, by omega, hkr2, hkQ2⟩
                  case measure => simp [intOf] <;> omega
              · obtain ⟨hp12, hp22⟩ := hprod2 (by omega)
                generalize (k2 + 1) * v0 = X2 at *
                have hX2 : 4294967296 * r2 + u0 < X2 := by omega
                clear hprod2 hbig2 hqr2 hgt2
                have hki2 : ((k2 : Int) + 1 < 4294967296) := by omega
                have hkj2 : decide (4294967296 ≤ (k2 : Int) + 1) = false := by simp; omega
                have hkx2 : decide ((4294967296 : Int) * r2 + u0 < X2) = true := by simp; omega
                by_cases hbr2 : 4294967296 ≤ r2 + v1
                · have hk := Lib.hid (show k2 = Q2 by rw [hB.out.2.1]; exact Dv.est_break (u1 := u0) hB.out.1 (by rw [← hv.out.1]; exact hkr2.out) (by rw [← hB.out.2.1]; exact hkQ2.out) (by omega) hbr2)
                  have hkb2 : ¬ ((r2 : Int) + v1 < 4294967296) := by omega
                  have hkc2 : decide (4294967296 ≤ (r2 : Int) + v1) = true := by simp; omega
                  have hRq : IntKind.u64.wrap (IntKind.u64.wrap (IntKind.u64.wrap ((V : Int) * 4294967296) + u0) - IntKind.u64.wrap ((k2 : Int) * Y)) = R := by rw [hk.out]; exact hR.out
                  have hQ2 : k2 < 4294967296 := by rw [hk.out]; exact hQ2lt
                  go_wp2
                  go_ret2
                  exact ⟨ret_uu (by rw [hk1st.out, hk.out]; exact hres.out.1) hres.out.2, Rel.refl _⟩
                · have hkb2 : ((r2 : Int) + v1 < 4294967296) := by omega
                  have hkc2 : decide (4294967296 ≤ (r2 : Int) + v1) = false := by simp; omega
                  go_wp2
                  go_round
                  case rel => exact ⟨k2, r2 + v1, by go_num, by go_num, by omega, by omega, hkr2, hkQ2⟩
                  case measure => simp [intOf] <;> omega
            · have hk12 : q2 < 4294967296 := by omega
              have hp12 : (q2 : Int) * v0 = ((q2 * v0 : Nat) : Int) := by rw [Int.natCast_mul]
              have hp22 := Dv.est_prod hk12 hv.out.2.2.1
              have hle2 : q2 * v0 ≤ 4294967296 * r2 + u0 := by omega
              have hk := Lib.hid (show q2 = Q2 by rw [hB.out.2.1]; exact Dv.est_no (u1 := u0) hB.out.1 (by rw [← hv.out.1]; exact hqr2.out) (by rw [← hB.out.2.1]; exact hqQ2.out) (by rw [← hv.out.2.1]; exact hle2))
              clear hbig2
              generalize q2 * v0 = X2 at *
              have hki2 : ((q2 : Int) < 4294967296) := by omega
              have hkj2 : decide (4294967296 ≤ (q2 : Int)) = false := by simp; omega
              have hkx2 : decide ((4294967296 : Int) * r2 + u0 < X2) = false := by simp; omega
              have hRq : IntKind.u64.wrap (IntKind.u64.wrap (IntKind.u64.wrap ((V : Int) * 4294967296) + u0) - IntKind.u64.wrap ((q2 : Int) * Y)) = R := by rw [hk.out]; exact hR.out
              have hQ2 : q2 < 4294967296 := by rw [hk.out]; exact hQ2lt
              go_wp2
              go_ret2
              exact ⟨ret_uu (by rw [hk1st.out, hk.out]; exact hres.out.1) hres.out.2, Rel.refl _⟩
        · have hkb : ((r : Int) + v1 < 4294967296) := by omega
          have hkc : decide (4294967296 ≤ (r : Int) + v1) = false := by simp; omega
          go_wp2
          go_round
          case rel => exact ⟨k, r + v1, by go_num, by go_num, by omega, by omega, hkr, hkQ⟩
          case measure => simp [intOf] <;> omega
      · obtain ⟨hp1, hp2⟩ := hprod (by omega)
        generalize (k + 1) * v0 = X at *
        have hX : 4294967296 * r + u1 < X := by omega
        clear hprod hbig hqr hgt
        have hki : ((k : Int) + 1 < 4294967296) := by omega
        have hkj : decide (4294967296 ≤ (k : Int) + 1) = false := by simp; omega
        have hkx : decide ((4294967296 : Int) * r + u1 < X) = true := by simp; omega
        by_cases hbr : 4294967296 ≤ r + v1
        · have hk := Lib.hid (show k = Q1 by rw [hA.out.2.1]; exact Dv.est_break (u1 := u1) hA.out.1 (by rw [← hv.out.1]; exact hkr.out) (by rw [← hA.out.2.1]; exact hkQ.out) (by omega) hbr)
          have hkb : ¬ ((r : Int) + v1 < 4294967296) := by omega
          have hkc : decide (4294967296 ≤ (r : Int) + v1) = true := by simp; omega
          have hk1st := hk
          clear hk
          have hVq : IntKind.u64.wrap (IntKind.u64.wrap (IntKind.u64.wrap ((U : Int) * 4294967296) + u1) - IntKind.u64.wrap ((k : Int) * Y)) = V := by rw [hk1st.out]; exact hV.out
          have hQ1 : k < 4294967296 := by rw [hk1st.out]; exact hQ1lt
          go_wp2
          go_loop [18, 16] (fun a b => ∃ q2 r2 : Nat, a = .int .u64 q2 ∧ b = .int .u64 r2 ∧ r2 < 4294967296 ∧ q2 ≤ 4294967298 ∧ Hid (q2 * v1 + r2 = V) ∧ Hid (Q2 ≤ q2)) (fun a _ => (intOf a).toNat)
          case atStart => exact ⟨qb, rb, rfl, rfl, hrb, hqb, hqbr, hqbQ⟩
          case round =>
            obtain ⟨q2, r2, rfl, rfl, hr322, hq322, hqr2, hqQ2⟩ := hrel
            by_cases hbig2 : 4294967296 ≤ q2 ∨ 4294967296 * r2 + u0 < q2 * v0
            · have hgt2 := Lib.hid (Dv.est_yes (u1 := u0) hB.out.1 hB.out.2.2 (by rw [← hv.out.1]; exact hqr2.out) (by rw [← hv.out.2.1]; exact hbig2))
              obtain ⟨k2, rfl⟩ : ∃ k2, q2 = k2 + 1 := ⟨q2 - 1, by have := hgt2.out; rw [← hB.out.2.1] at this; omega⟩
              have hkr2 := Lib.hid (show k2 * v1 + (r2 + v1) = V from Dv.est_step hqr2.out (by omega))
              have hkQ2 := Lib.hid (show Q2 ≤ k2 by have := hgt2.out; rw [← hB.out.2.1] at this; omega)
              have hprod2 : k2 + 1 < 4294967296 → (((k2 : Int) + 1) * v0 = (((k2 + 1) * v0 : Nat) : Int) ∧ (k2 + 1) * v0 < 18446744073709551616) := fun hk => ⟨by rw [Int.natCast_mul]; rfl, Dv.est_prod hk hv.out.2.2.1⟩
              by_cases hk12 : 4294967296 ≤ k2 + 1
              · clear hprod2 hbig2 hqr2 hgt2
                have hki2 : ¬ ((k2 : Int) + 1 < 4294967296) := by omega
                have hkj2 : decide (4294967296 ≤ (k2 : Int) + 1) = true := by simp; omega
                by_cases hbr2 : 4294967296 ≤ r2 + v1
                · have hk := Lib.hid (show k2 = Q2 by rw [hB.out.2.1]; exact Dv.est_break (u1 := u0) hB.out.1 (by rw [← hv.out.1]; exact hkr2.out) (by rw [← hB.out.2.1]; exact hkQ2.out) (by omega) hbr2)
                  have hkb2 : ¬ ((r2 : Int) + v1 < 4294967296) := by omega
                  have hkc2 : decide (4294967296 ≤ (r2 : Int) + v1) = true := by simp; omega
                  have hRq : IntKind.u64.wrap (IntKind.u64.wrap (IntKind.u64.wrap ((V : Int) * 4294967296) + u0) - IntKind.u64.wrap ((k2 : Int) * Y)) = R := by rw [hk.out]; exact hR.out
                  have hQ2 : k2 < 4294967296 := by rw [hk.out]; exact hQ2lt
                  go_wp2
                  go_ret2
                  exact ⟨ret_uu (by rw [hk1st.out, hk.out]; exact hres.out.1) hres.out.2, Rel.refl _⟩
                · have hkb2 : ((r2 : Int) + v1 < 4294967296) := by omega
                  have hkc2 : decide (4294967296 ≤ (r2 : Int) + v1) = false := by simp; omega
                  go_wp2
                  go_round
                  case rel => exact ⟨k2, r2 + v1, by go_num, by go_num, by omega, by omega, hkr2, hkQ2⟩
                  case measure => simp [intOf] <;> omega
              · obtain ⟨hp12, hp22⟩ := hprod2 (by omega)
                generalize (k2 + 1) * v0 = X2 at *
                have hX2 : 4294967296 * r2 + u0 < X2 := by omega
                clear hprod2 hbig2 hqr2 hgt2
                have hki2 : ((k2 : Int) + 1 < 4294967296) := by omega
                have hkj2 : decide (4294967296 ≤ (k2 : Int) + 1) = false := by simp; omega
                have hkx2 : decide ((4294967296 : Int) * r2 + u0 < X2) = true := by simp; omega
                by_cases hbr2 : 4294967296 ≤ r2 + v1
                · have hk := Lib.hid (show k2 = Q2 by rw [hB.out.2.1]; exact Dv.est_break (u1 := u0) hB.out.1 (by rw [← hv.out.1]; exact hkr2.out) (by rw [← hB.out.2.1]; exact hkQ2.out) (by omega) hbr2)
                  have hkb2 : ¬ ((r2 : Int) + v1 < 4294967296) := by omega
                  have hkc2 : decide (4294967296 ≤ (r2 : Int) + v1) = true := by simp; omega
                  have hRq : IntKind.u64.wrap (IntKind.u64.wrap (IntKind.u64.wrap ((V : Int) * 4294967296) + u0) - IntKind.u64.wrap ((k2 : Int) * Y)) = R := by rw [hk.out]; exact hR.out
                  have hQ2 : k2 < 4294967296 := by rw [hk.out]; exact hQ2lt
                  go_wp2
                  go_ret2
                  exact ⟨ret_uu (by rw [hk1st.out, hk.out]; exact hres.out.1) hres.out.2, Rel.refl _⟩
                · have hkb2 : ((r2 : Int) + v1 < 4294967296) := by omega
                  have hkc2 : decide (4294967296 ≤ (r2 : Int) + v1) = false := by simp; omega
                  go_wp2
                  go_round
                  case rel => exact ⟨k2, r2 + v1, by go_num, by go_num, by omega, by omega, hkr2, hkQ2⟩
                  case measure => simp [intOf] <;> omega
            · have hk12 : q2 < 4294967296 := by omega
              have hp12 : (q2 : Int) * v0 = ((q2 * v0 : Nat) : Int) := by rw [Int.natCast_mul]
              have hp22 := Dv.est_prod hk12 hv.out.2.2.1
              have hle2 : q2 * v0 ≤ 4294967296 * r2 + u0 := by omega
              have hk := Lib.hid (show q2 = Q2 by rw [hB.out.2.1]; exact Dv.est_no (u1 := u0) hB.out.1 (by rw [← hv.out.1]; exact hqr2.out) (by rw [← hB.out.2.1]; exact hqQ2.out) (by rw [← hv.out.2.1]; exact hle2))
              clear hbig2
              generalize q2 * v0 = X2 at *
              have hki2 : ((q2 : Int) < 4294967296) := by omega
              have hkj2 : decide (4294967296 ≤ (q2 : Int)) = false := by simp; omega
              have hkx2 : decide ((4294967296 : Int) * r2 + u0 < X2) = false := by simp; omega
              have hRq : IntKind.u64.wrap (IntKind.u64.wrap (IntKind.u64.wrap ((V : Int) * 4294967296) + u0) - IntKind.u64.wrap ((q2 : Int) * Y)) = R := by rw [hk.out]; exact hR.out
              have hQ2 : q2 < 4294967296 := by rw [hk.out]; exact hQ2lt
              go_wp2
              go_ret2
              exact ⟨ret_uu (by rw [hk1st.out, hk.out]; exact hres.out.1) hres.out.2, Rel.refl _⟩
        · have hkb : ((r : Int) + v1 < 4294967296) := by omega
          have hkc : decide (4294967296 ≤ (r : Int) + v1) = false := by simp; omega
          go_wp2
          go_round
          case rel => exact ⟨k, r + v1, by go_num, by go_num, by omega, by omega, hkr, hkQ⟩
          case measure => simp [intOf] <;> omega
    · have hk1 : q < 4294967296 := by omega
      have hp1 : (q : Int) * v0 = ((q * v0 : Nat) : Int) := by rw [Int.natCast_mul]
      have hp2 := Dv.est_prod hk1 hv.out.2.2.1
      have hle : q * v0 ≤ 4294967296 * r + u1 := by omega
      have hk := Lib.hid (show q = Q1 by rw [hA.out.2.1]; exact Dv.est_no (u1 := u1) hA.out.1 (by rw [← hv.out.1]; exact hqr.out) (by rw [← hA.out.2.1]; exact hqQ.out) (by rw [← hv.out.2.1]; exact hle))
      clear hbig
      generalize q * v0 = X at *
      have hki : ((q : Int) < 4294967296) := by omega
      have hkj : decide (4294967296 ≤ (q : Int)) = false := by simp; omega
      have hkx : decide ((4294967296 : Int) * r + u1 < X) = false := by simp; omega
      have hk1st := hk
      clear hk
      have hVq : IntKind.u64.wrap (IntKind.u64.wrap (IntKind.u64.wrap ((U : Int) * 4294967296) + u1) - IntKind.u64.wrap ((q : Int) * Y)) = V := by rw [hk1st.out]; exact hV.out
      have hQ1 : q < 4294967296 := by rw [hk1st.out]; exact hQ1lt
      go_wp2
      go_loop [18, 16] (fun a b => ∃ q2 r2 : Nat, a = .int .u64 q2 ∧ b = .int .u64 r2 ∧ r2 < 4294967296 ∧ q2 ≤ 4294967298 ∧ Hid (q2 * v1 + r2 = V) ∧ Hid (Q2 ≤ q2)) (fun a _ => (intOf a).toNat)
      case atStart => exact ⟨qb, rb, rfl, rfl, hrb, hqb, hqbr, hqbQ⟩
      case round =>
        obtain ⟨q2, r2, rfl, rfl, hr322, hq322, hqr2, hqQ2⟩ := hrel
        by_cases hbig2 : 4294967296 ≤ q2 ∨ 4294967296 * r2 + u0 < q2 * v0
        · have hgt2 := Lib.hid (Dv.est_yes (u1 := u0) hB.out.1 hB.out.2.2 (by rw [← hv.out.1]; exact hqr2.out) (by rw [← hv.out.2.1]; exact hbig2))
          obtain ⟨k2, rfl⟩ : ∃ k2, q2 = k2 + 1 := ⟨q2 - 1, by have := hgt2.out; rw [← hB.out.2.1] at this; omega⟩
          have hkr2 := Lib.hid (show k2 * v1 + (r2 + v1) = V from Dv.est_step hqr2.out (by omega))
          have hkQ2 := Lib.hid (show Q2 ≤ k2 by have := hgt2.out; rw [← hB.out.2.1] at this; omega)
          have hprod2 : k2 + 1 < 4294967296 → (((k2 : Int) + 1) * v0 = (((k2 + 1) * v0 : Nat) : Int) ∧ (k2 + 1) * v0 < 18446744073709551616) := fun hk => ⟨by rw [Int.natCast_mul]; rfl, Dv.est_prod hk hv.out.2.2.1⟩
          by_cases hk12 : 4294967296 ≤ k2 + 1
          · clear hprod2 hbig2 hqr2 hgt2
            have hki2 : ¬ ((k2 : Int) + 1 < 4294967296) := by omega
            have hkj2 : decide (4294967296 ≤ (k2 : Int) + 1) = true := by simp; omega
            by_cases hbr2 : 4294967296 ≤ r2 + v1
            · have hk := Lib.hid (show k2 = Q2 by rw [hB.out.2.1]; exact Dv.est_break (u1 := u0) hB.out.1 (by rw [← hv.out.1]; exact hkr2.out) (by rw [← hB.out.2.1]; exact hkQ2.out) (by omega) hbr2)
              have hkb2 : ¬ ((r2 : Int) + v1 < 4294967296) := by omega
              have hkc2 : decide (4294967296 ≤ (r2 : Int) + v1) = true := by simp; omega
              have hRq : IntKind.u64.wrap (IntKind.u64.wrap (IntKind.u64.wrap ((V : Int) * 4294967296) + u0) - IntKind.u64.wrap ((k2 : Int) * Y)) = R := by rw [hk.out]; exact hR.out
              have hQ2 : k2 < 4294967296 := by rw [hk.out]; exact hQ2lt
              go_wp2
              go_ret2
              exact ⟨ret_uu (by rw [hk1st.out, hk.out]; exact hres.out.1) hres.out.2, Rel.refl _⟩
            · have hkb2 : ((r2 : Int) + v1 < 4294967296) := by omega
              have hkc2 : decide (4294967296 ≤ (r2 : Int) + v1) = false := by simp; omega
              go_wp2
              go_round
              case rel => exact ⟨k2, r2 + v1, by go_num, by go_num, by omega, by omega, hkr2, hkQ2⟩
              case measure => simp [intOf] <;> omega
          · obtain ⟨hp12, hp22⟩ := hprod2 (by omega)
            generalize (k2 + 1) * v0 = X2 at *
            have hX2 : 4294967296 * r2 + u0 < X2 := by omega
            clear hprod2 hbig2 hqr2 hgt2
            have hki2 : ((k2 : Int) + 1 < 4294967296) := by omega
            have hkj2 : decide (4294967296 ≤ (k2 : Int) + 1) = false := by simp; omega
            have hkx2 : decide ((4294967296 : Int) * r2 + u0 < X2) = true := by simp; omega
            by_cases hbr2 : 4294967296 ≤ r2 + v1
            · have hk := Lib.hid (show k2 = Q2 by rw [hB.out.2.1]; exact Dv.est_break (u1 := u0) hB.out.1 (by rw [← hv.out.1]; exact hkr2.out) (by rw [← hB.out.2.1]; exact hkQ2.out) (by omega) hbr2)
              have hkb2 : ¬ ((r2 : Int) + v1 < 4294967296) := by omega
              have hkc2 : decide (4294967296 ≤ (r2 : Int) + v1) = true := by simp; omega
              have hRq : IntKind.u64.wrap (IntKind.u64.wrap (IntKind.u64.wrap ((V : Int) * 4294967296) + u0) - IntKind.u64.wrap ((k2 : Int) * Y)) = R := by rw [hk.out]; exact hR.out
              have hQ2 : k2 < 4294967296 := by rw [hk.out]; exact hQ2lt
              go_wp2
              go_ret2
              exact ⟨ret_uu (by rw [hk1st.out, hk.out]; exact hres.out.1) hres.out.2, Rel.refl _⟩
            · have hkb2 : ((r2 : Int) + v1 < 4294967296) := by omega
              have hkc2 : decide (4294967296 ≤ (r2 : Int) + v1) = false := by simp; omega
              go_wp2
              go_round
              case rel => exact ⟨k2, r2 + v1, by go_num, by go_num, by omega, by omega, hkr2, hkQ2⟩
              case measure => simp [intOf] <;> omega
        · have hk12 : q2 < 4294967296 := by omega
          have hp12 : (q2 : Int) * v0 = ((q2 * v0 : Nat) : Int) := by rw [Int.natCast_mul]
          have hp22 := Dv.est_prod hk12 hv.out.2.2.1
          have hle2 : q2 * v0 ≤ 4294967296 * r2 + u0 := by omega
          have hk := Lib.hid (show q2 = Q2 by rw [hB.out.2.1]; exact Dv.est_no (u1 := u0) hB.out.1 (by rw [← hv.out.1]; exact hqr2.out) (by rw [← hB.out.2.1]; exact hqQ2.out) (by rw [← hv.out.2.1]; exact hle2))
          clear hbig2
          generalize q2 * v0 = X2 at *
          have hki2 : ((q2 : Int) < 4294967296) := by omega
          have hkj2 : decide (4294967296 ≤ (q2 : Int)) = false := by simp; omega
          have hkx2 : decide ((4294967296 : Int) * r2 + u0 < X2) = false := by simp; omega
          have hRq : IntKind.u64.wrap (IntKind.u64.wrap (IntKind.u64.wrap ((V : Int) * 4294967296) + u0) - IntKind.u64.wrap ((q2 : Int) * Y)) = R := by rw [hk.out]; exact hR.out
          have hQ2 : q2 < 4294967296 := by rw [hk.out]; exact hQ2lt
          go_wp2
          go_ret2
          exact ⟨ret_uu (by rw [hk1st.out, hk.out]; exact hres.out.1) hres.out.2, Rel.refl _⟩
-- END div64_core

end Go.Proofs.YtnhmebhmlbofgaaDoor

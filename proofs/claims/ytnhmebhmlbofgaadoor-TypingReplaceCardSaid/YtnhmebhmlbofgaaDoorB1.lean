/- Bundle of texts: each says at its head what it proves; no conditions but those printed. -/
import Derived.Test.YtnhmebhmlbofgaaDoorB0
import Derived.Lib.ItoaNum
import Derived.Test.YtnhmebhmlbofgaaDoorProg
import Derived.WalkKit
import Derived.WalkSpells
import Derived.WalkLawsBesides
import Derived.Lib.Hide
import Derived.Deep.QuietTactic
import Derived.BigQuiet
import Derived.Laws.BytesArg
import Derived.Laws.Concat
import Derived.Handy
/- Contracts of the library's Div64 and Rem64, and of the quotients of wide numbers. No conditions but those printed. -/
namespace Go.Proofs.YtnhmebhmlbofgaaDoor
open Go.RowKit Frac

attribute [local go_sem] calmUpon

theorem ret_uu {k l : IntKind} {a b c d : Int} (h : a = b) (h' : c = d) : Ending.returned (.tuple #[.int k a, .int l c]) = .returned (.tuple #[.int k b, .int l d]) := by rw [h, h']

set_option maxHeartbeats 2000000 in
theorem div64_small (l y : Nat) (w : World) (hl : l < 18446744073709551616) (hy0 : 0 < y) (hy : y < 18446744073709551616) :
    Calls Tryd.prog 71 #[.int .u64 0, .int .u64 l, .int .u64 y] w fun e w' => e = .returned (.tuple #[.int .u64 (l / y : Nat), .int .u64 (l % y : Nat)]) ∧ Rel w w' := by
  have c1 : ((y : Int) == 0) = false := by simp; omega
  have c2 : (0 : Int) < y := by omega
  have c3 : decide ((y : Int) ≤ 0) = false := by simp; omega
  have hmod := nmod_cast l y
  have hdiv : Int.tdiv (l : Int) (y : Int) = ((l / y : Nat) : Int) := by rw [Int.tdiv_eq_ediv_of_nonneg (by omega)]; rfl
  have hdl : l / y ≤ l := Nat.div_le_self _ _
  have hwr : IntKind.u64.wrap ((l / y : Nat) : Int) = ((l / y : Nat) : Int) := by generalize l / y = q at *; exact IntWalk.u64_in _ ⟨by omega, by omega⟩
  clear hdl
  go_enter Tryd.func71, Tryd.ntmps71
  go_wp2
  refine wp_region_calm (fun _ _ => True) (fun _ => false) [0, 1, 2, 3, 4, 5, 6, 7] 0 (by kernel_rfl) (by kernel_rfl) (fun _ _ _ _ _ => trivial) trivial (fun w0 h0 => ?_)
  iterate 8
    first
      | (refine wpCalm_no rfl rfl (fun K hK => hK _ ?_); clear hK K)
      | (refine wpCalm_go rfl rfl (fun K hK => ?_)
         apply Exists.intro
         refine ⟨fun M w hM hS => ?_, hK _ ?_⟩
         · unfold calmAt
           go_simp
           exact ⟨rfl, Rel.refl _⟩
         clear hK K)
  refine wpCalm_nil (wpAnyR_end (by kernel_rfl) (fun w1 h1 => ?_))
  simp only [Act.put, List.setIfInBounds_toArray, List.set_cons_zero, List.set_cons_succ]
  go_wp2
  go_ret2
  exact ⟨ret_uu hwr rfl, h0.trans h1⟩

-- BEGIN div64_core (gen_div.py)
set_option maxHeartbeats 8000000 in
theorem div64_core (h l y s Y v1 v0 U D u1 u0 qa Pa ra Q1 V qb Pb rb Q2 R N0 N1 : Nat) (w : World) (h0 : 0 < h) (hh : h < y) (hy : y < 18446744073709551616)
    (hs : 64 - (Lib.bitLen y : Int) = s) (hs0 : s ≤ 63) (hY : (y : Int) * 2 ^ s = Y) (hY2 : Y < 18446744073709551616) (hv1 : (Y : Int) / 4294967296 = v1) (hv1p : 2147483648 ≤ v1) (hv1q : v1 < 4294967296)
    (hv0 : bits .and .u64 (Y : Int) 4294967295 = v0) (hv : Hid (v1 = Y / 4294967296 ∧ v0 = Y % 4294967296 ∧ v0 < 4294967296 ∧ True))
    (hU : bits .or .u64 (IntKind.u64.wrap ((h : Int) * 2 ^ s)) ((l : Int) / 2 ^ (64 - s)) = U) (hU2 : U < 18446744073709551616) (hD : IntKind.u64.wrap ((l : Int) * 2 ^ s) = D)
    (hu1 : (D : Int) / 4294967296 = u1) (hu12 : u1 < 4294967296) (hu0 : bits .and .u64 (D : Int) 4294967295 = u0) (hu02 : u0 < 4294967296)
    (hqa : (U : Int) / v1 = qa) (hPa : (qa : Int) * v1 = Pa) (hPa2 : Pa ≤ U) (hra : (U : Int) - Pa = ra) (hra2 : ra < 4294967296) (hqa2 : qa ≤ 4294967298) (hqar : Hid (qa * v1 + ra = U)) (hqaQ : Hid (Q1 ≤ qa))
    (hA : Hid (U < Y ∧ Q1 = (U * 4294967296 + u1) / Y ∧ u1 < 4294967296)) (hQ1lt : Q1 < 4294967296)
    (hV : Hid (IntKind.u64.wrap (IntKind.u64.wrap (IntKind.u64.wrap ((U : Int) * 4294967296) + u1) - IntKind.u64.wrap ((Q1 : Int) * Y)) = V)) (hV2 : V < 18446744073709551616)
    (hqb' : (V : Int) / v1 = qb) (hPb : (qb : Int) * v1 = Pb) (hPb2 : Pb ≤ V) (hrb' : (V : Int) - Pb = rb) (hrb : rb < 4294967296) (hqb : qb ≤ 4294967298) (hqbr : Hid (qb * v1 + rb = V)) (hqbQ : Hid (Q2 ≤ qb))
    (hB : Hid (V < Y ∧ Q2 = (V * 4294967296 + u0) / Y ∧ u0 < 4294967296)) (hQ2lt : Q2 < 4294967296)
    (hR : Hid (IntKind.u64.wrap (IntKind.u64.wrap (IntKind.u64.wrap ((V : Int) * 4294967296) + u0) - IntKind.u64.wrap ((Q2 : Int) * Y)) = R))
    (hres : Hid ((Q1 : Int) * 4294967296 + Q2 = N0 ∧ (R : Int) / 2 ^ s = N1)) :
    Calls Tryd.prog 71 #[.int .u64 h, .int .u64 l, .int .u64 y] w fun e w' => e = .returned (.tuple #[.int .u64 N0, .int .u64 N1]) ∧ Rel w w' := by
  have c1 : ((y : Int) == 0) = false := by simp; omega
  have c3 : decide ((y : Int) ≤ h) = false := by simp; omega
  have c4 : ((h : Int) == 0) = false := by simp; omega
  have m1 : min s 64 = s := by omega
  have HS := Lib.hid hs
  clear hs
  go_enter Tryd.func71, Tryd.ntmps71
  go_wp2_with (go_at_call 77; refine (Tryd.bits_LeadingZeros64 _ _ (by omega) (by omega)).mono ?_; rw [show (y : Int).toNat = y from rfl, HS.out]; rintro e w1 ⟨rfl, rfl⟩)
  go_loop [15, 16] (fun a b => ∃ q r : Nat, a = .int .u64 q ∧ b = .int .u64 r ∧ r < 4294967296 ∧ q ≤ 4294967298 ∧ Hid (q * v1 + r = U) ∧ Hid (Q1 ≤ q)) (fun a _ => (intOf a).toNat)
  case atStart => exact ⟨qa, ra, rfl, rfl, hra2, hqa2, hqar, hqaQ⟩
  case round =>
    obtain ⟨q, r, rfl, rfl, hr32, hq32, hqr, hqQ⟩ := hrel
    by_cases hbig : 4294967296 ≤ q ∨ 4294967296 * r + u1 < q * v0
    · have hgt := Lib.hid (Dv.est_yes (u1 := u1) hA.out.1 hA.out.2.2 (by rw [← hv.out.1]; exact hqr.out) (by rw [← hv.out.2.1]; exact hbig))
      obtain ⟨k, rfl⟩ : ∃ k, q = k + 1 := ⟨q - 1, by have := hgt.out; rw [← hA.out.2.1] at this; omega⟩
      have hkr := Lib.hid (show k * v1 + (r + v1) = U from Dv.est_step hqr.out (by omega))
      have hkQ := Lib.hid (show Q1 ≤ k by have := hgt.out; rw [← hA.out.2.1] at this; omega)
      have hprod : k + 1 < 4294967296 → (((k : Int) + 1) * v0 = (((k + 1) * v0 : Nat) : Int) ∧ (k + 1) * v0 < 18446744073709551616) := fun hk => ⟨by rw [Int.natCast_mul]; rfl, Dv.est_prod hk hv.out.2.2.1⟩
      by_cases hk1 : 4294967296 ≤ k + 1
      · clear hprod hbig hqr hgt
        have hki : ¬ ((k : Int) + 1 < 4294967296) := by omega
        have hkj : decide (4294967296 ≤ (k : Int) + 1) = true := by simp; omega
        by_cases hbr : 4294967296 ≤ r + v1
        · have hk := Lib.hid (show k = Q1 by rw [hA.out.2.1]; exact Dv.est_break (u1 := u1) hA.out.1 (by rw [← hv.out.1]; exact hkr.out) (by rw [← hA.out.2.1]; exact hkQ.out) (by omega) hbr)
          have hkb : ¬ ((r : Int) + v1 < 4294967296) := by omega
          have hkc : decide (4294967296 ≤ (r : Int) + v1) = true := by simp; omega
          have hk1st := hk
          clear hk
          have hVq : IntKind.u64.wrap (IntKind.u64.wrap (IntKind.u64.wrap ((U : Int) * 4294967296) + u1) - IntKind.u64.wrap ((k : Int) * Y)) = V := by rw [hk1st.out]; exact hV.out
          have hQ1 : k < 4294967296 := by rw [hk1st.out]; exact hQ1lt
          go_wp2
          go_loop [18, 16] (fun a b => ∃ q2 r2 : Nat, a = .int .u64 q2 ∧ b = .int .u64 r2 ∧ r2 < 4294967296 ∧ q2 ≤ 4294967298 ∧ Hid (q2 * v1 + r2 = V) ∧ Hid (Q2 ≤ q2)) (fun a _ => (intOf a).toNat)
          case atStart => exact ⟨qb, rb, rfl, rfl, hrb, hqb, hqbr, hqbQ⟩
          case round =>
            obtain ⟨q2, r2, rfl, rfl, hr322, hq322, hqr2, hqQ2⟩ := hrel
            by_cases hbig2 : 4294967296 ≤ q2 ∨ 4294967296 * r2 + u0 < q2 * v0
            · have hgt2 := Lib.hid (Dv.est_yes (u1 := u0) hB.out.1 hB.out.2.2 (by rw [← hv.out.1]; exact hqr2.out) (by rw [← hv.out.2.1]; exact hbig2))
              obtain ⟨k2, rfl⟩ : ∃ k2, q2 = k2 + 1 := ⟨q2 - 1, by have := hgt2.out; rw [← hB.out.2.1] at this; omega⟩
              have hkr2 := Lib.hid (show k2 * v1 + (r2 + v1) = V from Dv.est_step hqr2.out (by omega))
              have hkQ2 := Lib.hid (show Q2 ≤ k2 by have := hgt2.out; rw [← hB.out.2.1] at this; omega)
              have hprod2 : k2 + 1 < 4294967296 → (((k2 : Int) + 1) * v0 = (((k2 + 1) * v0 : Nat) : Int) ∧ (k2 + 1) * v0 < 18446744073709551616) := fun hk => ⟨by rw [Int.natCast_mul]; rfl, Dv.est_prod hk hv.out.2.2.1⟩
              by_cases hk12 : 4294967296 ≤ k2 + 1
              · clear hprod2 hbig2 hqr2 hgt2
                have hki2 : ¬ ((k2 : Int) + 1 < 4294967296) := by omega
                have hkj2 : decide (4294967296 ≤ (k2 : Int) + 1) = true := by simp; omega
                by_cases hbr2 : 4294967296 ≤ r2 + v1
                · have hk := Lib.hid (show k2 = Q2 by rw [hB.out.2.1]; exact Dv.est_break (u1 := u0) hB.out.1 (by rw [← hv.out.1]; exact hkr2.out) (by rw [← hB.out.2.1]; exact hkQ2.out) (by omega) hbr2)
                  have hkb2 : ¬ ((r2 : Int) + v1 < 4294967296) := by omega
                  have hkc2 : decide (4294967296 ≤ (r2 : Int) + v1) = true := by simp; omega
                  have hRq : IntKind.u64.wrap (IntKind.u64.wrap (IntKind.u64.wrap ((V : Int) * 4294967296) + u0) - IntKind.u64.wrap ((k2 : Int) * Y)) = R := by rw [hk.out]; exact hR.out
                  have hQ2 : k2 < 4294967296 := by rw [hk.out]; exact hQ2lt
                  go_wp2
                  go_ret2
                  exact ⟨ret_uu (by rw [hk1st.out, hk.out]; exact hres.out.1) hres.out.2, Rel.refl _⟩
                · have hkb2 : ((r2 : Int) + v1 < 4294967296) := by omega
                  have hkc2 : decide (4294967296 ≤ (r2 : Int) + v1) = false := by simp; omega
                  go_wp2
                  go_round
                  case rel => exact ⟨k2, r2 + v1, by go_num, by go_num, by omega, by omega, hkr2, hkQ2⟩
                  case measure => simp [intOf] <;> omega
              · obtain ⟨hp12, hp22⟩ := hprod2 (by omega)
                generalize (k2 + 1) * v0 = X2 at *
                have hX2 : 4294967296 * r2 + u0 < X2 := by omega
                clear hprod2 hbig2 hqr2 hgt2
                have hki2 : ((k2 : Int) + 1 < 4294967296) := by omega
                have hkj2 : decide (4294967296 ≤ (k2 : Int) + 1) = false := by simp; omega
                have hkx2 : decide ((4294967296 : Int) * r2 + u0 < X2) = true := by simp; omega
                by_cases hbr2 : 4294967296 ≤ r2 + v1
                · have hk := Lib.hid (show k2 = Q2 by rw [hB.out.2.1]; exact Dv.est_break (u1 := u0) hB.out.1 (by rw [← hv.out.1]; exact hkr2.out) (by rw [← hB.out.2.1]; exact hkQ2.out) (by omega) hbr2)
                  have hkb2 : ¬ ((r2 : Int) + v1 < 4294967296) := by omega
                  have hkc2 : decide (4294967296 ≤ (r2 : Int) + v1) = true := by simp; omega
                  have hRq : IntKind.u64.wrap (IntKind.u64.wrap (IntKind.u64.wrap ((V : Int) * 4294967296) + u0) - IntKind.u64.wrap ((k2 : Int) * Y)) = R := by rw [hk.out]; exact hR.out
                  have hQ2 : k2 < 4294967296 := by rw [hk.out]; exact hQ2lt
                  go_wp2
                  go_ret2
                  exact ⟨ret_uu (by rw [hk1st.out, hk.out]; exact hres.out.1) hres.out.2, Rel.refl _⟩
                · have hkb2 : ((r2 : Int) + v1 < 4294967296) := by omega
                  have hkc2 : decide (4294967296 ≤ (r2 : Int) + v1) = false := by simp; omega
                  go_wp2
                  go_round
                  case rel => exact ⟨k2, r2 + v1, by go_num, by go_num, by omega, by omega, hkr2, hkQ2⟩
                  case measure => simp [intOf] <;> omega
            · have hk12 : q2 < 4294967296 := by omega
              have hp12 : (q2 : Int) * v0 = ((q2 * v0 : Nat) : Int) := by rw [Int.natCast_mul]
              have hp22 := Dv.est_prod hk12 hv.out.2.2.1
              have hle2 : q2 * v0 ≤ 4294967296 * r2 + u0 := by omega
              have hk := Lib.hid (show q2 = Q2 by rw [hB.out.2.1]; exact Dv.est_no (u1 := u0) hB.out.1 (by rw [← hv.out.1]; exact hqr2.out) (by rw [← hB.out.2.1]; exact hqQ2.out) (by rw [← hv.out.2.1]; exact hle2))
              clear hbig2
              generalize q2 * v0 = X2 at *
              have hki2 : ((q2 : Int) < 4294967296) := by omega
              have hkj2 : decide (4294967296 ≤ (q2 : Int)) = false := by simp; omega
              have hkx2 : decide ((4294967296 : Int) * r2 + u0 < X2) = false := by simp; omega
              have hRq : IntKind.u64.wrap (IntKind.u64.wrap (IntKind.u64.wrap ((V : Int) * 4294967296) + u0) - IntKind.u64.wrap ((q2 : Int) * Y)) = R := by rw [hk.out]; exact hR.out
              have hQ2 : q2 < 4294967296 := by rw [hk.out]; exact hQ2lt
              go_wp2
              go_ret2
              exact ⟨ret_uu (by rw [hk1st.out, hk.out]; exact hres.out.1) hres.out.2, Rel.refl _⟩
        · have hkb : ((r : Int) + v1 < 4294967296) := by omega
          have hkc : decide (4294967296 ≤ (r : Int) + v1) = false := by simp; omega
          go_wp2
          go_round
          case rel => exact ⟨k, r + v1, by go_num, by go_num, by omega, by omega, hkr, hkQ⟩
          case measure => simp [intOf] <;> omega
      · obtain ⟨hp1, hp2⟩ := hprod (by omega)
        generalize (k + 1) * v0 = X at *
        have hX : 4294967296 * r + u1 < X := by omega
        clear hprod hbig hqr hgt
        have hki : ((k : Int) + 1 < 4294967296) := by omega
        have hkj : decide (4294967296 ≤ (k : Int) + 1) = false := by simp; omega
        have hkx : decide ((4294967296 : Int) * r + u1 < X) = true := by simp; omega
        by_cases hbr : 4294967296 ≤ r + v1
        · have hk := Lib.hid (show k = Q1 by rw [hA.out.2.1]; exact Dv.est_break (u1 := u1) hA.out.1 (by rw [← hv.out.1]; exact hkr.out) (by rw [← hA.out.2.1]; exact hkQ.out) (by omega) hbr)
          have hkb : ¬ ((r : Int) + v1 < 4294967296) := by omega
          have hkc : decide (4294967296 ≤ (r : Int) + v1) = true := by simp; omega
          have hk1st := hk
          clear hk
          have hVq : IntKind.u64.wrap (IntKind.u64.wrap (IntKind.u64.wrap ((U : Int) * 4294967296) + u1) - IntKind.u64.wrap ((k : Int) * Y)) = V := by rw [hk1st.out]; exact hV.out
          have hQ1 : k < 4294967296 := by rw [hk1st.out]; exact hQ1lt
          go_wp2
          go_loop [18, 16] (fun a b => ∃ q2 r2 : Nat, a = .int .u64 q2 ∧ b = .int .u64 r2 ∧ r2 < 4294967296 ∧ q2 ≤ 4294967298 ∧ Hid (q2 * v1 + r2 = V) ∧ Hid (Q2 ≤ q2)) (fun a _ => (intOf a).toNat)
          case atStart => exact ⟨qb, rb, rfl, rfl, hrb, hqb, hqbr, hqbQ⟩
          case round =>
            obtain ⟨q2, r2, rfl, rfl, hr322, hq322, hqr2, hqQ2⟩ := hrel
            by_cases hbig2 : 4294967296 ≤ q2 ∨ 4294967296 * r2 + u0 < q2 * v0
            · have hgt2 := Lib.hid (Dv.est_yes (u1 := u0) hB.out.1 hB.out.2.2 (by rw [← hv.out.1]; exact hqr2.out) (by rw [← hv.out.2.1]; exact hbig2))
              obtain ⟨k2, rfl⟩ : ∃ k2, q2 = k2 + 1 := ⟨q2 - 1, by have := hgt2.out; rw [← hB.out.2.1] at this; omega⟩
              have hkr2 := Lib.hid (show k2 * v1 + (r2 + v1) = V from Dv.est_step hqr2.out (by omega))
              have hkQ2 := Lib.hid (show Q2 ≤ k2 by have := hgt2.out; rw [← hB.out.2.1] at this; omega)
              have hprod2 : k2 + 1 < 4294967296 → (((k2 : Int) + 1) * v0 = (((k2 + 1) * v0 : Nat) : Int) ∧ (k2 + 1) * v0 < 18446744073709551616) := fun hk => ⟨by rw [Int.natCast_mul]; rfl, Dv.est_prod hk hv.out.2.2.1⟩
              by_cases hk12 : 4294967296 ≤ k2 + 1
              · clear hprod2 hbig2 hqr2 hgt2
                have hki2 : ¬ ((k2 : Int) + 1 < 4294967296) := by omega
                have hkj2 : decide (4294967296 ≤ (k2 : Int) + 1) = true := by simp; omega
                by_cases hbr2 : 4294967296 ≤ r2 + v1
                · have hk := Lib.hid (show k2 = Q2 by rw [hB.out.2.1]; exact Dv.est_break (u1 := u0) hB.out.1 (by rw [← hv.out.1]; exact hkr2.out) (by rw [← hB.out.2.1]; exact hkQ2.out) (by omega) hbr2)
                  have hkb2 : ¬ ((r2 : Int) + v1 < 4294967296) := by omega
                  have hkc2 : decide (4294967296 ≤ (r2 : Int) + v1) = true := by simp; omega
                  have hRq : IntKind.u64.wrap (IntKind.u64.wrap (IntKind.u64.wrap ((V : Int) * 4294967296) + u0) - IntKind.u64.wrap ((k2 : Int) * Y)) = R := by rw [hk.out]; exact hR.out
                  have hQ2 : k2 < 4294967296 := by rw [hk.out]; exact hQ2lt
                  go_wp2
                  go_ret2
                  exact ⟨ret_uu (by rw [hk1st.out, hk.out]; exact hres.out.1) hres.out.2, Rel.refl _⟩
                · have hkb2 : ((r2 : Int) + v1 < 4294967296) := by omega
                  have hkc2 : decide (4294967296 ≤ (r2 : Int) + v1) = false := by simp; omega
                  go_wp2
                  go_round
                  case rel => exact ⟨k2, r2 + v1, by go_num, by go_num, by omega, by omega, hkr2, hkQ2⟩
                  case measure => simp [intOf] <;> omega
              · obtain ⟨hp12, hp22⟩ := hprod2 (by omega)
                generalize (k2 + 1) * v0 = X2 at *
                have hX2 : 4294967296 * r2 + u0 < X2 := by omega
                clear hprod2 hbig2 hqr2 hgt2
                have hki2 : ((k2 : Int) + 1 < 4294967296) := by omega
                have hkj2 : decide (4294967296 ≤ (k2 : Int) + 1) = false := by simp; omega
                have hkx2 : decide ((4294967296 : Int) * r2 + u0 < X2) = true := by simp; omega
                by_cases hbr2 : 4294967296 ≤ r2 + v1
                · have hk := Lib.hid (show k2 = Q2 by rw [hB.out.2.1]; exact Dv.est_break (u1 := u0) hB.out.1 (by rw [← hv.out.1]; exact hkr2.out) (by rw [← hB.out.2.1]; exact hkQ2.out) (by omega) hbr2)
                  have hkb2 : ¬ ((r2 : Int) + v1 < 4294967296) := by omega
                  have hkc2 : decide (4294967296 ≤ (r2 : Int) + v1) = true := by simp; omega
                  have hRq : IntKind.u64.wrap (IntKind.u64.wrap (IntKind.u64.wrap ((V : Int) * 4294967296) + u0) - IntKind.u64.wrap ((k2 : Int) * Y)) = R := by rw [hk.out]; exact hR.out
                  have hQ2 : k2 < 4294967296 := by rw [hk.out]; exact hQ2lt
                  go_wp2
                  go_ret2
                  exact ⟨ret_uu (by rw [hk1st.out, hk.out]; exact hres.out.1) hres.out.2, Rel.refl _⟩
                · have hkb2 : ((r2 : Int) + v1 < 4294967296) := by omega
                  have hkc2 : decide (4294967296 ≤ (r2 : Int) + v1) = false := by simp; omega
                  go_wp2
                  go_round
                  case rel => exact ⟨k2, r2 + v1, by go_num, by go_num, by omega, by omega, hkr2, hkQ2⟩
                  case measure => simp [intOf] <;> omega
            · have hk12 : q2 < 4294967296 := by omega
              have hp12 : (q2 : Int) * v0 = ((q2 * v0 : Nat) : Int) := by rw [Int.natCast_mul]
              have hp22 := Dv.est_prod hk12 hv.out.2.2.1
              have hle2 : q2 * v0 ≤ 4294967296 * r2 + u0 := by omega
              have hk := Lib.hid (show q2 = Q2 by rw [hB.out.2.1]; exact Dv.est_no (u1 := u0) hB.out.1 (by rw [← hv.out.1]; exact hqr2.out) (by rw [← hB.out.2.1]; exact hqQ2.out) (by rw [← hv.out.2.1]; exact hle2))
              clear hbig2
              generalize q2 * v0 = X2 at *
              have hki2 : ((q2 : Int) < 4294967296) := by omega
              have hkj2 : decide (4294967296 ≤ (q2 : Int)) = false := by simp; omega
              have hkx2 : decide ((4294967296 : Int) * r2 + u0 < X2) = false := by simp; omega
              have hRq : IntKind.u64.wrap (IntKind.u64.wrap (IntKind.u64.wrap ((V : Int) * 4294967296) + u0) - IntKind.u64.wrap ((q2 : Int) * Y)) = R := by rw [hk.out]; exact hR.out
              have hQ2 : q2 < 4294967296 := by rw [hk.out]; exact hQ2lt
              go_wp2
              go_ret2
              exact ⟨ret_uu (by rw [hk1st.out, hk.out]; exact hres.out.1) hres.out.2, Rel.refl _⟩
        · have hkb : ((r : Int) + v1 < 4294967296) := by omega
          have hkc : decide (4294967296 ≤ (r : Int) + v1) = false := by simp; omega
          go_wp2
          go_round
          case rel => exact ⟨k, r + v1, by go_num, by go_num, by omega, by omega, hkr, hkQ⟩
          case measure => simp [intOf] <;> omega
    · have hk1 : q < 4294967296 := by omega
      have hp1 : (q : Int) * v0 = ((q * v0 : Nat) : Int) := by rw [Int.natCast_mul]
      have hp2 := Dv.est_prod hk1 hv.out.2.2.1
      have hle : q * v0 ≤ 4294967296 * r + u1 := by omega
      have hk := Lib.hid (show q = Q1 by rw [hA.out.2.1]; exact Dv.est_no (u1 := u1) hA.out.1 (by rw [← hv.out.1]; exact hqr.out) (by rw [← hA.out.2.1]; exact hqQ.out) (by rw [← hv.out.2.1]; exact hle))
      clear hbig
      generalize q * v0 = X at *
      have hki : ((q : Int) < 4294967296) := by omega
      have hkj : decide (4294967296 ≤ (q : Int)) = false := by simp; omega
      have hkx : decide ((4294967296 : Int) * r + u1 < X) = false := by simp; omega
      have hk1st := hk
      clear hk
      have hVq : IntKind.u64.wrap (IntKind.u64.wrap (IntKind.u64.wrap ((U : Int) * 4294967296) + u1) - IntKind.u64.wrap ((q : Int) * Y)) = V := by rw [hk1st.out]; exact hV.out
      have hQ1 : q < 4294967296 := by rw [hk1st.out]; exact hQ1lt
      go_wp2
      go_loop [18, 16] (fun a b => ∃ q2 r2 : Nat, a = .int .u64 q2 ∧ b = .int .u64 r2 ∧ r2 < 4294967296 ∧ q2 ≤ 4294967298 ∧ Hid (q2 * v1 + r2 = V) ∧ Hid (Q2 ≤ q2)) (fun a _ => (intOf a).toNat)
      case atStart => exact ⟨qb, rb, rfl, rfl, hrb, hqb, hqbr, hqbQ⟩
      case round =>
        obtain ⟨q2, r2, rfl, rfl, hr322, hq322, hqr2, hqQ2⟩ := hrel
        by_cases hbig2 : 4294967296 ≤ q2 ∨ 4294967296 * r2 + u0 < q2 * v0
        · have hgt2 := Lib.hid (Dv.est_yes (u1 := u0) hB.out.1 hB.out.2.2 (by rw [← hv.out.1]; exact hqr2.out) (by rw [← hv.out.2.1]; exact hbig2))
          obtain ⟨k2, rfl⟩ : ∃ k2, q2 = k2 + 1 := ⟨q2 - 1, by have := hgt2.out; rw [← hB.out.2.1] at this; omega⟩
          have hkr2 := Lib.hid (show k2 * v1 + (r2 + v1) = V from Dv.est_step hqr2.out (by omega))
          have hkQ2 := Lib.hid (show Q2 ≤ k2 by have := hgt2.out; rw [← hB.out.2.1] at this; omega)
          have hprod2 : k2 + 1 < 4294967296 → (((k2 : Int) + 1) * v0 = (((k2 + 1) * v0 : Nat) : Int) ∧ (k2 + 1) * v0 < 18446744073709551616) := fun hk => ⟨by rw [Int.natCast_mul]; rfl, Dv.est_prod hk hv.out.2.2.1⟩
          by_cases hk12 : 4294967296 ≤ k2 + 1
          · clear hprod2 hbig2 hqr2 hgt2
            have hki2 : ¬ ((k2 : Int) + 1 < 4294967296) := by omega
            have hkj2 : decide (4294967296 ≤ (k2 : Int) + 1) = true := by simp; omega
            by_cases hbr2 : 4294967296 ≤ r2 + v1
            · have hk := Lib.hid (show k2 = Q2 by rw [hB.out.2.1]; exact Dv.est_break (u1 := u0) hB.out.1 (by rw [← hv.out.1]; exact hkr2.out) (by rw [← hB.out.2.1]; exact hkQ2.out) (by omega) hbr2)
              have hkb2 : ¬ ((r2 : Int) + v1 < 4294967296) := by omega
              have hkc2 : decide (4294967296 ≤ (r2 : Int) + v1) = true := by simp; omega
              have hRq : IntKind.u64.wrap (IntKind.u64.wrap (IntKind.u64.wrap ((V : Int) * 4294967296) + u0) - IntKind.u64.wrap ((k2 : Int) * Y)) = R := by rw [hk.out]; exact hR.out
              have hQ2 : k2 < 4294967296 := by rw [hk.out]; exact hQ2lt
              go_wp2
              go_ret2
              exact ⟨ret_uu (by rw [hk1st.out, hk.out]; exact hres.out.1) hres.out.2, Rel.refl _⟩
            · have hkb2 : ((r2 : Int) + v1 < 4294967296) := by omega
              have hkc2 : decide (4294967296 ≤ (r2 : Int) + v1) = false := by simp; omega
              go_wp2
              go_round
              case rel => exact ⟨k2, r2 + v1, by go_num, by go_num, by omega, by omega, hkr2, hkQ2⟩
              case measure => simp [intOf] <;> omega
          · obtain ⟨hp12, hp22⟩ := hprod2 (by omega)
            generalize (k2 + 1) * v0 = X2 at *
            have hX2 : 4294967296 * r2 + u0 < X2 := by omega
            clear hprod2 hbig2 hqr2 hgt2
            have hki2 : ((k2 : Int) + 1 < 4294967296) := by omega
            have hkj2 : decide (4294967296 ≤ (k2 : Int) + 1) = false := by simp; omega
            have hkx2 : decide ((4294967296 : Int) * r2 + u0 < X2) = true := by simp; omega
            by_cases hbr2 : 4294967296 ≤ r2 + v1
            · have hk := Lib.hid (show k2 = Q2 by rw [hB.out.2.1]; exact Dv.est_break (u1 := u0) hB.out.1 (by rw [← hv.out.1]; exact hkr2.out) (by rw [← hB.out.2.1]; exact hkQ2.out) (by omega) hbr2)
              have hkb2 : ¬ ((r2 : Int) + v1 < 4294967296) := by omega
              have hkc2 : decide (4294967296 ≤ (r2 : Int) + v1) = true := by simp; omega
              have hRq : IntKind.u64.wrap (IntKind.u64.wrap (IntKind.u64.wrap ((V : Int) * 4294967296) + u0) - IntKind.u64.wrap ((k2 : Int) * Y)) = R := by rw [hk.out]; exact hR.out
              have hQ2 : k2 < 4294967296 := by rw [hk.out]; exact hQ2lt
              go_wp2
              go_ret2
              exact ⟨ret_uu (by rw [hk1st.out, hk.out]; exact hres.out.1) hres.out.2, Rel.refl _⟩
            · have hkb2 : ((r2 : Int) + v1 < 4294967296) := by omega
              have hkc2 : decide (4294967296 ≤ (r2 : Int) + v1) = false := by simp; omega
              go_wp2
              go_round
              case rel => exact ⟨k2, r2 + v1, by go_num, by go_num, by omega, by omega, hkr2, hkQ2⟩
              case measure => simp [intOf] <;> omega
        · have hk12 : q2 < 4294967296 := by omega
          have hp12 : (q2 : Int) * v0 = ((q2 * v0 : Nat) : Int) := by rw [Int.natCast_mul]
          have hp22 := Dv.est_prod hk12 hv.out.2.2.1
          have hle2 : q2 * v0 ≤ 4294967296 * r2 + u0 := by omega
          have hk := Lib.hid (show q2 = Q2 by rw [hB.out.2.1]; exact Dv.est_no (u1 := u0) hB.out.1 (by rw [← hv.out.1]; exact hqr2.out) (by rw [← hB.out.2.1]; exact hqQ2.out) (by rw [← hv.out.2.1]; exact hle2))
          clear hbig2
          generalize q2 * v0 = X2 at *
          have hki2 : ((q2 : Int) < 4294967296) := by omega
          have hkj2 : decide (4294967296 ≤ (q2 : Int)) = false := by simp; omega
          have hkx2 : decide ((4294967296 : Int) * r2 + u0 < X2) = false := by simp; omega
          have hRq : IntKind.u64.wrap (IntKind.u64.wrap (IntKind.u64.wrap ((V : Int) * 4294967296) + u0) - IntKind.u64.wrap ((q2 : Int) * Y)) = R := by rw [hk.out]; exact hR.out
          have hQ2 : q2 < 4294967296 := by rw [hk.out]; exact hQ2lt
          go_wp2
          go_ret2
          exact ⟨ret_uu (by rw [hk1st.out, hk.out]; exact hres.out.1) hres.out.2, Rel.refl _⟩
-- END div64_core

end Go.Proofs.YtnhmebhmlbofgaaDoor

/- Plain arithmetic of the shift ahead of the division. No program in sight. -/
namespace Go.Proofs.YtnhmebhmlbofgaaDoor.Dv
open Go

theorem norm {y : Nat} (h0 : 0 < y) (h : y < 18446744073709551616) :
    ∃ s : Nat, s ≤ 63 ∧ 64 - (Lib.bitLen y : Int) = s ∧ 9223372036854775808 ≤ y * 2 ^ s ∧ y * 2 ^ s < 18446744073709551616 := by
  obtain ⟨a1, a2, a3⟩ := Lib.bitLenAux_bounds 64 y h (by omega)
  have a4 : Lib.bitLen y ≤ 64 := Lib.bitLen_le y 64 (by omega) h
  change 1 ≤ Lib.bitLen y at a1
  change 2 ^ (Lib.bitLen y - 1) ≤ y at a2
  change y < 2 ^ Lib.bitLen y at a3
  refine ⟨64 - Lib.bitLen y, by omega, by omega, ?_, ?_⟩
  · have e : 2 ^ (Lib.bitLen y - 1) * 2 ^ (64 - Lib.bitLen y) = 9223372036854775808 := by
      rw [← Nat.pow_add, show Lib.bitLen y - 1 + (64 - Lib.bitLen y) = 63 by omega]
    exact e ▸ Nat.mul_le_mul_right _ a2
  · have e : 2 ^ Lib.bitLen y * 2 ^ (64 - Lib.bitLen y) = 18446744073709551616 := by
      rw [← Nat.pow_add, show Lib.bitLen y + (64 - Lib.bitLen y) = 64 by omega]
    exact e ▸ Nat.mul_lt_mul_of_pos_right a3 (Nat.two_pow_pos _)

theorem top_lt {h l y s : Nat} (hh : h < y) (hl : l < 18446744073709551616) (hs : s ≤ 63) : l / 2 ^ (64 - s) < 2 ^ s ∧ h * 2 ^ s + l / 2 ^ (64 - s) < y * 2 ^ s := by
  have a : l / 2 ^ (64 - s) < 2 ^ s := by
    rw [Nat.div_lt_iff_lt_mul (Nat.two_pow_pos _), ← Nat.pow_add, show s + (64 - s) = 64 by omega]
    exact hl
  have b := Nat.mul_le_mul_right (2 ^ s) (show h + 1 ≤ y from hh)
  rw [Nat.add_mul] at b
  exact ⟨a, by omega⟩

end Go.Proofs.YtnhmebhmlbofgaaDoor.Dv

/- Contracts of Div64 and Rem64 in plain words. No conditions but those printed. -/
namespace Go.Proofs.YtnhmebhmlbofgaaDoor
open Go.RowKit Frac

theorem u64_nat {n : Nat} (h : n < 18446744073709551616) : IntKind.u64.wrap (n : Int) = n := IntWalk.u64_in _ ⟨by omega, by omega⟩

theorem div64_big {h l y s Y U D : Nat} {w : World} (hh : h < y) (hy : y < 18446744073709551616) (h0 : 0 < h) (hs : 64 - (Lib.bitLen y : Int) = s) (hs0 : s ≤ 63) (e1 : (y : Int) * 2 ^ s = Y)
    (hY1 : 9223372036854775808 ≤ Y) (hY2 : Y < 18446744073709551616) (hor : bits .or .u64 (IntKind.u64.wrap ((h : Int) * 2 ^ s)) ((l : Int) / 2 ^ (64 - s)) = U) (hw2 : IntKind.u64.wrap ((l : Int) * 2 ^ s) = D)
    (hUY : U < Y) (hD2 : D < 18446744073709551616) {N0 N1 : Nat} (r1 : N0 = (U * 4294967296 + D / 4294967296) / Y * 4294967296 + ((U * 4294967296 + D / 4294967296) % Y * 4294967296 + D % 4294967296) / Y)
    (r2 : N1 = ((U * 4294967296 + D / 4294967296) % Y * 4294967296 + D % 4294967296) % Y / 2 ^ s) :
    Calls Tryd.prog 71 #[.int .u64 h, .int .u64 l, .int .u64 y] w fun e w' => e = .returned (.tuple #[.int .u64 N0, .int .u64 N1]) ∧ Rel w w' := by
  obtain ⟨u1, hu1⟩ : ∃ u, D / 4294967296 = u := ⟨_, rfl⟩
  obtain ⟨u0, hu0⟩ : ∃ u, D % 4294967296 = u := ⟨_, rfl⟩
  have hu1' : (D : Int) / 4294967296 = u1 := by omega
  have hu0' : bits .and .u64 (D : Int) 4294967295 = u0 := by rw [Dv.and_mask hD2, hu0]
  have hu1b : u1 < 4294967296 := by omega
  have hu0b : u0 < 4294967296 := by omega
  rw [hu1, hu0] at r1 r2
  clear hu1 hu0 hD2
  have eA := Dv.est0 hUY hY1 hY2 hu1b
  have dA := Dv.dig_lt hUY hu1b
  have wA := Dv.rest_eq (u1 := u1) hUY hY2
  have hVY : (U * 4294967296 + u1) % Y < Y := Nat.mod_lt _ (by omega)
  obtain ⟨Q1, hQ1⟩ : ∃ q, (U * 4294967296 + u1) / Y = q := ⟨_, rfl⟩
  obtain ⟨V, hV⟩ : ∃ q, (U * 4294967296 + u1) % Y = q := ⟨_, rfl⟩
  rw [hQ1] at eA dA wA r1
  rw [hV] at wA r1 r2 hVY
  have eB := Dv.est0 hVY hY1 hY2 hu0b
  have dB := Dv.dig_lt hVY hu0b
  have wB := Dv.rest_eq (u1 := u0) hVY hY2
  obtain ⟨Q2, hQ2⟩ : ∃ q, (V * 4294967296 + u0) / Y = q := ⟨_, rfl⟩
  obtain ⟨R, hR⟩ : ∃ q, (V * 4294967296 + u0) % Y = q := ⟨_, rfl⟩
  rw [hQ2] at eB dB wB r1
  rw [hR] at wB r2
  obtain ⟨v1, hv1⟩ : ∃ v, Y / 4294967296 = v := ⟨_, rfl⟩
  have hv0 := Dv.and_mask hY2
  have hv1' : (Y : Int) / 4294967296 = v1 := by omega
  rw [hv1] at eA eB
  have hv1p : 2147483648 ≤ v1 := by omega
  have hv1q : v1 < 4294967296 := by omega
  have mA : U % v1 < v1 := Nat.mod_lt _ (by omega)
  have mB : V % v1 < v1 := Nat.mod_lt _ (by omega)
  have iA : (U : Int) / v1 = ((U / v1 : Nat) : Int) := rfl
  have iB : (V : Int) / v1 = ((V / v1 : Nat) : Int) := rfl
  obtain ⟨qa, hqa⟩ : ∃ q, U / v1 = q := ⟨_, rfl⟩
  obtain ⟨qb, hqb⟩ : ∃ q, V / v1 = q := ⟨_, rfl⟩
  obtain ⟨ra, hra⟩ : ∃ q, U % v1 = q := ⟨_, rfl⟩
  obtain ⟨rb, hrb⟩ : ∃ q, V % v1 = q := ⟨_, rfl⟩
  rw [hqa] at iA eA
  rw [hqb] at iB eB
  rw [hra] at mA eA
  rw [hrb] at mB eB
  obtain ⟨a1, a2, a3⟩ := eA
  obtain ⟨b1, b2, b3⟩ := eB
  have pA : (qa : Int) * v1 = ((qa * v1 : Nat) : Int) := rfl
  have pB : (qb : Int) * v1 = ((qb * v1 : Nat) : Int) := rfl
  refine div64_core h l y s Y v1 (Y % 4294967296) U D u1 u0 qa (qa * v1) ra Q1 V qb (qb * v1) rb Q2 R N0 N1 w h0 hh hy hs hs0 e1 hY2 hv1' hv1p hv1q hv0 (Lib.hid ⟨hv1.symm, rfl, by omega, trivial⟩)
    hor (by omega) hw2 hu1' hu1b hu0' hu0b iA pA (by omega) ?_ (by omega) a2 (Lib.hid a3) (Lib.hid a1) (Lib.hid ⟨hUY, hQ1.symm, hu1b⟩) dA (Lib.hid ?_) (by omega) iB pB (by omega) ?_ (by omega) b2 (Lib.hid b3) (Lib.hid b1)
    (Lib.hid ⟨hVY, hQ2.symm, hu0b⟩) dB (Lib.hid ?_) (Lib.hid ⟨?_, ?_⟩)
  · omega
  · simp only [IntKind.wrap_u64]; exact wA
  · omega
  · simp only [IntKind.wrap_u64]; exact wB
  · rw [r1]; rfl
  · rw [r2]; simp

theorem div64_any (h l y : Nat) (w : World) (hh : h < y) (hl : l < 18446744073709551616) (hy : y < 18446744073709551616) :
    Calls Tryd.prog 71 #[.int .u64 h, .int .u64 l, .int .u64 y] w fun e w' => e = .returned (.tuple #[.int .u64 ((h * 18446744073709551616 + l) / y : Nat), .int .u64 ((h * 18446744073709551616 + l) % y : Nat)]) ∧ Rel w w' := by
  rcases Nat.eq_zero_or_pos h with rfl | h0
  · have := div64_small l y w hl hh hy
    rwa [show 0 * 18446744073709551616 + l = l by omega]
  · obtain ⟨s, hs0, hs, hY1, hY2⟩ := Dv.norm (by omega) hy
    obtain ⟨ht, hUY⟩ := Dv.top_lt (s := s) hh hl hs0
    have e1 : (y : Int) * 2 ^ s = ((y * 2 ^ s : Nat) : Int) := by simp
    have e2 : (h : Int) * 2 ^ s = ((h * 2 ^ s : Nat) : Int) := by simp
    have e3 : (l : Int) / 2 ^ (64 - s) = ((l / 2 ^ (64 - s) : Nat) : Int) := by simp
    have e4 : (l : Int) * 2 ^ s = ((l * 2 ^ s : Nat) : Int) := by simp
    have hor := Dv.or_add (h := h) (s := s) (x := l / 2 ^ (64 - s)) ht (Nat.lt_trans hUY hY2)
    rw [← e3] at hor
    have hw1 : IntKind.u64.wrap ((h : Int) * 2 ^ s) = ((h * 2 ^ s : Nat) : Int) := by
      rw [e2]; exact u64_nat (Nat.lt_of_le_of_lt (Nat.le_add_right _ _) (Nat.lt_trans hUY hY2))
    have hw2 : IntKind.u64.wrap ((l : Int) * 2 ^ s) = ((l * 2 ^ s % 18446744073709551616 : Nat) : Int) := by
      rw [e4]; simp only [IntKind.wrap_u64]; rfl
    have hsh := Dv.shifted (h := h) (l := l) hs0
    obtain ⟨Y, hYe⟩ : ∃ Y, y * 2 ^ s = Y := ⟨_, rfl⟩
    obtain ⟨U, hUe⟩ : ∃ U, h * 2 ^ s + l / 2 ^ (64 - s) = U := ⟨_, rfl⟩
    obtain ⟨D, hDe⟩ : ∃ D, l * 2 ^ s % 18446744073709551616 = D := ⟨_, rfl⟩
    rw [← hw1, hUe] at hor
    rw [hDe] at hw2
    have hD2 : D < 18446744073709551616 := by rw [← hDe]; exact Nat.mod_lt _ (by omega)
    rw [hUe, hDe] at hsh
    rw [hYe] at hY1 hY2 e1 hUY
    rw [hUe] at hUY
    obtain ⟨r1, r2⟩ := Dv.two_digits (D := D) (u1 := D / 4294967296) (u0 := D % 4294967296) (show 0 < y by omega) hYe hsh (by omega)
    clear hsh ht e2 e3 e4 hw1 hDe hUe
    exact div64_big hh hy h0 hs hs0 e1 hY1 hY2 hor hw2 hUY hD2 r1 r2

end Go.Proofs.YtnhmebhmlbofgaaDoor

/- Contracts of over, within, lowest, quotient, product on both sides. No conditions but those printed. -/
namespace Go.Proofs.YtnhmebhmlbofgaaDoor
open Go.RowKit Frac

attribute [local go_sem] calmUpon

theorem rcell {W w1 : World} (h : Rel W w1) : (∀ b o, b < W.heap.size → w1.cell? ⟨b, o, none⟩ = W.cell? ⟨b, o, none⟩) ∧ (∀ b o, b < W.heap.size → w1.frozen? ⟨b, o, none⟩ = W.frozen? ⟨b, o, none⟩) :=
  ⟨fun b o k => Below.cell (p := ⟨b, o, none⟩) h k, fun b o k => Below.frozen (p := ⟨b, o, none⟩) h k⟩

/-- What a call of calm code leaves of an old block of 1, 2, 3 cells. -/
theorem keep1 {W w1 : World} (h : Rel W w1) {b : Nat} (hb : b < W.heap.size) : w1.cell? ⟨b, 0, none⟩ = W.cell? ⟨b, 0, none⟩ ∧ w1.frozen? ⟨b, 0, none⟩ = W.frozen? ⟨b, 0, none⟩ ∧ b < w1.heap.size ∧ b ≠ w1.heap.size ∧ w1.heap.size ≠ b :=
  ⟨(rcell h).1 b 0 hb, (rcell h).2 b 0 hb, h.lt hb, Nat.ne_of_lt (h.lt hb), Nat.ne_of_gt (h.lt hb)⟩
theorem keep2 {W w1 : World} (h : Rel W w1) {b : Nat} (hb : b < W.heap.size) : w1.cell? ⟨b, 0, none⟩ = W.cell? ⟨b, 0, none⟩ ∧ w1.cell? ⟨b, 1, none⟩ = W.cell? ⟨b, 1, none⟩ ∧ w1.frozen? ⟨b, 0, none⟩ = W.frozen? ⟨b, 0, none⟩ ∧ w1.frozen? ⟨b, 1, none⟩ = W.frozen? ⟨b, 1, none⟩ ∧ b < w1.heap.size ∧ b ≠ w1.heap.size ∧ w1.heap.size ≠ b :=
  ⟨(rcell h).1 b 0 hb, (rcell h).1 b 1 hb, (rcell h).2 b 0 hb, (rcell h).2 b 1 hb, h.lt hb, Nat.ne_of_lt (h.lt hb), Nat.ne_of_gt (h.lt hb)⟩
theorem keep3 {W w1 : World} (h : Rel W w1) {b : Nat} (hb : b < W.heap.size) : w1.cell? ⟨b, 0, none⟩ = W.cell? ⟨b, 0, none⟩ ∧ w1.cell? ⟨b, 1, none⟩ = W.cell? ⟨b, 1, none⟩ ∧ w1.cell? ⟨b, 2, none⟩ = W.cell? ⟨b, 2, none⟩ ∧ w1.frozen? ⟨b, 0, none⟩ = W.frozen? ⟨b, 0, none⟩ ∧ w1.frozen? ⟨b, 1, none⟩ = W.frozen? ⟨b, 1, none⟩ ∧ w1.frozen? ⟨b, 2, none⟩ = W.frozen? ⟨b, 2, none⟩ ∧ b < w1.heap.size ∧ b ≠ w1.heap.size ∧ w1.heap.size ≠ b :=
  ⟨(rcell h).1 b 0 hb, (rcell h).1 b 1 hb, (rcell h).1 b 2 hb, (rcell h).2 b 0 hb, (rcell h).2 b 1 hb, (rcell h).2 b 2 hb, h.lt hb, Nat.ne_of_lt (h.lt hb), Nat.ne_of_gt (h.lt hb)⟩

theorem over_num (x : Nat) {d : Nat} (hd : 0 < d) : hi64 (x / d) = hi64 x / d ∧ lo64 (x / d) = (hi64 x % d * 18446744073709551616 + lo64 x) / d ∧ x % d = (hi64 x % d * 18446744073709551616 + lo64 x) % d := by
  have e := Nat.div_add_mod (hi64 x) d
  have hr := Nat.mod_lt (hi64 x) hd
  have hl := lo64_lt x
  have hh := halves x
  generalize hi64 x / d = q at *
  generalize hi64 x % d = r at *
  have hx : x = d * (q * 18446744073709551616) + (r * 18446744073709551616 + lo64 x) := by
    rw [← Nat.mul_assoc, ← Nat.add_assoc, ← Nat.add_mul, e, hh]
  have hq : x / d = q * 18446744073709551616 + (r * 18446744073709551616 + lo64 x) / d := by
    conv => lhs; rw [hx]
    exact Nat.mul_add_div hd _ _
  have hm : x % d = (r * 18446744073709551616 + lo64 x) % d := by
    conv => lhs; rw [hx]
    exact Nat.mul_add_mod _ _ _
  have hb : (r * 18446744073709551616 + lo64 x) / d < 18446744073709551616 := by
    rw [Nat.div_lt_iff_lt_mul hd]
    have := Nat.mul_le_mul_right 18446744073709551616 (show r + 1 ≤ d from hr)
    rw [Nat.mul_comm 18446744073709551616 d]; omega
  refine ⟨?_, ?_, hm⟩
  · rw [hq]; generalize (r * 18446744073709551616 + lo64 x) / d = t at *; unfold hi64; clear hm hx hh hl e; omega
  · rw [hq]; generalize (r * 18446744073709551616 + lo64 x) / d = t at *; clear hm hx hh hl e hq; unfold lo64; omega

theorem tdiv_nat (a b : Nat) : Int.tdiv (a : Int) (b : Int) = ((a / b : Nat) : Int) := by rw [Int.tdiv_eq_ediv_of_nonneg (by omega)]; rfl

def wOk (n d : Nat) : Bool := decide (n ≤ 1000000000000000) && decide (d ≤ 1000000000)
def wN (s : Bool) (n d : Nat) : Int := if wOk n d = true then (if s = true then -(n : Int) else n) else 0
def wD (n d : Nat) : Int := if wOk n d = true then d else 0
def wE (n d : Nat) : Int := if wOk n d = true then 0 else 2

theorem w_no {s : Bool} {n d : Nat} (h : wOk n d = false) : wN s n d = 0 ∧ wD n d = 0 ∧ wE n d = 2 := by
  unfold wN wD wE; rw [h]; exact ⟨rfl, rfl, rfl⟩
theorem w_yes {n d : Nat} (h : wOk n d = true) : wN true n d = -(n : Int) ∧ wN false n d = n ∧ wD n d = d ∧ wE n d = 0 := by
  unfold wN wD wE; rw [h]; exact ⟨rfl, rfl, rfl, rfl⟩

end Go.Proofs.YtnhmebhmlbofgaaDoor

/- Contract of the reference's over; then lowest, quotient, product. No conditions but those printed. -/
namespace Go.Proofs.YtnhmebhmlbofgaaDoor
open Go.RowKit Frac

attribute [local go_sem] calmUpon
set_option linter.unusedSimpArgs false
set_option linter.unusedVariables false

set_option maxHeartbeats 1600000 in
theorem rover_raw (h l d : Nat) (w : World) (hl : l < 18446744073709551616) (hd : 0 < d) (hd2 : d < 18446744073709551616) (hh : h < 18446744073709551616) :
    Calls Tryd.prog 60 #[.agg #[.int .u64 h, .int .u64 l], .int .u64 d] w fun e w' => e = .returned (.tuple #[.agg #[.int .u64 (h / d : Nat), .int .u64 ((h % d * 18446744073709551616 + l) / d : Nat)], .int .u64 ((h % d * 18446744073709551616 + l) % d : Nat)]) ∧ Rel w w' := by
  have hm := nmod_cast h d
  have hdv := tdiv_nat h d
  have hlt := Nat.mod_lt h hd
  have hy1 : ((d : Int) == 0) = false := by simp; omega
  have hne : ¬ d = 0 := by omega
  have hq : h / d < 18446744073709551616 := Nat.lt_of_le_of_lt (Nat.div_le_self _ _) hh
  have hqw := u64_nat hq
  generalize h % d = r at *
  generalize h / d = q at *
  have hD := fun w => div64_any r l d w hlt hl hd2
  generalize (r * 18446744073709551616 + l) / d = N0 at *
  generalize (r * 18446744073709551616 + l) % d = N1 at *
  go_enter Tryd.func60, Tryd.ntmps60
  go_wp2
  refine wp_region_calm (fun _ w' => w'.cell? { block := w.heap.size, off := 0 } = some (.int .u64 h) ∧ w'.cell? { block := w.heap.size, off := 1 } = some (.int .u64 l)) (fun _ => false) [0, 1, 2, 3, 4, 5, 6, 7, 8, 9, 10, 11, 12] 0 (by kernel_rfl) (by kernel_rfl) ?hst ?hS0 (fun w0 h0 => ?_)
  case hst => exact fun _ _ _ h r => ⟨r.cell h.1, r.cell h.2⟩
  case hS0 => exact ⟨by go_simp, by go_simp⟩
  iterate 7
    refine wpCalm_go rfl (by kernel_rfl) (fun K hK => ?_)
    apply Exists.intro
    refine ⟨fun M w hM hS => ?_, hK _ ?_⟩
    · have hc := hS.1
      have hc' := hS.2
      unfold calmAt
      go_simp
      exact ⟨rfl, Rel.refl _⟩
    clear hK K
  refine wpCalm_go rfl rfl (fun K hK => ?_)
  apply Exists.intro
  refine ⟨fun M w hM hS => ?_, hK _ ?_⟩
  · unfold calmAt
    go_simp
    refine (hD _).mono ?_
    rintro e w1 ⟨rfl, hb⟩
    exact ⟨rfl, hb⟩
  clear hK K
  iterate 5
    refine wpCalm_go rfl (by kernel_rfl) (fun K hK => ?_)
    apply Exists.intro
    refine ⟨fun M w hM hS => ?_, hK _ ?_⟩
    · unfold calmAt
      go_simp
      exact ⟨rfl, Rel.refl _⟩
    clear hK K
  refine wpCalm_nil (wpAnyR_end (by kernel_rfl) (fun w1 h1 => ?_))
  simp only [Act.put, List.setIfInBounds_toArray, List.set_cons_zero, List.set_cons_succ]
  obtain ⟨bc, bf⟩ := rcell (h0.trans h1)
  have hr := Lib.hid (h0.trans h1)
  have hw3 := (h0.trans h1).lt (n := w.heap.size + 1) (by simp)
  clear h0 h1
  go_wp2
  refine bodyPost_ret ?_ rfl ⟨rfl, ?_⟩
  · simp [results, Tryd.results60, go_sem, bc, bf, hw3]
  · exact (((((Rel.refl _).alloc _).alloc _).trans hr.out).setCell (by simp) _).setCell (by simp) _

theorem rover_any (x d : Nat) (w : World) (hx : x < 340282366920938463463374607431768211456) (hd : 0 < d) (hd2 : d < 18446744073709551616) :
    Calls Tryd.prog 60 #[.agg #[.int .u64 (hi64 x), .int .u64 (lo64 x)], .int .u64 d] w fun e w' => e = .returned (.tuple #[.agg #[.int .u64 (hi64 (x / d)), .int .u64 (lo64 (x / d))], .int .u64 (x % d : Nat)]) ∧ Rel w w' := by
  obtain ⟨e1, e2, e3⟩ := over_num x hd
  rw [e1, e2, e3]
  exact rover_raw _ _ _ _ (lo64_lt _) hd hd2 (hi64_lt hx)

/-- The ways through the test of a result's range. -/
theorem w_ways (s : Bool) (n d : Nat) :
    (((hi64 n : Int) != 0) = true ∧ wN s n d = 0 ∧ wD n d = 0 ∧ wE n d = 2) ∨
    (((hi64 n : Int) != 0) = false ∧ decide ((1000000000000000 : Int) < lo64 n) = true ∧ wN s n d = 0 ∧ wD n d = 0 ∧ wE n d = 2) ∨
    (((hi64 n : Int) != 0) = false ∧ decide ((1000000000000000 : Int) < lo64 n) = false ∧ ((hi64 d : Int) != 0) = true ∧ wN s n d = 0 ∧ wD n d = 0 ∧ wE n d = 2) ∨
    (((hi64 n : Int) != 0) = false ∧ decide ((1000000000000000 : Int) < lo64 n) = false ∧ ((hi64 d : Int) != 0) = false ∧ decide ((1000000000 : Int) < lo64 d) = true ∧ wN s n d = 0 ∧ wD n d = 0 ∧ wE n d = 2) ∨
    (((hi64 n : Int) != 0) = false ∧ decide ((1000000000000000 : Int) < lo64 n) = false ∧ ((hi64 d : Int) != 0) = false ∧ decide ((1000000000 : Int) < lo64 d) = false ∧ lo64 n ≤ 1000000000000000 ∧ lo64 d ≤ 1000000000 ∧ wN true n d = -(lo64 n : Int) ∧ wN false n d = lo64 n ∧ wD n d = lo64 d ∧ wE n d = 0) := by
  by_cases c1 : hi64 n = 0
  · have k1 : ((hi64 n : Int) != 0) = false := by simp; omega
    by_cases c2 : lo64 n ≤ 1000000000000000
    · have k2 : decide ((1000000000000000 : Int) < lo64 n) = false := by simp; omega
      by_cases c3 : hi64 d = 0
      · have k3 : ((hi64 d : Int) != 0) = false := by simp; omega
        by_cases c4 : lo64 d ≤ 1000000000
        · have k4 : decide ((1000000000 : Int) < lo64 d) = false := by simp; omega
          have ho : wOk n d = true := by unfold wOk; unfold hi64 at *; (try unfold lo64 at *); simp; omega
          have hn : lo64 n = n := by unfold hi64 at c1; unfold lo64; omega
          have hd : lo64 d = d := by unfold hi64 at c3; unfold lo64; omega
          obtain ⟨r0, r1, r2, r3⟩ := w_yes ho
          rw [r0, r1, r2, r3, k1, k2, k3, k4, hn, hd]
          rw [hn] at c2; rw [hd] at c4
          exact .inr (.inr (.inr (.inr ⟨rfl, rfl, rfl, rfl, c2, c4, rfl, rfl, rfl, rfl⟩)))
        · have ho : wOk n d = false := by unfold wOk; unfold hi64 at *; (try unfold lo64 at *); simp; omega
          have k4 : decide ((1000000000 : Int) < lo64 d) = true := by simp; omega
          exact .inr (.inr (.inr (.inl ⟨k1, k2, k3, k4, w_no ho⟩)))
      · have ho : wOk n d = false := by unfold wOk; unfold hi64 at *; (try unfold lo64 at *); simp; omega
        have k3 : ((hi64 d : Int) != 0) = true := by simp; omega
        exact .inr (.inr (.inl ⟨k1, k2, k3, w_no ho⟩))
    · have ho : wOk n d = false := by unfold wOk; unfold hi64 at *; (try unfold lo64 at *); simp; omega
      have k2 : decide ((1000000000000000 : Int) < lo64 n) = true := by simp; omega
      exact .inr (.inl ⟨k1, k2, w_no ho⟩)
  · have ho : wOk n d = false := by unfold wOk; unfold hi64 at *; (try unfold lo64 at *); simp; omega
    have k1 : ((hi64 n : Int) != 0) = true := by simp; omega
    exact .inl ⟨k1, w_no ho⟩

def FrRes (a b c : Int) (w : World) (e : Ending) (w' : World) : Prop := e = .returned (.tuple #[.agg #[.int .i64 a, .int .i64 b], .int .i64 c]) ∧ Rel w w'

end Go.Proofs.YtnhmebhmlbofgaaDoor

/- Contracts of lowest, product and quotient. No conditions but those printed. -/
namespace Go.Proofs.YtnhmebhmlbofgaaDoor
open Go.RowKit Frac

attribute [local go_sem] calmUpon
set_option linter.unusedSimpArgs false
set_option linter.unusedVariables false

set_option maxHeartbeats 3200000 in
theorem lowest_core (s : Bool) (h l d r g H L r2 D Q1 Q2 : Nat) (A B C : Int) (w : World) (hg : 0 < g) (hd2 : d < 18446744073709551616) (hD : d / g = D)
    (O1 : Hid (∀ w, Calls Tryd.prog 60 #[.agg #[.int .u64 h, .int .u64 l], .int .u64 d] w fun e w' => e = .returned (.tuple #[.agg #[.int .u64 Q1, .int .u64 Q2], .int .u64 r]) ∧ Rel w w'))
    (G : Hid (∀ w, Calls Tryd.prog 61 #[.int .u64 d, .int .u64 r] w fun e w' => e = .returned (.int .u64 g) ∧ Rel w w'))
    (O2 : Hid (∀ w, Calls Tryd.prog 60 #[.agg #[.int .u64 h, .int .u64 l], .int .u64 g] w fun e w' => e = .returned (.tuple #[.agg #[.int .u64 H, .int .u64 L], .int .u64 r2]) ∧ Rel w w'))
    (hw : (((H : Int) != 0) = true ∧ A = 0 ∧ B = 0 ∧ C = 2) ∨
    (((H : Int) != 0) = false ∧ decide ((1000000000000000 : Int) < L) = true ∧ A = 0 ∧ B = 0 ∧ C = 2) ∨
    (((H : Int) != 0) = false ∧ decide ((1000000000000000 : Int) < L) = false ∧ decide ((1000000000 : Int) < D) = true ∧ A = 0 ∧ B = 0 ∧ C = 2) ∨
    (((H : Int) != 0) = false ∧ decide ((1000000000000000 : Int) < L) = false ∧ decide ((1000000000 : Int) < D) = false ∧ L ≤ 1000000000000000 ∧ D ≤ 1000000000 ∧ A = (if s = true then -(L : Int) else L) ∧ B = D ∧ C = 0)) :
    Calls Tryd.prog 50 #[.bool s, .agg #[.int .u64 h, .int .u64 l], .int .u64 d] w (FrRes A B C w) := by
  have hdv : (d : Int) / g = D := by rw [← hD]; rfl
  have hdt : Int.tdiv (d : Int) g = D := by rw [tdiv_nat, hD]
  have hy1 : ((g : Int) == 0) = false := by simp; omega
  have hDd : D < 18446744073709551616 := by rw [← hD]; exact Nat.lt_of_le_of_lt (Nat.div_le_self _ _) hd2
  have hDw := u64_nat hDd
  clear hD
  unfold FrRes
  rcases hw with ⟨k1, rfl, rfl, rfl⟩ | ⟨k1, k2, rfl, rfl, rfl⟩ | ⟨k1, k2, k3, rfl, rfl, rfl⟩ | ⟨k1, k2, k3, k4, k5, hA, rfl, rfl⟩
  rotate_left
  rotate_left
  rotate_left
  · subst hA
    cases s
    all_goals
      go_enter Tryd.func50, Tryd.ntmps50
      go_wp2_with fail
      refine (O1.out _).mono ?_
      rintro e w1 ⟨rfl, h1⟩
      have q := keep2 h1 (b := w.heap.size) (by first | (simp; done) | (simp; omega) | omega)
      have kc1_0_0 := q.1
      have kc1_0_1 := q.2.1
      have kf1_0_0 := q.2.2.1
      have kf1_0_1 := q.2.2.2.1
      have kl1_0 := q.2.2.2.2.1
      have kn1_0 := q.2.2.2.2.2.1
      have km1_0 := q.2.2.2.2.2.2
      clear q
      have q := keep2 h1 (b := w.heap.size + 1) (by first | (simp; done) | (simp; omega) | omega)
      have kc1_1_0 := q.1
      have kc1_1_1 := q.2.1
      have kf1_1_0 := q.2.2.1
      have kf1_1_1 := q.2.2.2.1
      have kl1_1 := q.2.2.2.2.1
      have kn1_1 := q.2.2.2.2.2.1
      have km1_1 := q.2.2.2.2.2.2
      clear q
      have kz1 := h1.size
      (try simp only [World.size_alloc, World.size_setCell, World.size_drew] at kz1)
      have H1 := Lib.hid h1
      clear h1
      go_wp2_with fail
      refine (G.out _).mono ?_
      rintro e w2 ⟨rfl, h2⟩
      have q := keep2 h2 (b := w.heap.size) (by first | (simp; done) | (simp; omega) | omega)
      have kc2_0_0 := q.1
      have kc2_0_1 := q.2.1
      have kf2_0_0 := q.2.2.1
      have kf2_0_1 := q.2.2.2.1
      have kl2_0 := q.2.2.2.2.1
      have kn2_0 := q.2.2.2.2.2.1
      have km2_0 := q.2.2.2.2.2.2
      clear q
      have q := keep2 h2 (b := w.heap.size + 1) (by first | (simp; done) | (simp; omega) | omega)
      have kc2_1_0 := q.1
      have kc2_1_1 := q.2.1
      have kf2_1_0 := q.2.2.1
      have kf2_1_1 := q.2.2.2.1
      have kl2_1 := q.2.2.2.2.1
      have kn2_1 := q.2.2.2.2.2.1
      have km2_1 := q.2.2.2.2.2.2
      clear q
      have kz2 := h2.size
      (try simp only [World.size_alloc, World.size_setCell, World.size_drew] at kz2)
      have H2 := Lib.hid h2
      clear h2
      go_wp2_with fail
      refine (O2.out _).mono ?_
      rintro e w3 ⟨rfl, h3⟩
      have q := keep2 h3 (b := w.heap.size) (by first | (simp; done) | (simp; omega) | omega)
      have kc3_0_0 := q.1
      have kc3_0_1 := q.2.1
      have kf3_0_0 := q.2.2.1
      have kf3_0_1 := q.2.2.2.1
      have kl3_0 := q.2.2.2.2.1
      have kn3_0 := q.2.2.2.2.2.1
      have km3_0 := q.2.2.2.2.2.2
      clear q
      have q := keep2 h3 (b := w.heap.size + 1) (by first | (simp; done) | (simp; omega) | omega)
      have kc3_1_0 := q.1
      have kc3_1_1 := q.2.1
      have kf3_1_0 := q.2.2.1
      have kf3_1_1 := q.2.2.2.1
      have kl3_1 := q.2.2.2.2.1
      have kn3_1 := q.2.2.2.2.2.1
      have km3_1 := q.2.2.2.2.2.2
      clear q
      have kz3 := h3.size
      (try simp only [World.size_alloc, World.size_setCell, World.size_drew] at kz3)
      have H3 := Lib.hid h3
      clear h3
      go_wp2_with fail
      refine bodyPost_ret ?_ rfl ⟨rfl, ?_⟩
      · simp [results, Tryd.results50, go_sem, kc3_1_0, kc3_1_1, kc2_1_0, kc2_1_1, kc1_1_0, kc1_1_1, kl3_1, kl2_1, kl1_1]
      · (show Rel _ _; repeat (first | with_reducible exact Rel.refl _ | with_reducible refine Rel.alloc ?_ _ | with_reducible refine Rel.setCell ?_ (by first | (simp; done) | (simp; omega)) _ | with_reducible refine Rel.drew ?_ | with_reducible refine Rel.trans ?_ H3.out | with_reducible refine Rel.trans ?_ H2.out | with_reducible refine Rel.trans ?_ H1.out | with_reducible refine Rel.trans ?_ H0.out))
  all_goals
      go_enter Tryd.func50, Tryd.ntmps50
      go_wp2_with fail
      refine (O1.out _).mono ?_
      rintro e w1 ⟨rfl, h1⟩
      have q := keep2 h1 (b := w.heap.size) (by first | (simp; done) | (simp; omega) | omega)
      have kc1_0_0 := q.1
      have kc1_0_1 := q.2.1
      have kf1_0_0 := q.2.2.1
      have kf1_0_1 := q.2.2.2.1
      have kl1_0 := q.2.2.2.2.1
      have kn1_0 := q.2.2.2.2.2.1
      have km1_0 := q.2.2.2.2.2.2
      clear q
      have q := keep2 h1 (b := w.heap.size + 1) (by first | (simp; done) | (simp; omega) | omega)
      have kc1_1_0 := q.1
      have kc1_1_1 := q.2.1
      have kf1_1_0 := q.2.2.1
      have kf1_1_1 := q.2.2.2.1
      have kl1_1 := q.2.2.2.2.1
      have kn1_1 := q.2.2.2.2.2.1
      have km1_1 := q.2.2.2.2.2.2
      clear q
      have kz1 := h1.size
      (try simp only [World.size_alloc, World.size_setCell, World.size_drew] at kz1)
      have H1 := Lib.hid h1
      clear h1
      go_wp2_with fail
      refine (G.out _).mono ?_
      rintro e w2 ⟨rfl, h2⟩
      have q := keep2 h2 (b := w.heap.size) (by first | (simp; done) | (simp; omega) | omega)
      have kc2_0_0 := q.1
      have kc2_0_1 := q.2.1
      have kf2_0_0 := q.2.2.1
      have kf2_0_1 := q.2.2.2.1
      have kl2_0 := q.2.2.2.2.1
      have kn2_0 := q.2.2.2.2.2.1
      have km2_0 := q.2.2.2.2.2.2
      clear q
      have q := keep2 h2 (b := w.heap.size + 1) (by first | (simp; done) | (simp; omega) | omega)
      have kc2_1_0 := q.1
      have kc2_1_1 := q.2.1
      have kf2_1_0 := q.2.2.1
      have kf2_1_1 := q.2.2.2.1
      have kl2_1 := q.2.2.2.2.1
      have kn2_1 := q.2.2.2.2.2.1
      have km2_1 := q.2.2.2.2.2.2
      clear q
      have kz2 := h2.size
      (try simp only [World.size_alloc, World.size_setCell, World.size_drew] at kz2)
      have H2 := Lib.hid h2
      clear h2
      go_wp2_with fail
      refine (O2.out _).mono ?_
      rintro e w3 ⟨rfl, h3⟩
      have q := keep2 h3 (b := w.heap.size) (by first | (simp; done) | (simp; omega) | omega)
      have kc3_0_0 := q.1
      have kc3_0_1 := q.2.1
      have kf3_0_0 := q.2.2.1
      have kf3_0_1 := q.2.2.2.1
      have kl3_0 := q.2.2.2.2.1
      have kn3_0 := q.2.2.2.2.2.1
      have km3_0 := q.2.2.2.2.2.2
      clear q
      have q := keep2 h3 (b := w.heap.size + 1) (by first | (simp; done) | (simp; omega) | omega)
      have kc3_1_0 := q.1
      have kc3_1_1 := q.2.1
      have kf3_1_0 := q.2.2.1
      have kf3_1_1 := q.2.2.2.1
      have kl3_1 := q.2.2.2.2.1
      have kn3_1 := q.2.2.2.2.2.1
      have km3_1 := q.2.2.2.2.2.2
      clear q
      have kz3 := h3.size
      (try simp only [World.size_alloc, World.size_setCell, World.size_drew] at kz3)
      have H3 := Lib.hid h3
      clear h3
      go_wp2_with fail
      refine bodyPost_ret ?_ rfl ⟨rfl, ?_⟩
      · simp [results, Tryd.results50, go_sem, kc3_1_0, kc3_1_1, kc2_1_0, kc2_1_1, kc1_1_0, kc1_1_1, kl3_1, kl2_1, kl1_1]
      · (show Rel _ _; repeat (first | with_reducible exact Rel.refl _ | with_reducible refine Rel.alloc ?_ _ | with_reducible refine Rel.setCell ?_ (by first | (simp; done) | (simp; omega)) _ | with_reducible refine Rel.drew ?_ | with_reducible refine Rel.trans ?_ H3.out | with_reducible refine Rel.trans ?_ H2.out | with_reducible refine Rel.trans ?_ H1.out | with_reducible refine Rel.trans ?_ H0.out))

end Go.Proofs.YtnhmebhmlbofgaaDoor

/- Contracts of quotient and product. No conditions but those printed. -/
namespace Go.Proofs.YtnhmebhmlbofgaaDoor
open Go.RowKit Frac

attribute [local go_sem] calmUpon
set_option linter.unusedSimpArgs false
set_option linter.unusedVariables false

theorem w_ways2 (s : Bool) (n d : Nat) :
    (((hi64 n : Int) != 0) = true ∧ wN s n d = 0 ∧ wD n d = 0 ∧ wE n d = 2) ∨
    (((hi64 n : Int) != 0) = false ∧ decide ((1000000000000000 : Int) < lo64 n) = true ∧ wN s n d = 0 ∧ wD n d = 0 ∧ wE n d = 2) ∨
    (((hi64 n : Int) != 0) = false ∧ decide ((1000000000000000 : Int) < lo64 n) = false ∧ ((hi64 d : Int) != 0) = true ∧ wN s n d = 0 ∧ wD n d = 0 ∧ wE n d = 2) ∨
    (((hi64 n : Int) != 0) = false ∧ decide ((1000000000000000 : Int) < lo64 n) = false ∧ ((hi64 d : Int) != 0) = false ∧ decide ((1000000000 : Int) < lo64 d) = true ∧ wN s n d = 0 ∧ wD n d = 0 ∧ wE n d = 2) ∨
    (((hi64 n : Int) != 0) = false ∧ decide ((1000000000000000 : Int) < lo64 n) = false ∧ ((hi64 d : Int) != 0) = false ∧ decide ((1000000000 : Int) < lo64 d) = false ∧ lo64 n ≤ 1000000000000000 ∧ lo64 d ≤ 1000000000 ∧ wN s n d = (if s = true then -(lo64 n : Int) else lo64 n) ∧ wD n d = lo64 d ∧ wE n d = 0) := by
  rcases w_ways s n d with h | h | h | h | ⟨a, b, c, d, e, f, g, h, i, j⟩
  · exact .inl h
  · exact .inr (.inl h)
  · exact .inr (.inr (.inl h))
  · exact .inr (.inr (.inr (.inl h)))
  · exact .inr (.inr (.inr (.inr ⟨a, b, c, d, e, f, by cases s <;> simp [g, h], i, j⟩)))

end Go.Proofs.YtnhmebhmlbofgaaDoor

/- Contracts of Valid, ValidFraction, and joins of shortened results. No conditions but those printed. -/
namespace Go.Proofs.YtnhmebhmlbofgaaDoor
open Go.RowKit Frac

attribute [local go_sem] calmUpon
set_option linter.unusedSimpArgs false
set_option linter.unusedVariables false

/-- A shortened result is the value's own. -/
theorem w_n {s d : Int} {N D : Nat} {neg : Bool} (hd : 0 < d) (hD : 0 < D) (hc : Nat.gcd N D = 1) (hv : (if neg = true then -(N : Int) else N) * d = s * D) :
    wN neg N D = nN s d ∧ wD N D = nD s d ∧ wE N D = nE s d := by
  obtain ⟨e1, e2, e3⟩ := n_value (s := s) (d := d) (s' := if neg = true then -(N : Int) else N) (d' := D) hd (by omega) hv.symm
  rw [e1, e2, e3]
  have hg : gOf (if neg = true then -(N : Int) else N) D = 1 := by
    unfold gOf; cases neg <;> simp [hc]
  have r1 : rN (if neg = true then -(N : Int) else N) D = (if neg = true then -(N : Int) else N) := by unfold rN; rw [hg]; simp
  have r2 : rD (if neg = true then -(N : Int) else N) D = D := by unfold rD; rw [hg]; simp
  have ho : nOk (if neg = true then -(N : Int) else N) D = wOk N D := by
    unfold nOk wOk; rw [r1, r2, Bool.eq_iff_iff]; cases neg <;> simp only [Bool.and_eq_true, decide_eq_true_eq, Bool.false_eq_true, if_true, if_false] <;> omega
  unfold wN wD wE nN nD nE
  rw [ho, r1, r2]
  exact ⟨rfl, rfl, rfl⟩

theorem gcd_cut {n d : Nat} (hd : 0 < d) : Nat.gcd (n / Nat.gcd n d) (d / Nat.gcd n d) = 1 ∧ 0 < d / Nat.gcd n d ∧ n / Nat.gcd n d * d = n * (d / Nat.gcd n d) := by
  have hg : 0 < Nat.gcd n d := Nat.gcd_pos_of_pos_right _ hd
  refine ⟨Nat.coprime_div_gcd_div_gcd hg, Nat.div_pos (Nat.gcd_le_right _ hd) hg, ?_⟩
  obtain ⟨a, ha⟩ := Nat.gcd_dvd_left n d
  obtain ⟨b, hb⟩ := Nat.gcd_dvd_right n d
  generalize Nat.gcd n d = g at *
  subst ha
  subst hb
  rw [Nat.mul_div_cancel_left _ hg, Nat.mul_div_cancel_left _ hg]
  simp only [Nat.mul_left_comm, Nat.mul_assoc, Nat.mul_comm]

/-- The same for a numerator and a denominator that are shortened by their divisor. -/
theorem w_cut {s d : Int} {N D : Nat} {neg : Bool} (hd : 0 < d) (hD : 0 < D) (hv : (if neg = true then -(N : Int) else N) * d = s * D) :
    wN neg (N / Nat.gcd N D) (D / Nat.gcd N D) = nN s d ∧ wD (N / Nat.gcd N D) (D / Nat.gcd N D) = nD s d ∧ wE (N / Nat.gcd N D) (D / Nat.gcd N D) = nE s d := by
  obtain ⟨h1, h2, h3⟩ := gcd_cut (n := N) hD
  refine w_n hd h2 h1 ?_
  generalize N / Nat.gcd N D = a at *
  generalize D / Nat.gcd N D = b at *
  have h3' : (a : Int) * D = N * b := by exact_mod_cast h3
  have hD' : (0 : Int) < D := by omega
  refine Int.eq_of_mul_eq_mul_right (a := (D : Int)) (by omega) ?_
  cases neg
  · simp only [Bool.false_eq_true, if_false] at hv ⊢
    calc (a : Int) * d * D = (a * D) * d := by grind
      _ = N * d * b := by rw [h3']; grind
      _ = s * b * D := by rw [hv]; grind
  · simp only [if_true] at hv ⊢
    calc -(a : Int) * d * D = -(a * D) * d := by grind
      _ = -(N : Int) * d * b := by rw [h3']; grind
      _ = s * b * D := by rw [hv]; grind

theorem mk_value (n d : Int) (hd : d ≠ 0) (neg : Bool) (hneg : n = 0 ∨ (neg = true ↔ ((n < 0 ∧ ¬ d < 0) ∨ (¬ n < 0 ∧ d < 0)))) :
    (if neg = true then -(n.natAbs : Int) else n.natAbs) * (d.natAbs : Int) = mkS n d * (d.natAbs : Int) := by
  unfold mkS
  by_cases h0 : n = 0
  · subst h0; cases neg <;> simp
  · congr 1
    rcases hneg with hneg | hneg
    · exact absurd hneg h0
    · by_cases h1 : d < 0 <;> cases neg <;> simp at hneg ⊢ <;> omega

theorem mk_join (n d : Int) (hd : d ≠ 0) (neg : Bool) (hneg : n = 0 ∨ (neg = true ↔ ((n < 0 ∧ ¬ d < 0) ∨ (¬ n < 0 ∧ d < 0)))) :
    wN neg (n.natAbs / Nat.gcd n.natAbs d.natAbs) (d.natAbs / Nat.gcd n.natAbs d.natAbs) = mkN n d ∧ wD (n.natAbs / Nat.gcd n.natAbs d.natAbs) (d.natAbs / Nat.gcd n.natAbs d.natAbs) = mkD n d ∧ wE (n.natAbs / Nat.gcd n.natAbs d.natAbs) (d.natAbs / Nat.gcd n.natAbs d.natAbs) = mkE n d := by
  unfold mkN mkD mkE
  rw [if_neg hd, if_neg hd, if_neg hd]
  exact w_cut (by omega) (by omega) (mk_value n d hd neg hneg)

def BRes (b : Bool) (w : World) (e : Ending) (w' : World) : Prop := e = .returned (.bool b) ∧ Rel w w'

theorem valid_ways (n d : Int) :
    (decide (1 ≤ d) = false ∧ validB n d = false) ∨
    (1 ≤ d ∧ decide (1 ≤ d) = true ∧ decide (d ≤ 1000000000) = false ∧ validB n d = false) ∨
    (1 ≤ d ∧ decide (1 ≤ d) = true ∧ decide (d ≤ 1000000000) = true ∧ decide (-1000000000000000 ≤ n) = false ∧ validB n d = false) ∨
    (1 ≤ d ∧ decide (1 ≤ d) = true ∧ decide (d ≤ 1000000000) = true ∧ decide (-1000000000000000 ≤ n) = true ∧ decide (n ≤ 1000000000000000) = false ∧ validB n d = false) ∨
    (1 ≤ d ∧ d ≤ 1000000000 ∧ decide (1 ≤ d) = true ∧ decide (d ≤ 1000000000) = true ∧ decide (-1000000000000000 ≤ n) = true ∧ decide (n ≤ 1000000000000000) = true ∧ (((Nat.gcd n.natAbs d.natAbs : Nat) : Int) == 1) = validB n d) := by
  unfold validB
  by_cases h1 : 1 ≤ d
  · by_cases h2 : d ≤ 1000000000
    · by_cases h3 : -1000000000000000 ≤ n
      · by_cases h4 : n ≤ 1000000000000000
        · refine .inr (.inr (.inr (.inr ⟨h1, h2, by simp [h1], by simp [h2], by simp [h3], by simp [h4], ?_⟩)))
          simp only [h1, h2, h3, h4, and_self, decide_true, Bool.true_and]
          by_cases g : Nat.gcd n.natAbs d.natAbs = 1 <;> simp [g]
          omega
        · exact .inr (.inr (.inr (.inl ⟨h1, by simp [h1], by simp [h2], by simp [h3], by simp [h4], by simp [h4]⟩)))
      · exact .inr (.inr (.inl ⟨h1, by simp [h1], by simp [h2], by simp [h3], by simp [h3]⟩))
    · exact .inr (.inl ⟨h1, by simp [h1], by simp [h2], by simp [h2]⟩)
  · exact .inl ⟨by simp [h1], by simp [h1]⟩

end Go.Proofs.YtnhmebhmlbofgaaDoor

/- Contracts of Valid and ValidFraction. No conditions but those printed. -/
namespace Go.Proofs.YtnhmebhmlbofgaaDoor
open Go.RowKit Frac

attribute [local go_sem] calmUpon
set_option linter.unusedSimpArgs false
set_option linter.unusedVariables false

set_option maxHeartbeats 3200000 in
theorem rvalid_any (n d : Int) (w : World) (n0 : -9223372036854775808 ≤ n) (n1 : n ≤ 9223372036854775807) (d0 : -9223372036854775808 ≤ d) (d1 : d ≤ 9223372036854775807) :
    Calls Tryd.prog 69 #[.agg #[.int .i64 n, .int .i64 d]] w (BRes (validB n d) w) := by
  unfold BRes
  have P1 : decide (1 ≤ d) = false → d < 1 := by simp
  have P2 : decide (d ≤ 1000000000) = false → 1000000000 < d := by simp
  have P3 : decide (-1000000000000000 ≤ n) = false → n < -1000000000000000 := by simp
  have P4 : decide (n ≤ 1000000000000000) = false → 1000000000000000 < n := by simp
  have Q2 : decide (d ≤ 1000000000) = true → d ≤ 1000000000 := by simp
  have Q3 : decide (-1000000000000000 ≤ n) = true → -1000000000000000 ≤ n := by simp
  have Q4 : decide (n ≤ 1000000000000000) = true → n ≤ 1000000000000000 := by simp
  rcases valid_ways n d with ⟨k1, kv⟩ | ⟨kd, k1, k2, kv⟩ | ⟨kd, k1, k2, k3, kv⟩ | ⟨kd, k1, k2, k3, k4, kv⟩ | ⟨kd, kd', k1, k2, k3, k4, kv⟩
  · have p1 := P1 k1
    clear P1 P2 P3 P4 Q2 Q3 Q4
    rw [kv]
    go_enter Tryd.func69, Tryd.ntmps69
    go_wp2_with fail
    refine wp_region_calm (fun _ w' => w'.cell? { block := w.heap.size, off := 0 } = some (.int .i64 n) ∧ w'.cell? { block := w.heap.size, off := 1 } = some (.int .i64 d)) (fun _ => false) [0, 1, 2, 3, 4, 5, 6, 7, 8, 9, 10, 11, 12, 13, 14, 15, 16, 17, 18, 19, 20, 21, 22, 23, 24, 25, 26, 27, 28] 0 (by kernel_rfl) (by kernel_rfl) ?hst ?hS0 (fun w0 h0 => ?_)
    case hst => exact fun _ _ _ h r => ⟨r.cell h.1, r.cell h.2⟩
    case hS0 => exact ⟨by go_simp, by go_simp⟩
    iterate 4
      refine wpCalm_go rfl (by kernel_rfl) (fun K hK => ?_)
      apply Exists.intro
      refine ⟨fun M w hM hS => ?_, hK _ ?_⟩
      · have hc := hS.1
        have hc' := hS.2
        unfold calmAt
        go_simp
        exact ⟨rfl, Rel.refl _⟩
      clear hK K
    iterate 3 (refine wpCalm_no rfl (by kernel_rfl) (fun K hK => hK _ ?_); clear hK K)
    iterate 2
      refine wpCalm_go rfl (by kernel_rfl) (fun K hK => ?_)
      apply Exists.intro
      refine ⟨fun M w hM hS => ?_, hK _ ?_⟩
      · have hc := hS.1
        have hc' := hS.2
        unfold calmAt
        go_simp
        exact ⟨rfl, Rel.refl _⟩
      clear hK K
    iterate 3 (refine wpCalm_no rfl (by kernel_rfl) (fun K hK => hK _ ?_); clear hK K)
    iterate 2
      refine wpCalm_go rfl (by kernel_rfl) (fun K hK => ?_)
      apply Exists.intro
      refine ⟨fun M w hM hS => ?_, hK _ ?_⟩
      · have hc := hS.1
        have hc' := hS.2
        unfold calmAt
        go_simp
        exact ⟨rfl, Rel.refl _⟩
      clear hK K
    iterate 3 (refine wpCalm_no rfl (by kernel_rfl) (fun K hK => hK _ ?_); clear hK K)
    iterate 2
      refine wpCalm_go rfl (by kernel_rfl) (fun K hK => ?_)
      apply Exists.intro
      refine ⟨fun M w hM hS => ?_, hK _ ?_⟩
      · have hc := hS.1
        have hc' := hS.2
        unfold calmAt
        go_simp
        exact ⟨rfl, Rel.refl _⟩
      clear hK K
    iterate 8 (refine wpCalm_no rfl (by kernel_rfl) (fun K hK => hK _ ?_); clear hK K)
    iterate 2
      refine wpCalm_go rfl (by kernel_rfl) (fun K hK => ?_)
      apply Exists.intro
      refine ⟨fun M w hM hS => ?_, hK _ ?_⟩
      · have hc := hS.1
        have hc' := hS.2
        unfold calmAt
        go_simp
        exact ⟨rfl, Rel.refl _⟩
      clear hK K
    refine wpAnyR_end (by kernel_rfl) (fun w1 h1 => ?_)
    (try simp only [Act.put, List.setIfInBounds_toArray, List.set_cons_zero, List.set_cons_succ])
    have kz1 := h1.size
    (try simp only [World.size_alloc, World.size_setCell, World.size_drew] at kz1)
    have H1 := Lib.hid h1
    clear h1
    go_wp2
    go_ret
    exact ⟨rfl, (((Rel.refl _).alloc _).trans (h0.trans H1.out))⟩
  · have p1 := P2 k2
    clear P1 P2 P3 P4 Q2 Q3 Q4
    rw [kv]
    go_enter Tryd.func69, Tryd.ntmps69
    go_wp2_with fail
    refine wp_region_calm (fun _ w' => w'.cell? { block := w.heap.size, off := 0 } = some (.int .i64 n) ∧ w'.cell? { block := w.heap.size, off := 1 } = some (.int .i64 d)) (fun _ => false) [0, 1, 2, 3, 4, 5, 6, 7, 8, 9, 10, 11, 12, 13, 14, 15, 16, 17, 18, 19, 20, 21, 22, 23, 24, 25, 26, 27, 28] 0 (by kernel_rfl) (by kernel_rfl) ?hst ?hS0 (fun w0 h0 => ?_)
    case hst => exact fun _ _ _ h r => ⟨r.cell h.1, r.cell h.2⟩
    case hS0 => exact ⟨by go_simp, by go_simp⟩
    iterate 9
      refine wpCalm_go rfl (by kernel_rfl) (fun K hK => ?_)
      apply Exists.intro
      refine ⟨fun M w hM hS => ?_, hK _ ?_⟩
      · have hc := hS.1
        have hc' := hS.2
        unfold calmAt
        go_simp
        exact ⟨rfl, Rel.refl _⟩
      clear hK K
    iterate 3 (refine wpCalm_no rfl (by kernel_rfl) (fun K hK => hK _ ?_); clear hK K)
    iterate 2
      refine wpCalm_go rfl (by kernel_rfl) (fun K hK => ?_)
      apply Exists.intro
      refine ⟨fun M w hM hS => ?_, hK _ ?_⟩
      · have hc := hS.1
        have hc' := hS.2
        unfold calmAt
        go_simp
        exact ⟨rfl, Rel.refl _⟩
      clear hK K
    iterate 3 (refine wpCalm_no rfl (by kernel_rfl) (fun K hK => hK _ ?_); clear hK K)
    iterate 2
      refine wpCalm_go rfl (by kernel_rfl) (fun K hK => ?_)
      apply Exists.intro
      refine ⟨fun M w hM hS => ?_, hK _ ?_⟩
      · have hc := hS.1
        have hc' := hS.2
        unfold calmAt
        go_simp
        exact ⟨rfl, Rel.refl _⟩
      clear hK K
    iterate 8 (refine wpCalm_no rfl (by kernel_rfl) (fun K hK => hK _ ?_); clear hK K)
    iterate 2
      refine wpCalm_go rfl (by kernel_rfl) (fun K hK => ?_)
      apply Exists.intro
      refine ⟨fun M w hM hS => ?_, hK _ ?_⟩
      · have hc := hS.1
        have hc' := hS.2
        unfold calmAt
        go_simp
        exact ⟨rfl, Rel.refl _⟩
      clear hK K
    refine wpAnyR_end (by kernel_rfl) (fun w1 h1 => ?_)
    (try simp only [Act.put, List.setIfInBounds_toArray, List.set_cons_zero, List.set_cons_succ])
    have kz1 := h1.size
    (try simp only [World.size_alloc, World.size_setCell, World.size_drew] at kz1)
    have H1 := Lib.hid h1
    clear h1
    go_wp2
    go_ret
    exact ⟨rfl, (((Rel.refl _).alloc _).trans (h0.trans H1.out))⟩
  · have p1 := Q2 k2
    have p2 := P3 k3
    clear P1 P2 P3 P4 Q2 Q3 Q4
    rw [kv]
    go_enter Tryd.func69, Tryd.ntmps69
    go_wp2_with fail
    refine wp_region_calm (fun _ w' => w'.cell? { block := w.heap.size, off := 0 } = some (.int .i64 n) ∧ w'.cell? { block := w.heap.size, off := 1 } = some (.int .i64 d)) (fun _ => false) [0, 1, 2, 3, 4, 5, 6, 7, 8, 9, 10, 11, 12, 13, 14, 15, 16, 17, 18, 19, 20, 21, 22, 23, 24, 25, 26, 27, 28] 0 (by kernel_rfl) (by kernel_rfl) ?hst ?hS0 (fun w0 h0 => ?_)
    case hst => exact fun _ _ _ h r => ⟨r.cell h.1, r.cell h.2⟩
    case hS0 => exact ⟨by go_simp, by go_simp⟩
    iterate 14
      refine wpCalm_go rfl (by kernel_rfl) (fun K hK => ?_)
      apply Exists.intro
      refine ⟨fun M w hM hS => ?_, hK _ ?_⟩
      · have hc := hS.1
        have hc' := hS.2
        unfold calmAt
        go_simp
        exact ⟨rfl, Rel.refl _⟩
      clear hK K
    iterate 3 (refine wpCalm_no rfl (by kernel_rfl) (fun K hK => hK _ ?_); clear hK K)
    iterate 2
      refine wpCalm_go rfl (by kernel_rfl) (fun K hK => ?_)
      apply Exists.intro
      refine ⟨fun M w hM hS => ?_, hK _ ?_⟩
      · have hc := hS.1
        have hc' := hS.2
        unfold calmAt
        go_simp
        exact ⟨rfl, Rel.refl _⟩
      clear hK K
    iterate 8 (refine wpCalm_no rfl (by kernel_rfl) (fun K hK => hK _ ?_); clear hK K)
    iterate 2
      refine wpCalm_go rfl (by kernel_rfl) (fun K hK => ?_)
      apply Exists.intro
      refine ⟨fun M w hM hS => ?_, hK _ ?_⟩
      · have hc := hS.1
        have hc' := hS.2
        unfold calmAt
        go_simp
        exact ⟨rfl, Rel.refl _⟩
      clear hK K
    refine wpAnyR_end (by kernel_rfl) (fun w1 h1 => ?_)
    (try simp only [Act.put, List.setIfInBounds_toArray, List.set_cons_zero, List.set_cons_succ])
    have kz1 := h1.size
    (try simp only [World.size_alloc, World.size_setCell, World.size_drew] at kz1)
    have H1 := Lib.hid h1
    clear h1
    go_wp2
    go_ret
    exact ⟨rfl, (((Rel.refl _).alloc _).trans (h0.trans H1.out))⟩
  · have p1 := Q2 k2
    have p2 := Q3 k3
    have p3 := P4 k4
    clear P1 P2 P3 P4 Q2 Q3 Q4
    rw [kv]
    go_enter Tryd.func69, Tryd.ntmps69
    go_wp2_with fail
    refine wp_region_calm (fun _ w' => w'.cell? { block := w.heap.size, off := 0 } = some (.int .i64 n) ∧ w'.cell? { block := w.heap.size, off := 1 } = some (.int .i64 d)) (fun _ => false) [0, 1, 2, 3, 4, 5, 6, 7, 8, 9, 10, 11, 12, 13, 14, 15, 16, 17, 18, 19, 20, 21, 22, 23, 24, 25, 26, 27, 28] 0 (by kernel_rfl) (by kernel_rfl) ?hst ?hS0 (fun w0 h0 => ?_)
    case hst => exact fun _ _ _ h r => ⟨r.cell h.1, r.cell h.2⟩
    case hS0 => exact ⟨by go_simp, by go_simp⟩
    iterate 19
      refine wpCalm_go rfl (by kernel_rfl) (fun K hK => ?_)
      apply Exists.intro
      refine ⟨fun M w hM hS => ?_, hK _ ?_⟩
      · have hc := hS.1
        have hc' := hS.2
        unfold calmAt
        go_simp
        exact ⟨rfl, Rel.refl _⟩
      clear hK K
    iterate 8 (refine wpCalm_no rfl (by kernel_rfl) (fun K hK => hK _ ?_); clear hK K)
    iterate 2
      refine wpCalm_go rfl (by kernel_rfl) (fun K hK => ?_)
      apply Exists.intro
      refine ⟨fun M w hM hS => ?_, hK _ ?_⟩
      · have hc := hS.1
        have hc' := hS.2
        unfold calmAt
        go_simp
        exact ⟨rfl, Rel.refl _⟩
      clear hK K
    refine wpAnyR_end (by kernel_rfl) (fun w1 h1 => ?_)
    (try simp only [Act.put, List.setIfInBounds_toArray, List.set_cons_zero, List.set_cons_succ])
    have kz1 := h1.size
    (try simp only [World.size_alloc, World.size_setCell, World.size_drew] at kz1)
    have H1 := Lib.hid h1
    clear h1
    go_wp2
    go_ret
    exact ⟨rfl, (((Rel.refl _).alloc _).trans (h0.trans H1.out))⟩
  · have p2 := Q3 k3
    have p3 := Q4 k4
    clear P1 P2 P3 P4 Q2 Q3 Q4
    have G1 := Lib.hid (fun w => rsize_any n w n0 n1)
    obtain ⟨b, rfl⟩ := Int.eq_ofNat_of_zero_le (show 0 ≤ d by omega)
    rw [Int.natAbs_natCast] at kv
    have hbw := u64_nat (n := b) (by omega)
    have G := Lib.hid (fun w => rgcd_any n.natAbs b w (by omega) (by omega))
    generalize Nat.gcd n.natAbs b = g at *
    generalize n.natAbs = a at *
    generalize validB n b = v at *
    go_enter Tryd.func69, Tryd.ntmps69
    go_wp2_with fail
    refine wp_region_calm (fun _ w' => w'.cell? { block := w.heap.size, off := 0 } = some (.int .i64 n) ∧ w'.cell? { block := w.heap.size, off := 1 } = some (.int .i64 b)) (fun _ => false) [0, 1, 2, 3, 4, 5, 6, 7, 8, 9, 10, 11, 12, 13, 14, 15, 16, 17, 18, 19, 20, 21, 22, 23, 24, 25, 26, 27, 28] 0 (by kernel_rfl) (by kernel_rfl) ?hst ?hS0 (fun w0 h0 => ?_)
    case hst => exact fun _ _ _ h r => ⟨r.cell h.1, r.cell h.2⟩
    case hS0 => exact ⟨by go_simp, by go_simp⟩
    iterate 21
      refine wpCalm_go rfl (by kernel_rfl) (fun K hK => ?_)
      apply Exists.intro
      refine ⟨fun M w hM hS => ?_, hK _ ?_⟩
      · have hc := hS.1
        have hc' := hS.2
        unfold calmAt
        go_simp
        exact ⟨rfl, Rel.refl _⟩
      clear hK K
    refine wpCalm_go rfl (by kernel_rfl) (fun K hK => ?_)
    apply Exists.intro
    refine ⟨fun M w hM hS => ?_, hK _ ?_⟩
    · unfold calmAt
      go_simp
      with_reducible refine (G1.out _).mono ?_
      rintro e w1 ⟨rfl, rfl⟩
      exact ⟨rfl, Rel.refl _⟩
    clear hK K
    iterate 3
      refine wpCalm_go rfl (by kernel_rfl) (fun K hK => ?_)
      apply Exists.intro
      refine ⟨fun M w hM hS => ?_, hK _ ?_⟩
      · have hc := hS.1
        have hc' := hS.2
        unfold calmAt
        go_simp
        exact ⟨rfl, Rel.refl _⟩
      clear hK K
    refine wpCalm_go rfl (by kernel_rfl) (fun K hK => ?_)
    apply Exists.intro
    refine ⟨fun M w hM hS => ?_, hK _ ?_⟩
    · unfold calmAt
      go_simp
      with_reducible refine (G.out _).mono ?_
      rintro e w1 ⟨rfl, hb⟩
      exact ⟨rfl, hb⟩
    clear hK K
    iterate 3
      refine wpCalm_go rfl (by kernel_rfl) (fun K hK => ?_)
      apply Exists.intro
      refine ⟨fun M w hM hS => ?_, hK _ ?_⟩
      · unfold calmAt
        go_simp
        exact ⟨rfl, Rel.refl _⟩
      clear hK K
    refine wpAnyR_end (by kernel_rfl) (fun w1 h1 => ?_)
    (try simp only [Act.put, List.setIfInBounds_toArray, List.set_cons_zero, List.set_cons_succ])
    have kz1 := h1.size
    (try simp only [World.size_alloc, World.size_setCell, World.size_drew] at kz1)
    have H1 := Lib.hid h1
    clear h1
    go_wp2
    go_ret
    exact ⟨rfl, (((Rel.refl _).alloc _).trans (h0.trans H1.out))⟩

end Go.Proofs.YtnhmebhmlbofgaaDoor

/- Contracts of Make, MakeFraction, Pick and awake. No conditions but those printed. -/
namespace Go.Proofs.YtnhmebhmlbofgaaDoor
open Go.RowKit Frac

attribute [local go_sem] calmUpon
set_option linter.unusedSimpArgs false
set_option linter.unusedVariables false

theorem hi_small {n : Nat} (h : n < 18446744073709551616) : hi64 n = 0 := by unfold hi64; omega
theorem lo_small {n : Nat} (h : n < 18446744073709551616) : lo64 n = n := by unfold lo64; omega

theorem lowest_any (s : Bool) (X d : Nat) (w : World) (hX : X < 340282366920938463463374607431768211456) (hd : 0 < d) (hd2 : d < 18446744073709551616) :
    Calls Tryd.prog 50 #[.bool s, .agg #[.int .u64 (hi64 X), .int .u64 (lo64 X)], .int .u64 d] w (FrRes (wN s (X / Nat.gcd X d) (d / Nat.gcd X d)) (wD (X / Nat.gcd X d) (d / Nat.gcd X d)) (wE (X / Nat.gcd X d) (d / Nat.gcd X d)) w) := by
  have hg : 0 < Nat.gcd X d := Nat.gcd_pos_of_pos_right _ hd
  have hgd : Nat.gcd X d ≤ d := Nat.gcd_le_right _ hd
  have hge : Nat.gcd d (X % d) = Nat.gcd X d := by rw [Nat.gcd_comm X d, Nat.gcd_rec d X, Nat.gcd_comm]
  have hm : X % d < d := Nat.mod_lt _ hd
  refine lowest_core s (hi64 X) (lo64 X) d (X % d) (Nat.gcd X d) (hi64 (X / Nat.gcd X d)) (lo64 (X / Nat.gcd X d)) (X % Nat.gcd X d) (d / Nat.gcd X d) (hi64 (X / d)) (lo64 (X / d)) _ _ _ w hg hd2 rfl
    (Lib.hid fun w => rover_any X d w hX hd hd2) (Lib.hid fun w => by have := rgcd_any d (X % d) w hd2 (by omega); rwa [hge] at this) (Lib.hid fun w => rover_any X (Nat.gcd X d) w hX hg (by omega)) ?_
  have hdd : d / Nat.gcd X d < 18446744073709551616 := Nat.lt_of_le_of_lt (Nat.div_le_self _ _) hd2
  have h1 := hi_small hdd
  have h2 := lo_small hdd
  rcases w_ways2 s (X / Nat.gcd X d) (d / Nat.gcd X d) with h | h | ⟨_, _, h, _⟩ | ⟨a, b, c, e, f⟩ | ⟨a, b, c, e, f, g, k, l, m⟩
  · exact .inl h
  · exact .inr (.inl h)
  · rw [h1] at h; simp at h
  · rw [h2] at e; exact .inr (.inr (.inl ⟨a, b, e, f⟩))
  · rw [h2] at e g l; exact .inr (.inr (.inr ⟨a, b, e, f, g, k, l, m⟩))

theorem lowest_small (s : Bool) (X d : Nat) (w : World) (hX : X < 18446744073709551616) (hd : 0 < d) (hd2 : d < 18446744073709551616) :
    Calls Tryd.prog 50 #[.bool s, .agg #[.int .u64 0, .int .u64 X], .int .u64 d] w (FrRes (wN s (X / Nat.gcd X d) (d / Nat.gcd X d)) (wD (X / Nat.gcd X d) (d / Nat.gcd X d)) (wE (X / Nat.gcd X d) (d / Nat.gcd X d)) w) := by
  have h := lowest_any s X d w (by omega) hd hd2
  rw [hi_small hX, lo_small hX] at h
  exact h

set_option maxHeartbeats 1600000 in
theorem rmake_core (n d : Int) (s : Bool) (a b : Nat) (R1 R2 R3 : Int) (w : World) (hd : d ≠ 0)
    (h : (n < 0 ∧ d < 0 ∧ s = false) ∨ (n < 0 ∧ 0 < d ∧ s = true) ∨ (0 ≤ n ∧ d < 0 ∧ s = true) ∨ (0 ≤ n ∧ 0 < d ∧ s = false))
    (S1 : Hid (∀ w, Calls Tryd.prog 51 #[.int .i64 n] w fun e w' => e = .returned (.int .u64 a) ∧ w = w'))
    (S2 : Hid (∀ w, Calls Tryd.prog 51 #[.int .i64 d] w fun e w' => e = .returned (.int .u64 b) ∧ w = w'))
    (hW : Hid (∀ w, Calls Tryd.prog 50 #[.bool s, .agg #[.int .u64 0, .int .u64 a], .int .u64 b] w (FrRes R1 R2 R3 w))) :
    Calls Tryd.prog 30 #[.int .i64 n, .int .i64 d] w (FrRes R1 R2 R3 w) := by
  have z1 : (d == 0) = false := by simp; omega
  unfold FrRes at hW ⊢
  have hN : ∀ x : Int, x < 0 → decide (x < 0) = true := by simp
  have hP : ∀ x : Int, 0 ≤ x → decide (x < 0) = false := by intro x hx; simp; omega
  rcases h with ⟨h1, h2, rfl⟩ | ⟨h1, h2, rfl⟩ | ⟨h1, h2, rfl⟩ | ⟨h1, h2, rfl⟩
  · have z3 := hN n h1; have z4 := hN d h2; clear hN hP
    go_enter Tryd.func30, Tryd.ntmps30
    go_wp2_with fail
    with_reducible refine (S1.out _).mono ?_
    rintro e w1 ⟨rfl, rfl⟩
    go_wp2_with fail
    with_reducible refine (S2.out _).mono ?_
    rintro e w1 ⟨rfl, rfl⟩
    go_wp2_with fail
    with_reducible refine (hW.out _).mono ?_
    rintro e w1 ⟨rfl, h3⟩
    have q := keep2 h3 (b := w.heap.size) (by first | (simp; done) | (simp; omega) | omega)
    have kc3_0_0 := q.1
    have kc3_0_1 := q.2.1
    have kf3_0_0 := q.2.2.1
    have kf3_0_1 := q.2.2.2.1
    have kl3_0 := q.2.2.2.2.1
    have kn3_0 := q.2.2.2.2.2.1
    have km3_0 := q.2.2.2.2.2.2
    clear q
    have kz3 := h3.size
    (try simp only [World.size_alloc, World.size_setCell, World.size_drew] at kz3)
    have H3 := Lib.hid h3
    clear h3
    go_wp2
    refine bodyPost_ret ?_ rfl ⟨rfl, ?_⟩
    · simp [results, Tryd.results30, go_sem, kc3_0_0, kc3_0_1, kl3_0]
    · (show Rel _ _; repeat (first | with_reducible exact Rel.refl _ | with_reducible refine Rel.alloc ?_ _ | with_reducible refine Rel.setCell ?_ (by first | (simp; done) | (simp; omega)) _ | with_reducible refine Rel.drew ?_ | with_reducible refine Rel.trans ?_ H3.out | with_reducible refine Rel.trans ?_ H2.out | with_reducible refine Rel.trans ?_ H1.out | with_reducible refine Rel.trans ?_ H0.out))
  · have z3 := hN n h1; have z4 := hP d (by omega); clear hN hP
    go_enter Tryd.func30, Tryd.ntmps30
    go_wp2_with fail
    with_reducible refine (S1.out _).mono ?_
    rintro e w1 ⟨rfl, rfl⟩
    go_wp2_with fail
    with_reducible refine (S2.out _).mono ?_
    rintro e w1 ⟨rfl, rfl⟩
    go_wp2_with fail
    with_reducible refine (hW.out _).mono ?_
    rintro e w1 ⟨rfl, h3⟩
    have q := keep2 h3 (b := w.heap.size) (by first | (simp; done) | (simp; omega) | omega)
    have kc3_0_0 := q.1
    have kc3_0_1 := q.2.1
    have kf3_0_0 := q.2.2.1
    have kf3_0_1 := q.2.2.2.1
    have kl3_0 := q.2.2.2.2.1
    have kn3_0 := q.2.2.2.2.2.1
    have km3_0 := q.2.2.2.2.2.2
    clear q
    have kz3 := h3.size
    (try simp only [World.size_alloc, World.size_setCell, World.size_drew] at kz3)
    have H3 := Lib.hid h3
    clear h3
    go_wp2
    refine bodyPost_ret ?_ rfl ⟨rfl, ?_⟩
    · simp [results, Tryd.results30, go_sem, kc3_0_0, kc3_0_1, kl3_0]
    · (show Rel _ _; repeat (first | with_reducible exact Rel.refl _ | with_reducible refine Rel.alloc ?_ _ | with_reducible refine Rel.setCell ?_ (by first | (simp; done) | (simp; omega)) _ | with_reducible refine Rel.drew ?_ | with_reducible refine Rel.trans ?_ H3.out | with_reducible refine Rel.trans ?_ H2.out | with_reducible refine Rel.trans ?_ H1.out | with_reducible refine Rel.trans ?_ H0.out))
  · have z3 := hP n h1; have z4 := hN d h2; clear hN hP
    go_enter Tryd.func30, Tryd.ntmps30
    go_wp2_with fail
    with_reducible refine (S1.out _).mono ?_
    rintro e w1 ⟨rfl, rfl⟩
    go_wp2_with fail
    with_reducible refine (S2.out _).mono ?_
    rintro e w1 ⟨rfl, rfl⟩
    go_wp2_with fail
    with_reducible refine (hW.out _).mono ?_
    rintro e w1 ⟨rfl, h3⟩
    have q := keep2 h3 (b := w.heap.size) (by first | (simp; done) | (simp; omega) | omega)
    have kc3_0_0 := q.1
    have kc3_0_1 := q.2.1
    have kf3_0_0 := q.2.2.1
    have kf3_0_1 := q.2.2.2.1
    have kl3_0 := q.2.2.2.2.1
    have kn3_0 := q.2.2.2.2.2.1
    have km3_0 := q.2.2.2.2.2.2
    clear q
    have kz3 := h3.size
    (try simp only [World.size_alloc, World.size_setCell, World.size_drew] at kz3)
    have H3 := Lib.hid h3
    clear h3
    go_wp2
    refine bodyPost_ret ?_ rfl ⟨rfl, ?_⟩
    · simp [results, Tryd.results30, go_sem, kc3_0_0, kc3_0_1, kl3_0]
    · (show Rel _ _; repeat (first | with_reducible exact Rel.refl _ | with_reducible refine Rel.alloc ?_ _ | with_reducible refine Rel.setCell ?_ (by first | (simp; done) | (simp; omega)) _ | with_reducible refine Rel.drew ?_ | with_reducible refine Rel.trans ?_ H3.out | with_reducible refine Rel.trans ?_ H2.out | with_reducible refine Rel.trans ?_ H1.out | with_reducible refine Rel.trans ?_ H0.out))
  · have z3 := hP n h1; have z4 := hP d (by omega); clear hN hP
    go_enter Tryd.func30, Tryd.ntmps30
    go_wp2_with fail
    with_reducible refine (S1.out _).mono ?_
    rintro e w1 ⟨rfl, rfl⟩
    go_wp2_with fail
    with_reducible refine (S2.out _).mono ?_
    rintro e w1 ⟨rfl, rfl⟩
    go_wp2_with fail
    with_reducible refine (hW.out _).mono ?_
    rintro e w1 ⟨rfl, h3⟩
    have q := keep2 h3 (b := w.heap.size) (by first | (simp; done) | (simp; omega) | omega)
    have kc3_0_0 := q.1
    have kc3_0_1 := q.2.1
    have kf3_0_0 := q.2.2.1
    have kf3_0_1 := q.2.2.2.1
    have kl3_0 := q.2.2.2.2.1
    have kn3_0 := q.2.2.2.2.2.1
    have km3_0 := q.2.2.2.2.2.2
    clear q
    have kz3 := h3.size
    (try simp only [World.size_alloc, World.size_setCell, World.size_drew] at kz3)
    have H3 := Lib.hid h3
    clear h3
    go_wp2
    refine bodyPost_ret ?_ rfl ⟨rfl, ?_⟩
    · simp [results, Tryd.results30, go_sem, kc3_0_0, kc3_0_1, kl3_0]
    · (show Rel _ _; repeat (first | with_reducible exact Rel.refl _ | with_reducible refine Rel.alloc ?_ _ | with_reducible refine Rel.setCell ?_ (by first | (simp; done) | (simp; omega)) _ | with_reducible refine Rel.drew ?_ | with_reducible refine Rel.trans ?_ H3.out | with_reducible refine Rel.trans ?_ H2.out | with_reducible refine Rel.trans ?_ H1.out | with_reducible refine Rel.trans ?_ H0.out))

theorem rmake_any (n d : Int) (w : World) (n0 : -9223372036854775808 ≤ n) (n1 : n ≤ 9223372036854775807) (d0 : -9223372036854775808 ≤ d) (d1 : d ≤ 9223372036854775807) :
    Calls Tryd.prog 30 #[.int .i64 n, .int .i64 d] w (FrRes (mkN n d) (mkD n d) (mkE n d) w) := by
  by_cases hd : d = 0
  · subst hd
    have e1 : mkN n 0 = 0 := by simp [mkN]
    have e2 : mkD n 0 = 0 := by simp [mkD]
    have e3 : mkE n 0 = 3 := by simp [mkE]
    rw [e1, e2, e3]
    clear e1 e2 e3
    unfold FrRes
    go_enter Tryd.func30, Tryd.ntmps30
    go_wp2
    refine bodyPost_ret ?_ rfl ⟨rfl, ?_⟩
    · simp [results, Tryd.results30, go_sem]
    exact (Rel.refl _).alloc _
  · have hh : ∃ s : Bool, (n < 0 ∧ d < 0 ∧ s = false) ∨ (n < 0 ∧ 0 < d ∧ s = true) ∨ (0 ≤ n ∧ d < 0 ∧ s = true) ∨ (0 ≤ n ∧ 0 < d ∧ s = false) := by
      by_cases c1 : n < 0 <;> by_cases c2 : d < 0
      · exact ⟨false, .inl ⟨c1, c2, rfl⟩⟩
      · exact ⟨true, .inr (.inl ⟨c1, by omega, rfl⟩)⟩
      · exact ⟨true, .inr (.inr (.inl ⟨by omega, by omega, rfl⟩))⟩
      · exact ⟨false, .inr (.inr (.inr ⟨by omega, by omega, rfl⟩))⟩
    obtain ⟨s, hs⟩ := hh
    obtain ⟨j1, j2, j3⟩ := mk_join n d hd s (by by_cases h0 : n = 0; exact .inl h0; right; cases s <;> simp at hs ⊢ <;> omega)
    rw [← j1, ← j2, ← j3]
    exact rmake_core n d s n.natAbs d.natAbs _ _ _ w hd hs (Lib.hid fun w => rsize_any n w n0 n1) (Lib.hid fun w => rsize_any d w d0 d1) (Lib.hid fun w => lowest_small _ _ _ w (by omega) (by omega) (by omega))

theorem tmod_gt (v n : Int) (h : 0 < n) : -n < Int.tmod v n := by
  have h1 := Int.tmod_lt_of_pos (-v) h
  rw [Int.neg_tmod] at h1; omega
theorem fpick_eq (v n : Int) (h : 1 ≤ n) : Int.tmod (Int.tmod v n + n) n = v % n := by
  have hn := Int.emod_nonneg v (show n ≠ 0 by omega)
  have hl := Int.emod_lt_of_pos v (show 0 < n by omega)
  by_cases hv : 0 ≤ v
  · rw [Int.tmod_eq_emod_of_nonneg hv, Int.tmod_eq_emod_of_nonneg (by omega), Int.add_emod_right, Int.emod_emod]
  · have hb := Int.tmod_lt_of_pos v (show 0 < n by omega)
    have hb2 := tmod_gt v n (by omega)
    rw [Int.tmod_eq_emod_of_nonneg (by omega), Int.add_emod_right]
    have := Int.emod_def (Int.tmod v n) n
    have e : v.tmod n % n = v % n := by
      have h1 := Int.tmod_def v n
      rw [h1, Int.sub_mul_emod_self_left]
    exact e

set_option maxHeartbeats 400000 in
theorem pick_any (v n : Int) (w : World) (v0 : -9223372036854775808 ≤ v) (v1 : v ≤ 9223372036854775807) (h1 : 1 ≤ n) (h2 : n ≤ 4000000000000000000) :
    Calls Tryd.prog 8 #[.int .i64 v, .int .i64 n] w fun e w' => e = .returned (.int .i64 (v % n)) ∧ w = w' := by
  have hb := Int.tmod_lt_of_pos v (show 0 < n by omega)
  have hb2 := tmod_gt v n (by omega)
  have z1 : (n == 0) = false := by simp; omega
  have z2 : ¬ n = 0 := by omega
  rw [← fpick_eq v n h1]
  by_cases hv : 0 ≤ v
  · rw [Int.tmod_eq_emod_of_nonneg hv] at hb hb2 ⊢
    have := Int.emod_nonneg v (show n ≠ 0 by omega)
    rw [Int.tmod_eq_emod_of_nonneg (show 0 ≤ v % n + n by omega)]
    go_enter Tryd.func8, Tryd.ntmps8
    go_wp2
    go_ret
    exact ⟨rfl, rfl⟩
  · have hlt : v < 0 := by omega
    generalize ht : Int.tmod v n = t at *
    have HT := ht
    rw [Int.tmod_eq_emod_of_nonneg (show 0 ≤ t + n by omega)]
    go_enter Tryd.func8, Tryd.ntmps8
    go_wp2
    go_ret
    exact ⟨rfl, rfl⟩

end Go.Proofs.YtnhmebhmlbofgaaDoor

/- Contracts of awake and of. No conditions but those printed. -/
namespace Go.Proofs.YtnhmebhmlbofgaaDoor
open Go.RowKit Frac

attribute [local go_sem] calmUpon
set_option linter.unusedSimpArgs false
set_option linter.unusedVariables false

theorem mk_bd (n d : Int) : (-1000000000000000 ≤ mkN n d ∧ mkN n d ≤ 1000000000000000) ∧ (0 ≤ mkD n d ∧ mkD n d ≤ 1000000000) := by
  unfold mkN mkD
  by_cases hd : d = 0
  · rw [if_pos hd, if_pos hd]; omega
  · rw [if_neg hd, if_neg hd]
    rcases n_cases (mkS n d) (d.natAbs : Int) (by omega) with ⟨_, e1, e2, _⟩ | ⟨_, _, hv, _⟩
    · rw [e1, e2]; omega
    · have := (validB_iff _ _).1 hv; omega

/-- Some fraction, valid or not. -/
def SomeFr (w : World) (e : Ending) (w' : World) : Prop :=
  ∃ n d : Int, ((-9223372036854775808 ≤ n ∧ n ≤ 9223372036854775807) ∧ (-9223372036854775808 ≤ d ∧ d ≤ 9223372036854775807)) ∧ e = .returned (.agg #[.int .i64 n, .int .i64 d]) ∧ Rel w w'

end Go.Proofs.YtnhmebhmlbofgaaDoor

/- Plain facts on the calendar: month lengths, starts of months and years; no program in sight. No conditions. -/
namespace Go.Proofs.YtnhmebhmlbofgaaDoor.Cal

/-- Is the year a leap year? -/
def leapB (y : Int) : Bool := decide (y % 4 = 0 ∧ y % 100 ≠ 0 ∨ y % 400 = 0)

/-- The days of month m (1 to 12) of year y. -/
def mlen (y m : Int) : Int :=
  if m = 2 then (if leapB y = true then 29 else 28) else if m = 4 ∨ m = 6 ∨ m = 9 ∨ m = 11 then 30 else 31

/-- The length of month k, counted from January 1900. -/
def nlen (k : Nat) : Int := mlen (1900 + (k / 12 : Nat)) ((k % 12 : Nat) + 1)

/-- The first day of month k, counted from January 1900. -/
def msum : Nat → Int
  | 0 => 0
  | k + 1 => msum k + nlen k

/-- Is d a day? -/
def vdayB (d : Int) : Bool := decide (0 ≤ d ∧ d ≤ 73048)
/-- The month of a day, counted from January 1900. -/
noncomputable def monOf (d : Int) : Nat := Classical.epsilon fun k => k < 2400 ∧ msum k ≤ d ∧ d < msum k + nlen k
noncomputable def dD (d : Int) : Int := if vdayB d = true then d - msum (monOf d) + 1 else 0
end Go.Proofs.YtnhmebhmlbofgaaDoor.Cal

/- Contracts of the calendar's small functions, for every argument that the statements hand them. No conditions but those printed. -/
namespace Go.Proofs.YtnhmebhmlbofgaaDoor
open Go.RowKit Cal

theorem ret_b {a b : Bool} (h : a = b) : Ending.returned (.bool a) = .returned (.bool b) := by rw [h]

/-- A month's number is one. -/
def vmonB (d : Int) : Bool := decide (0 ≤ d ∧ d ≤ 2399)

end Go.Proofs.YtnhmebhmlbofgaaDoor

/- Contracts of the calendar's Day and of the reference's Day, start and monthAt. No conditions but those printed. -/
namespace Go.Proofs.YtnhmebhmlbofgaaDoor
open Go.RowKit Cal

theorem ret_ib {k : IntKind} {a b : Int} {p q : Bool} (h : a = b) (h' : p = q) : Ending.returned (.tuple #[.int k a, .bool p]) = .returned (.tuple #[.int k b, .bool q]) := by rw [h, h']

end Go.Proofs.YtnhmebhmlbofgaaDoor

/- Contracts of Month, MonthStart, MonthDays, Weekday, AddMonths, Birthday of the calendar and of the reference. No conditions but those printed. -/
namespace Go.Proofs.YtnhmebhmlbofgaaDoor
open Go.RowKit Cal

/-- The month of a day; -1 where d is no day. -/
noncomputable def monI (d : Int) : Int := if vdayB d = true then (monOf d : Int) else -1
/-- The first day of a month; 0 where m is no month. -/
def mstN (m : Int) : Int := if vmonB m = true then msum m.toNat else 0
/-- The days of a month; 0 where m is no month. -/
def mdyN (m : Int) : Int := if vmonB m = true then nlen m.toNat else 0
end Go.Proofs.YtnhmebhmlbofgaaDoor

/- Contracts of AddMonths, Birthday and Age of the calendar and of the reference. No conditions but those printed. -/
namespace Go.Proofs.YtnhmebhmlbofgaaDoor
open Go.RowKit Cal

/-- May n months be added to day d? -/
def addB (d n : Int) : Bool := vdayB d && (decide (-2399 ≤ n) && decide (n ≤ 2399))
/-- Is there a day n months behind day d? -/
noncomputable def addOkB (d n : Int) : Bool := addB d n && vmonB (monI d + n)
/-- That day; 0 where there is none. -/
noncomputable def addN (d n : Int) : Int := if addOkB d n = true then mstN (monI d + n) + min (dD d) (mdyN (monI d + n)) - 1 else 0
end Go.Proofs.YtnhmebhmlbofgaaDoor

/- Plain facts on strings of decimal digits. No program in sight. -/
namespace Go.Proofs.YtnhmebhmlbofgaaDoor.Str

/-- The decimal digits of n, at least l of them; fuel f. -/
def dl : Nat → Nat → Nat → List UInt8
  | 0, _, _ => []
  | f + 1, n, l => if n = 0 ∧ l = 0 then [] else dl f (n / 10) (l - 1) ++ [UInt8.ofNat (48 + n % 10)]

theorem dl_stop (f : Nat) : dl f 0 0 = [] := by cases f <;> simp [dl]
theorem dl_step (f n l : Nat) (h : 0 < n ∨ 0 < l) : dl (f + 1) n l = dl f (n / 10) (l - 1) ++ [UInt8.ofNat (48 + n % 10)] := by
  rw [dl, if_neg (by omega)]

theorem dl_length (f n l : Nat) : (dl f n l).length ≤ f := by
  induction f generalizing n l with
  | zero => simp [dl]
  | succ f ih =>
    rw [dl]; split
    · simp
    · have := ih (n / 10) (l - 1); simp; omega

theorem mk_toList (s : ByteArray) : (⟨s.data.toList.toArray⟩ : ByteArray) = s := by simp

theorem append_mk (l : List UInt8) (s : ByteArray) : (⟨l.toArray⟩ : ByteArray) ++ s = ⟨(l ++ s.data.toList).toArray⟩ := by
  have := ByteArray.mk_append_mk l s.data.toList
  rw [mk_toList] at this
  rw [this]

theorem digit_cut (n : Nat) (h : n < 10) : (ByteArray.mk #[48, 49, 50, 51, 52, 53, 54, 55, 56, 57]).extract n (n + 1) = ⟨[UInt8.ofNat (48 + n)].toArray⟩ := by
  have h10 : n = 0 ∨ n = 1 ∨ n = 2 ∨ n = 3 ∨ n = 4 ∨ n = 5 ∨ n = 6 ∨ n = 7 ∨ n = 8 ∨ n = 9 := by omega
  rcases h10 with rfl | rfl | rfl | rfl | rfl | rfl | rfl | rfl | rfl | rfl <;> decide

theorem dig_k {X k m : Nat} (hX : X ≤ 1000000000000000000) (hm : m = X / 10 ^ k) (h : ¬ m = 0) : k ≤ 18 := by
  by_cases c : k ≤ 18
  · exact c
  · have h1 : 10 ^ 19 ≤ 10 ^ k := Nat.pow_le_pow_right (by omega) (by omega)
    have h2 : X / 10 ^ k = 0 := Nat.div_eq_of_lt (by omega)
    omega

theorem dig_step {X k m l : Nat} {s : ByteArray} (hk : k ≤ 18) (h : 0 < m ∨ 0 < l - k) (hE : dl 40 X l = dl (40 - k) m (l - k) ++ s.data.toList) :
    dl 40 X l = dl (40 - (k + 1)) (m / 10) (l - (k + 1)) ++ ((ByteArray.mk #[48, 49, 50, 51, 52, 53, 54, 55, 56, 57]).extract (m % 10) (m % 10 + 1) ++ s).data.toList := by
  rw [hE, show 40 - k = (40 - (k + 1)) + 1 by omega, dl_step _ _ _ h, digit_cut _ (by omega), append_mk]
  simp [Nat.sub_sub]

theorem dig_div {X k m : Nat} (hm : m = X / 10 ^ k) : m / 10 = X / 10 ^ (k + 1) := by
  rw [hm, Nat.div_div_eq_div_mul, Nat.pow_succ]

theorem dig_size (n : Nat) (s : ByteArray) (h : n < 10) : ((ByteArray.mk #[48, 49, 50, 51, 52, 53, 54, 55, 56, 57]).extract n (n + 1) ++ s).size = s.size + 1 := by
  rw [digit_cut _ h, append_mk]
  show ([UInt8.ofNat (48 + n)] ++ s.data.toList).toArray.size = s.data.size + 1
  rw [List.size_toArray, List.length_append, List.length_singleton, Array.length_toList]; omega

/-- A text of decimal digits. -/
def dgt (x l : Int) : ByteArray := ⟨(dl 40 x.toNat l.toNat).toArray⟩
theorem dgt_size (x l : Int) : (dgt x l).size ≤ 40 := by
  have := dl_length 40 x.toNat l.toNat
  show (dl 40 x.toNat l.toNat).toArray.size ≤ 40
  simpa using this

/-- Are all bytes decimal digits? -/
def allD (l : List UInt8) : Bool := l.all fun c => decide (48 ≤ (c.toNat : Int)) && decide ((c.toNat : Int) ≤ 57)
/-- The value of a text of digits. -/
def val (l : List UInt8) : Int := l.foldl (fun a c => 10 * a + ((c.toNat : Int) - 48)) 0

theorem allD_snoc (l : List UInt8) (c : UInt8) : allD (l ++ [c]) = (allD l && (decide (48 ≤ (c.toNat : Int)) && decide ((c.toNat : Int) ≤ 57))) := by
  simp [allD]
theorem val_snoc (l : List UInt8) (c : UInt8) : val (l ++ [c]) = 10 * val l + ((c.toNat : Int) - 48) := by
  simp [val]
theorem allD_nil : allD [] = true := rfl
theorem val_nil : val [] = 0 := rfl

theorem snoc_ind {p : List UInt8 → Prop} (h0 : p []) (h1 : ∀ l c, p l → p (l ++ [c])) (l : List UInt8) : p l := by
  have : ∀ n (l : List UInt8), l.length = n → p l := by
    intro n
    induction n with
    | zero => intro l hl; rw [List.length_eq_zero_iff.1 hl]; exact h0
    | succ n ih =>
      intro l hl
      have hne : l ≠ [] := by intro e; rw [e] at hl; simp at hl
      rw [← List.dropLast_concat_getLast hne]
      exact h1 _ _ (ih _ (by simp [hl]))
  exact this _ l rfl

theorem val_bd (l : List UInt8) : allD l = true → 0 ≤ val l ∧ val l < ((10 ^ l.length : Nat) : Int) := by
  refine snoc_ind (p := fun l => allD l = true → 0 ≤ val l ∧ val l < ((10 ^ l.length : Nat) : Int)) ?_ ?_ l
  · intro _; simp [val_nil]
  · intro l c ih h
    rw [allD_snoc] at h
    simp at h
    obtain ⟨h1, h2, h3⟩ := h
    have := ih h1
    rw [val_snoc, List.length_append, List.length_singleton, Nat.pow_succ]
    omega
theorem val_le16 (l : List UInt8) (h : allD l = true) (hl : l.length ≤ 16) : 0 ≤ val l ∧ val l ≤ 10000000000000000 := by
  have h1 := val_bd l h
  have h2 : 10 ^ l.length ≤ 10 ^ 16 := Nat.pow_le_pow_right (by omega) hl
  omega

theorem take_snoc (s : ByteArray) (k : Nat) (h : k < s.size) : s.data.toList.take (k + 1) = s.data.toList.take k ++ [s[k]] := by
  rw [List.take_succ_eq_append_getElem (by simpa using h)]; rfl
theorem take_all (s : ByteArray) (k : Nat) (h : s.size ≤ k) : s.data.toList.take k = s.data.toList :=
  List.take_of_length_le (by simpa using h)

theorem allD_take (l : List UInt8) (k : Nat) (h : allD l = true) : allD (l.take k) = true := by
  unfold allD at *
  rw [List.all_eq_true] at *
  exact fun x hx => h x (List.mem_of_mem_take hx)
theorem allD_not (s : ByteArray) (k : Nat) (h : k < s.size) (hd : ¬ (48 ≤ (s[k].toNat : Int) ∧ (s[k].toNat : Int) ≤ 57)) : allD s.data.toList = false := by
  cases hA : allD s.data.toList
  · rfl
  · have := allD_take _ (k + 1) hA
    rw [take_snoc s k h, allD_snoc] at this
    simp at this
    omega

/-- The digits of a number, read back. -/
theorem allD_dl (f n l : Nat) : allD (dl f n l) = true := by
  induction f generalizing n l with
  | zero => rfl
  | succ f ih =>
    rw [dl]; split
    · rfl
    · rw [allD_snoc, ih]
      simp; omega
theorem val_dl (f n l : Nat) (hf : n < 10 ^ f) (hl : l ≤ f) : val (dl f n l) = n := by
  induction f generalizing n l with
  | zero => simp at hf; subst hf; rfl
  | succ f ih =>
    rw [dl]; split
    · rename_i h; rw [h.1]; rfl
    · rw [Nat.pow_succ] at hf
      have hlt : n / 10 < 10 ^ f := by omega
      rw [val_snoc, ih _ _ hlt (by omega)]
      have : (UInt8.ofNat (48 + n % 10)).toNat = 48 + n % 10 := by
        rw [UInt8.toNat_ofNat']; omega
      rw [this]; omega
theorem length_dl (f n l : Nat) (hn : n < 10 ^ l) (hl : l ≤ f) : (dl f n l).length = l := by
  induction f generalizing n l with
  | zero => simp [dl]; omega
  | succ f ih =>
    rw [dl]; split
    · rename_i h; simp [h.2]
    · rename_i h
      obtain ⟨l', rfl⟩ : ∃ l', l = l' + 1 := ⟨l - 1, by
        rcases Nat.eq_zero_or_pos l with e | e
        · rw [e] at hn; simp at hn; omega
        · omega⟩
      rw [Nat.pow_succ] at hn
      have := ih (n / 10) l' (by omega) (by omega)
      simp [this]
/-- A text of l digits is that of its value. -/
theorem dl_val (f : Nat) (l : List UInt8) : allD l = true → l.length ≤ f → dl f (val l).toNat l.length = l := by
  intro h hl
  induction f generalizing l with
  | zero => have : l = [] := List.length_eq_zero_iff.1 (by omega); subst this; rfl
  | succ f ih =>
    rcases List.eq_nil_or_concat l with rfl | ⟨l', c, rfl⟩
    · simp [val_nil, dl]
    · rw [List.concat_eq_append] at h hl ⊢
      rw [allD_snoc] at h
      simp at h
      obtain ⟨h1, h2, h3⟩ := h
      have hb := val_bd l' h1
      rw [List.length_append, List.length_singleton, dl_step _ _ _ (by omega), val_snoc]
      rw [List.length_append, List.length_singleton] at hl
      rw [show (10 * val l' + ((c.toNat : Int) - 48)).toNat / 10 = (val l').toNat by omega, show l'.length + 1 - 1 = l'.length by omega, ih l' h1 (by omega)]
      congr 2
      rw [show 48 + (10 * val l' + ((c.toNat : Int) - 48)).toNat % 10 = c.toNat by omega]
      simp

end Go.Proofs.YtnhmebhmlbofgaaDoor.Str

/- Contracts of digits, number, Format and Parse of the calendar and of the reference. No conditions but those printed. -/
namespace Go.Proofs.YtnhmebhmlbofgaaDoor
open Go.RowKit Cal Str

/-- The length of a string in a slot. -/
def strLen : Value → Nat
  | .string s => s.size
  | _ => 0

set_option maxHeartbeats 1000000 in
theorem rdigits_any (x l : Int) (w : World) (h0 : 0 ≤ x) (h1 : x ≤ 1000000000000000000) (l0 : 0 ≤ l) (l1 : l ≤ 10) :
    Calls Tryd.prog 76 #[.int .i64 x, .int .i64 l] w fun e w' => e = .returned (.string (dgt x l)) ∧ w = w' := by
  go_enter Tryd.func76, Tryd.ntmps76
  go_wp2
  go_loop [0, 5] (fun n t => ∃ (k : Nat) (m : Nat) (s : ByteArray), n = .int .i64 m ∧ t = .string s ∧ Hid (s.size = k) ∧ k ≤ 19 ∧ m ≤ 1000000000000000000 ∧ Hid (m = x.toNat / 10 ^ k) ∧ Hid (dl 40 x.toNat l.toNat = dl (40 - k) m (l.toNat - k) ++ s.data.toList)) (fun n t => (intOf n).toNat + (l.toNat - strLen t))
  case atStart => exact ⟨0, x.toNat, ⟨#[]⟩, by rw [show ((x.toNat : Nat) : Int) = x by omega], rfl, rfl, by omega, by omega, by unfold Hid; simp, by unfold Hid; simp⟩
  case round =>
    obtain ⟨k, m, s, rfl, rfl, hs, hk, hm, hd, hE⟩ := hrel
    have hX : x.toNat ≤ 1000000000000000000 := by omega
    have hs0 : s.size ≤ 19 := by rw [hs.out]; exact hk
    by_cases hz : m = 0
    · subst hz
      by_cases hl : (k : Int) < l
      · have hl2 : (s.size : Int) < l := by rw [hs.out]; exact hl
        have r1 := Lib.hid (dig_step (k := k) (m := 0) (by omega) (by omega) hE.out)
        have r2 := Lib.hid (dig_div hd.out)
        have r3 := Lib.hid (dig_size 0 s (by omega))
        go_wp2
        go_round
        case rel => exact ⟨k + 1, 0, _, rfl, rfl, r3.out.trans (by rw [hs.out]), by omega, by omega, r2.out, r1.out⟩
        case measure => simp only [strLen, r3.out]; simp [intOf]; omega
      · have hl2 : ¬ (s.size : Int) < l := by rw [hs.out]; exact hl
        go_wp2
        go_ret
        have e := hE.out
        rw [show l.toNat - k = 0 by omega, dl_stop, List.nil_append] at e
        exact ⟨by rw [dgt, e]; simp, rfl⟩
    · have hk8 := dig_k hX hd.out hz
      have r1 := Lib.hid (dig_step (k := k) (m := m) hk8 (by omega) hE.out)
      have r2 := Lib.hid (dig_div hd.out)
      have r3 := Lib.hid (dig_size (m % 10) s (by omega))
      have hz' : (0 : Int) < m := by omega
      go_wp2
      go_round
      case rel => exact ⟨k + 1, m / 10, _, by go_num, rfl, r3.out.trans (by rw [hs.out]), by omega, by omega, r2.out, r1.out⟩
      case measure => simp only [strLen, r3.out]; simp [intOf]; omega

end Go.Proofs.YtnhmebhmlbofgaaDoor

/- Contracts of Format, number and Parse of the calendar and of the reference. No conditions but those printed. -/
namespace Go.Proofs.YtnhmebhmlbofgaaDoor
open Go.RowKit Cal Str

/-- The value of a text of digits; 0 where it is none. -/
def numV (l : List UInt8) : Int := if allD l = true then val l else 0
theorem numV_no {l : List UInt8} (h : allD l = false) : numV l = 0 := by unfold numV; rw [if_neg (by simp [h])]
theorem numV_yes {l : List UInt8} (h : allD l = true) : numV l = val l := by unfold numV; rw [if_pos h]
/-- The same of a string. -/
def strV (s : ByteArray) : Int := numV s.data.toList
def strB (s : ByteArray) : Bool := allD s.data.toList
end Go.Proofs.YtnhmebhmlbofgaaDoor

/- Plain facts on the bytes of a text: blanks, words, numbers, signs, decimal texts. No program in sight. -/
namespace Go.Proofs.YtnhmebhmlbofgaaDoor.Tok
open Str

def low (c : UInt8) : Bool := decide (97 ≤ (c.toNat : Int)) && decide ((c.toNat : Int) ≤ 122)
def dgb (c : UInt8) : Bool := decide (48 ≤ (c.toNat : Int)) && decide ((c.toNat : Int) ≤ 57)
def inw (c : UInt8) : Bool := low c || (dgb c || ((c.toNat : Int) == 95))
def inn (c : UInt8) : Bool := inw c || ((c.toNat : Int) == 46)

theorem drop_cons (s : ByteArray) (k : Nat) (h : k < s.size) : s.data.toList.drop k = s[k] :: s.data.toList.drop (k + 1) := by
  rw [List.drop_eq_getElem_cons (by simpa using h)]; rfl
theorem drop_end (s : ByteArray) (k : Nat) (h : s.size ≤ k) : s.data.toList.drop k = [] :=
  List.drop_eq_nil_of_le (by simpa using h)
theorem drop_len (s : ByteArray) (k : Nat) : (s.data.toList.drop k).length = s.size - k := by
  rw [List.length_drop]; simp

/-- How many bytes are blanks or in comments (c: a comment has begun). -/
def skl : Bool → List UInt8 → Nat
  | _, [] => 0
  | c, x :: l => if (x.toNat : Int) = 10 then skl false l + 1 else if (x.toNat : Int) = 35 then skl true l + 1 else if c = false ∧ ¬ ((x.toNat : Int) = 9 ∨ (x.toNat : Int) = 13 ∨ (x.toNat : Int) = 32) then 0 else skl c l + 1
theorem skl_le (c : Bool) (l : List UInt8) : skl c l ≤ l.length := by
  induction l generalizing c with
  | nil => simp [skl]
  | cons x l ih =>
    have h0 := ih false
    have h1 := ih true
    have h2 := ih c
    simp only [skl, List.length_cons]
    split
    · omega
    · split
      · omega
      · split <;> omega
theorem skl_nil (c : Bool) : skl c [] = 0 := rfl
theorem skl_10 (c : Bool) {x : UInt8} (l : List UInt8) (h : (x.toNat : Int) = 10) : skl c (x :: l) = skl false l + 1 := by simp only [skl]; rw [if_pos h]
theorem skl_35 (c : Bool) {x : UInt8} (l : List UInt8) (h : (x.toNat : Int) = 35) : skl c (x :: l) = skl true l + 1 := by simp only [skl]; rw [if_neg (by omega), if_pos h]
theorem skl_in {x : UInt8} (l : List UInt8) (h : ¬ (x.toNat : Int) = 10) : skl true (x :: l) = skl true l + 1 := by
  simp only [skl]; rw [if_neg h]
  by_cases h3 : (x.toNat : Int) = 35
  · rw [if_pos h3]
  · rw [if_neg h3, if_neg (by simp)]
theorem skl_bl (c : Bool) {x : UInt8} (l : List UInt8) (h : (x.toNat : Int) = 9 ∨ (x.toNat : Int) = 13 ∨ (x.toNat : Int) = 32) : skl c (x :: l) = skl c l + 1 := by
  simp only [skl]; rw [if_neg (by omega), if_neg (by omega), if_neg (fun h' => h'.2 h)]
theorem skl_no {x : UInt8} (l : List UInt8) (h0 : ¬ (x.toNat : Int) = 10) (h1 : ¬ (x.toNat : Int) = 35) (h2 : ¬ ((x.toNat : Int) = 9 ∨ (x.toNat : Int) = 13 ∨ (x.toNat : Int) = 32)) : skl false (x :: l) = 0 := by
  simp only [skl]; rw [if_neg h0, if_neg h1, if_pos ⟨trivial, h2⟩]

/-- How many bytes at the head have a property. -/
def rn (p : UInt8 → Bool) : List UInt8 → Nat
  | [] => 0
  | x :: l => if p x = true then rn p l + 1 else 0
theorem rn_le (p : UInt8 → Bool) (l : List UInt8) : rn p l ≤ l.length := by
  induction l with
  | nil => simp [rn]
  | cons x l ih => simp only [rn, List.length_cons]; split <;> omega
theorem rn_nil (p : UInt8 → Bool) : rn p [] = 0 := rfl
theorem rn_yes {p : UInt8 → Bool} {x : UInt8} (l : List UInt8) (h : p x = true) : rn p (x :: l) = rn p l + 1 := by simp only [rn]; rw [if_pos h]
theorem rn_no {p : UInt8 → Bool} {x : UInt8} (l : List UInt8) (h : p x = false) : rn p (x :: l) = 0 := by simp only [rn]; rw [if_neg (by simp [h])]
theorem rn_all {p : UInt8 → Bool} {l : List UInt8} (h : l.all p = true) : rn p l = l.length := by
  induction l with
  | nil => rfl
  | cons x l ih => simp at h; rw [rn_yes _ h.1, ih (by simpa using h.2)]; rfl
theorem rn_take (p : UInt8 → Bool) (l : List UInt8) : (l.take (rn p l)).all p = true := by
  induction l with
  | nil => rfl
  | cons x l ih =>
    cases h : p x
    · rw [rn_no _ h]; rfl
    · rw [rn_yes _ h]; simp [h]; simpa using ih
theorem rn_app {p : UInt8 → Bool} {l m : List UInt8} (h : l.all p = true) : rn p (l ++ m) = l.length + rn p m := by
  induction l with
  | nil => simp
  | cons x l ih => simp at h; rw [List.cons_append, rn_yes _ h.1, ih (by simpa using h.2), List.length_cons]; omega

/-- The length of the sign at the head; 0: none. -/
def sg1 (c : UInt8) : Bool := (c.toNat : Int) == 60 || ((c.toNat : Int) == 62 || ((c.toNat : Int) == 61 || ((c.toNat : Int) == 43 || ((c.toNat : Int) == 45 || ((c.toNat : Int) == 42 || ((c.toNat : Int) == 47 || ((c.toNat : Int) == 40 || ((c.toNat : Int) == 41 || ((c.toNat : Int) == 123 || ((c.toNat : Int) == 125 || ((c.toNat : Int) == 44 || (c.toNat : Int) == 59)))))))))))
def sg2 (c d : UInt8) : Bool := ((c.toNat : Int) == 60 && (d.toNat : Int) == 61) || (((c.toNat : Int) == 62 && (d.toNat : Int) == 61) || ((c.toNat : Int) == 60 && (d.toNat : Int) == 62))
def sgl : List UInt8 → Nat
  | [] => 0
  | [c] => if sg1 c = true then 1 else 0
  | c :: d :: _ => if sg2 c d = true then 2 else if sg1 c = true then 1 else 0
theorem sgl_le (l : List UInt8) : sgl l ≤ l.length ∧ sgl l ≤ 2 := by
  match l with
  | [] => simp [sgl]
  | [c] => simp only [sgl, List.length_cons, List.length_nil]; split <;> omega
  | c :: d :: m => simp only [sgl, List.length_cons]; (split; omega; split <;> omega)

/-! Words -/
/-- A letter at the head, and word's bytes behind (true of no byte). -/
def okL : List UInt8 → Bool
  | [] => true
  | x :: l => low x && l.all inw
def wordB (s : ByteArray) : Bool := okL s.data.toList && (decide (1 ≤ s.size) && decide (s.size ≤ 12))
theorem low_inw {c : UInt8} (h : low c = true) : inw c = true := by unfold inw; rw [h]; rfl
theorem wordB_short {s : ByteArray} (h : s.size < 1) : wordB s = false := by unfold wordB; simp; omega
theorem wordB_long {s : ByteArray} (h : 12 < s.size) : wordB s = false := by unfold wordB; simp; omega
theorem wordB_ok {s : ByteArray} (h : okL s.data.toList = true) : wordB s = (decide (1 ≤ s.size) && decide (s.size ≤ 12)) := by unfold wordB; rw [h]; rfl
theorem list_head (s : ByteArray) (h : 0 < s.size) : s.data.toList = s[0] :: s.data.toList.drop 1 := by
  have := drop_cons s 0 h; rwa [List.drop_zero] at this
theorem wordB_head {s : ByteArray} (h : 0 < s.size) (hl : low s[0] = false) : wordB s = false := by
  unfold wordB; rw [list_head s h]; simp [okL, hl]
theorem okL_all {l : List UInt8} (h : okL l = true) : l.all inw = true := by
  cases l with
  | nil => rfl
  | cons x l => simp [okL] at h; simp [low_inw h.1]; exact h.2
theorem wordB_byte {s : ByteArray} {k : Nat} (h : k < s.size) (hi : inw s[k] = false) : wordB s = false := by
  cases hw : okL s.data.toList
  · unfold wordB; rw [hw]; rfl
  · have h1 := okL_all hw
    rw [List.all_eq_true] at h1
    have := h1 s[k] (by
      have hl : k < s.data.toList.length := by simpa using h
      exact List.getElem_mem hl)
    rw [hi] at this; cases this
theorem wordB_all {s : ByteArray} (h : 0 < s.size) (h12 : s.size ≤ 12) (hl : low s[0] = true) (ha : s.data.toList.all inw = true) : wordB s = true := by
  have hok : okL s.data.toList = true := by
    rw [list_head s h] at ha ⊢
    simp only [List.all_cons, Bool.and_eq_true] at ha
    simp only [okL, hl, ha.2]; rfl
  rw [wordB_ok hok]; simp; omega
theorem okL_snoc (l : List UInt8) (c : UInt8) (h : l ≠ []) : okL (l ++ [c]) = (okL l && inw c) := by
  cases l with
  | nil => exact absurd rfl h
  | cons x l => simp [okL, Bool.and_assoc]
theorem take_len (s : ByteArray) (k : Nat) (h : k ≤ s.size) : (s.data.toList.take k).length = k := by
  rw [List.length_take]; have : s.data.toList.length = s.size := by simp
  omega
theorem okL_step {s : ByteArray} {k : Nat} (h : k < s.size) (hA : okL (s.data.toList.take k) = true) (hi : inw s[k] = true) (h0 : 0 < k) : okL (s.data.toList.take (k + 1)) = true := by
  rw [take_snoc s k h, okL_snoc _ _ (by intro e; have h2 := take_len s k (by omega); rw [e] at h2; simp at h2; omega), hA, hi]; rfl
theorem okL_low {s : ByteArray} {k : Nat} (h : k < s.size) (hA : okL (s.data.toList.take k) = true) (hl : low s[k] = true) : okL (s.data.toList.take (k + 1)) = true := by
  by_cases h0 : 0 < k
  · exact okL_step h hA (low_inw hl) h0
  · obtain rfl : k = 0 := by omega
    rw [take_snoc s 0 h]; simp [okL, hl]
/-- Where the next token begins. -/
def skp (s : ByteArray) (a : Nat) : Nat := a + skl false (s.data.toList.drop a)
theorem skp_le {s : ByteArray} {a : Nat} (h : a ≤ s.size) : skp s a ≤ s.size ∧ a ≤ skp s a := by
  have := skl_le false (s.data.toList.drop a)
  rw [drop_len] at this
  unfold skp; omega

/-! Decimal texts -/
/-- The dimension that the last byte says, and the text without it. -/
def sufD (l : List UInt8) : Int := match l.getLast? with
  | none => 2
  | some c => if (c.toNat : Int) = 100 then 3 else if (c.toNat : Int) = 109 then 4 else 2
def bare (l : List UInt8) : List UInt8 := if sufD l = 2 then l else l.take (l.length - 1)
/-- What stands ahead of the first point; is there one; what stands behind it. -/
def ahd : List UInt8 → List UInt8
  | [] => []
  | x :: l => if (x.toNat : Int) = 46 then [] else x :: ahd l
def pnt : List UInt8 → Bool
  | [] => false
  | x :: l => (x.toNat : Int) == 46 || pnt l
def bhd : List UInt8 → List UInt8
  | [] => []
  | x :: l => if (x.toNat : Int) = 46 then l else bhd l
theorem ahd_len (l : List UInt8) : (ahd l).length ≤ l.length := by
  induction l with
  | nil => simp [ahd]
  | cons x l ih => simp only [ahd]; split <;> simp <;> omega
theorem bhd_len (l : List UInt8) : (ahd l).length + (bhd l).length ≤ l.length := by
  induction l with
  | nil => simp [ahd, bhd]
  | cons x l ih => simp only [ahd, bhd]; split <;> simp <;> omega
theorem bhd_no {l : List UInt8} (h : pnt l = false) : bhd l = [] ∧ ahd l = l := by
  induction l with
  | nil => exact ⟨rfl, rfl⟩
  | cons x l ih =>
    simp [pnt] at h
    have := ih h.2
    simp only [ahd, bhd]; rw [if_neg h.1, if_neg h.1, this.1, this.2]; exact ⟨rfl, rfl⟩
theorem pnt_split {l : List UInt8} (h : pnt l = true) : l = ahd l ++ 46 :: bhd l := by
  induction l with
  | nil => simp [pnt] at h
  | cons x l ih =>
    by_cases h1 : (x.toNat : Int) = 46
    · simp only [ahd, bhd]; rw [if_pos h1, if_pos h1]
      have : x = 46 := UInt8.toNat_inj.1 (by show x.toNat = 46; omega)
      rw [this]; rfl
    · simp [pnt, h1] at h
      simp only [ahd, bhd]; rw [if_neg h1, if_neg h1, List.cons_append, ← ih h]
def hd0 (l : List UInt8) : Bool := match l with
  | [] => false
  | x :: _ => (x.toNat : Int) == 48
/-- Has the bare text l the form of a number? -/
def lenB (l : List UInt8) : Bool := decide (1 ≤ (ahd l).length) && (decide ((ahd l).length ≤ 9) && (!(decide (2 ≤ (ahd l).length) && hd0 (ahd l)) && (!pnt l || (decide (1 ≤ (bhd l).length) && decide ((bhd l).length ≤ 4)))))
def frmB (l : List UInt8) : Bool := lenB l && (allD (ahd l) && allD (bhd l))
/-- Its digits' value, and the power of ten below. -/
def digN (l : List UInt8) : Int := val (ahd l) * ((10 ^ (bhd l).length : Nat) : Int) + val (bhd l)
def digD (l : List UInt8) : Int := ((10 ^ (bhd l).length : Nat) : Int)

theorem len_facts {l : List UInt8} (h : lenB l = true) : 1 ≤ (ahd l).length ∧ (ahd l).length ≤ 9 ∧ (bhd l).length ≤ 4 := by
  unfold lenB at h
  simp at h
  refine ⟨h.1, h.2.1, ?_⟩
  rcases h.2.2.2 with h4 | h4
  · rw [(bhd_no h4).1]; simp
  · exact h4.2

theorem dig_bd {l : List UInt8} (h : frmB l = true) : 0 ≤ digN l ∧ digN l < 10000000000000 ∧ 1 ≤ digD l ∧ digD l ≤ 10000 := by
  unfold frmB at h
  simp only [Bool.and_eq_true] at h
  obtain ⟨h1, h2, h3⟩ := h
  obtain ⟨l1, l2, l3⟩ := len_facts h1
  obtain ⟨v0, v1⟩ := val_bd _ h2
  obtain ⟨u0, u1⟩ := val_bd _ h3
  have p9 : ((10 ^ (ahd l).length : Nat) : Int) ≤ 1000000000 := by
    have := Nat.pow_le_pow_right (n := 10) (by decide) l2
    omega
  have b0 : 1 ≤ 10 ^ (bhd l).length := Nat.one_le_pow _ _ (by decide)
  have b4 : 10 ^ (bhd l).length ≤ 10000 := by
    have := Nat.pow_le_pow_right (n := 10) (by decide) l3
    omega
  unfold digN digD
  generalize 10 ^ (bhd l).length = t at *
  have m1 : val (ahd l) * (t : Int) ≤ 999999999 * t := Int.mul_le_mul_of_nonneg_right (by omega) (by omega)
  have m0 : 0 ≤ val (ahd l) * (t : Int) := Int.mul_nonneg v0 (by omega)
  refine ⟨by omega, by omega, by omega, by omega⟩

end Go.Proofs.YtnhmebhmlbofgaaDoor.Tok

/- Contract of the reference's FormatDecimal. No conditions but those printed. -/
import Derived.Test.YtnhmebhmlbofgaaDoorShrtA
namespace Go.Proofs.YtnhmebhmlbofgaaDoor
open Go.RowKit Cal Str Tok Frac Txt
attribute [local go_sem] calmUpon
set_option linter.unusedVariables false
set_option linter.unusedSimpArgs false

theorem valid_num {q : Int} (h0 : 0 ≤ q) (h1 : q ≤ 1000000000000000) : validB q 1 = true := by
  unfold validB; simp; omega

set_option maxHeartbeats 8000000 in
theorem rFormatDecimal_any (n d x : Int) (w : World) (n0 : -9223372036854775808 ≤ n) (n1 : n ≤ 9223372036854775807) (d0 : -9223372036854775808 ≤ d) (d1 : d ≤ 9223372036854775807) (x0 : -9223372036854775808 ≤ x) (x1 : x ≤ 9223372036854775807) :
    Calls Tryd.prog 58 #[.agg #[.int .i64 n, .int .i64 d], .int .i64 x] w (FdRes n d x w) := by
  have V := Lib.hid fun w => rvalid_any n d w n0 n1 d0 d1
  unfold BRes at V
  cases hv : validB n d
  · have hB := Lib.hid (fdB_no (x := x) (show fdC n d = false by unfold fdC; rw [hv]; rfl))
    rw [hv] at V
    clear hv
    go_enter Tryd.func58, Tryd.ntmps58
    go_wp2_with fail
    refine (V.out _).mono ?_
    rintro e w1 ⟨rfl, h1⟩
    have q := keep2 h1 (b := w.heap.size) (by first | (simp; done) | (simp; omega) | omega)
    have kc1_0_0 := q.1
    have kc1_0_1 := q.2.1
    have kf1_0_0 := q.2.2.1
    have kf1_0_1 := q.2.2.2.1
    have kl1_0 := q.2.2.2.2.1
    have kn1_0 := q.2.2.2.2.2.1
    have km1_0 := q.2.2.2.2.2.2
    clear q
    have kz1 := h1.size
    (try simp only [World.size_alloc, World.size_setCell, World.size_drew] at kz1)
    have H1 := Lib.hid h1
    clear h1
    go_wp2
    refine bodyPost_ret (v := .tuple #[.string ⟨#[]⟩, .bool false]) ?_ rfl (fd_ret_no hB.out ?_)
    · simp [results, Tryd.results58, go_sem]
    · (show Rel _ _; repeat (first | with_reducible exact Rel.refl _ | with_reducible refine Rel.alloc ?_ _ | with_reducible refine Rel.setCell ?_ (by first | (simp; done) | (simp; omega)) _ | with_reducible refine Rel.drew ?_ | with_reducible refine Rel.trans ?_ H1.out | with_reducible refine Rel.trans ?_ H0.out))
  · have hw := (validB_iff n d).1 hv
    obtain ⟨⟨g1, g2, g3, g4⟩, hg⟩ := hw
    rw [hv] at V
    have hCn : Hid (∀ (h : ¬ (0 ≤ n ∧ 10000 % d = 0 ∧ 2 ≤ x ∧ x ≤ 4 ∧ n / d ≤ 999999999)), fdB n d x = false) := fun h => by
      cases hB : fdB n d x
      · rfl
      · obtain ⟨hC, a, b, c⟩ := fdB_iff.1 hB
        obtain ⟨_, e, f⟩ := fdC_iff.1 hC
        exact absurd ⟨e, f, a, b, c⟩ h
    have dz : (d == 0) = false := by rw [beq_eq_false_iff_ne]; omega
    have dne : ¬ d = 0 := by omega
    have dm : (d == -1) = false := by rw [beq_eq_false_iff_ne]; omega
    by_cases hn : n < 0
    · have hB := Lib.hid (hCn.out (fun h => by omega))
      have bn : decide (n < 0) = true := decide_eq_true hn
      clear hv hg hCn
      go_enter Tryd.func58, Tryd.ntmps58
      go_wp2_with fail
      refine (V.out _).mono ?_
      rintro e w1 ⟨rfl, h1⟩
      have q := keep2 h1 (b := w.heap.size) (by first | (simp; done) | (simp; omega) | omega)
      have kc1_0_0 := q.1
      have kc1_0_1 := q.2.1
      have kf1_0_0 := q.2.2.1
      have kf1_0_1 := q.2.2.2.1
      have kl1_0 := q.2.2.2.2.1
      have kn1_0 := q.2.2.2.2.2.1
      have km1_0 := q.2.2.2.2.2.2
      clear q
      have kz1 := h1.size
      (try simp only [World.size_alloc, World.size_setCell, World.size_drew] at kz1)
      have H1 := Lib.hid h1
      clear h1
      go_wp2
      refine bodyPost_ret (v := .tuple #[.string ⟨#[]⟩, .bool false]) ?_ rfl (fd_ret_no hB.out ?_)
      · simp [results, Tryd.results58, go_sem]
      · (show Rel _ _; repeat (first | with_reducible exact Rel.refl _ | with_reducible refine Rel.alloc ?_ _ | with_reducible refine Rel.setCell ?_ (by first | (simp; done) | (simp; omega)) _ | with_reducible refine Rel.drew ?_ | with_reducible refine Rel.trans ?_ H1.out | with_reducible refine Rel.trans ?_ H0.out))
    · have bn : decide (n < 0) = false := decide_eq_false hn
      have tm : (10000 : Int).tmod d = 10000 % d := Int.tmod_eq_emod_of_nonneg (by omega)
      have m0 : 0 ≤ 10000 % d := Int.emod_nonneg _ (by omega)
      have m1 : 10000 % d < d := Int.emod_lt_of_pos _ (by omega)
      have wm : IntKind.i64.wrap (10000 % d) = 10000 % d := IntWalk.i64_in _ ⟨by omega, by omega⟩
      have hsame : 10000 % d = 10000 % d := rfl
      obtain ⟨M, hM⟩ : ∃ M, 10000 % d = M := ⟨_, rfl⟩
      by_cases hz : M = 0
      · have bz : (M != 0) = false := by rw [hz]; rfl
        by_cases h2 : x < 2
        · have hB := Lib.hid (hCn.out (fun h => by omega))
          have b2 : decide (x < 2) = true := decide_eq_true h2
          rw [hM] at tm m0 m1 wm
          clear hv hg hCn hM hz hsame
          go_enter Tryd.func58, Tryd.ntmps58
          go_wp2_with fail
          refine (V.out _).mono ?_
          rintro e w1 ⟨rfl, h1⟩
          have q := keep2 h1 (b := w.heap.size) (by first | (simp; done) | (simp; omega) | omega)
          have kc1_0_0 := q.1
          have kc1_0_1 := q.2.1
          have kf1_0_0 := q.2.2.1
          have kf1_0_1 := q.2.2.2.1
          have kl1_0 := q.2.2.2.2.1
          have kn1_0 := q.2.2.2.2.2.1
          have km1_0 := q.2.2.2.2.2.2
          clear q
          have kz1 := h1.size
          (try simp only [World.size_alloc, World.size_setCell, World.size_drew] at kz1)
          have H1 := Lib.hid h1
          clear h1
          go_wp2
          refine bodyPost_ret (v := .tuple #[.string ⟨#[]⟩, .bool false]) ?_ rfl (fd_ret_no hB.out ?_)
          · simp [results, Tryd.results58, go_sem]
          · (show Rel _ _; repeat (first | with_reducible exact Rel.refl _ | with_reducible refine Rel.alloc ?_ _ | with_reducible refine Rel.setCell ?_ (by first | (simp; done) | (simp; omega)) _ | with_reducible refine Rel.drew ?_ | with_reducible refine Rel.trans ?_ H1.out | with_reducible refine Rel.trans ?_ H0.out))
        · have b2 : decide (x < 2) = false := decide_eq_false h2
          by_cases h4 : 4 < x
          · have hB := Lib.hid (hCn.out (fun h => by omega))
            have b4 : decide (4 < x) = true := decide_eq_true h4
            rw [hM] at tm m0 m1 wm
            clear hv hg hCn hM hz hsame
            go_enter Tryd.func58, Tryd.ntmps58
            go_wp2_with fail
            refine (V.out _).mono ?_
            rintro e w1 ⟨rfl, h1⟩
            have q := keep2 h1 (b := w.heap.size) (by first | (simp; done) | (simp; omega) | omega)
            have kc1_0_0 := q.1
            have kc1_0_1 := q.2.1
            have kf1_0_0 := q.2.2.1
            have kf1_0_1 := q.2.2.2.1
            have kl1_0 := q.2.2.2.2.1
            have kn1_0 := q.2.2.2.2.2.1
            have km1_0 := q.2.2.2.2.2.2
            clear q
            have kz1 := h1.size
            (try simp only [World.size_alloc, World.size_setCell, World.size_drew] at kz1)
            have H1 := Lib.hid h1
            clear h1
            go_wp2
            refine bodyPost_ret (v := .tuple #[.string ⟨#[]⟩, .bool false]) ?_ rfl (fd_ret_no hB.out ?_)
            · simp [results, Tryd.results58, go_sem]
            · (show Rel _ _; repeat (first | with_reducible exact Rel.refl _ | with_reducible refine Rel.alloc ?_ _ | with_reducible refine Rel.setCell ?_ (by first | (simp; done) | (simp; omega)) _ | with_reducible refine Rel.drew ?_ | with_reducible refine Rel.trans ?_ H1.out | with_reducible refine Rel.trans ?_ H0.out))
          · have b4 : decide (4 < x) = false := decide_eq_false h4
            have hC : fdC n d = true := fdC_iff.2 ⟨hv, by omega, by omega⟩
            have tq : n.tdiv d = n / d := Int.tdiv_eq_ediv_of_nonneg (by omega)
            have q0 : 0 ≤ n / d := Int.ediv_nonneg (by omega) (by omega)
            have q1 : n / d ≤ 1000000000000000 := by
              have := Int.ediv_le_self d (show 0 ≤ n by omega); omega
            have wq : IntKind.i64.wrap (n / d) = n / d := IntWalk.i64_in _ ⟨by omega, by omega⟩
            by_cases hq9 : 999999999 < n / d
            · have hB := Lib.hid (hCn.out (fun h => by omega))
              obtain ⟨q, hq⟩ : ∃ q, n / d = q := ⟨_, rfl⟩
              rw [hq] at tq q0 q1 wq hq9
              have b9 : decide (999999999 < q) = true := decide_eq_true hq9
              rw [hM] at tm m0 m1 wm
              clear hv hg hCn hM hz hsame hC hq
              go_enter Tryd.func58, Tryd.ntmps58
              go_wp2_with fail
              refine (V.out _).mono ?_
              rintro e w1 ⟨rfl, h1⟩
              have q := keep2 h1 (b := w.heap.size) (by first | (simp; done) | (simp; omega) | omega)
              have kc1_0_0 := q.1
              have kc1_0_1 := q.2.1
              have kf1_0_0 := q.2.2.1
              have kf1_0_1 := q.2.2.2.1
              have kl1_0 := q.2.2.2.2.1
              have kn1_0 := q.2.2.2.2.2.1
              have km1_0 := q.2.2.2.2.2.2
              clear q
              have kz1 := h1.size
              (try simp only [World.size_alloc, World.size_setCell, World.size_drew] at kz1)
              have H1 := Lib.hid h1
              clear h1
              go_wp2
              refine bodyPost_ret (v := .tuple #[.string ⟨#[]⟩, .bool false]) ?_ rfl (fd_ret_no hB.out ?_)
              · simp [results, Tryd.results58, go_sem]
              · (show Rel _ _; repeat (first | with_reducible exact Rel.refl _ | with_reducible refine Rel.alloc ?_ _ | with_reducible refine Rel.setCell ?_ (by first | (simp; done) | (simp; omega)) _ | with_reducible refine Rel.drew ?_ | with_reducible refine Rel.trans ?_ H1.out | with_reducible refine Rel.trans ?_ H0.out))
            · obtain ⟨-, hd4, -, -, -, hdv, hr, hmlt, hmr⟩ := rest_facts hC
              have hB := Lib.hid (fdB_iff.2 ⟨hC, by omega, by omega, by omega⟩ : fdB n d x = true)
              have r0 : 0 ≤ n % d := Int.emod_nonneg _ (by omega)
              have r1 : n % d < d := Int.emod_lt_of_pos _ (by omega)
              have hed := Int.mul_ediv_add_emod n d
              have td : (10000 : Int).tdiv d = 10000 / d := Int.tdiv_eq_ediv_of_nonneg (by omega)
              have D0 : 0 ≤ 10000 / d := Int.ediv_nonneg (by omega) (by omega)
              have D1 : 10000 / d ≤ 10000 := Int.ediv_le_self d (by omega)
              have wD : IntKind.i64.wrap (10000 / d) = 10000 / d := IntWalk.i64_in _ ⟨by omega, by omega⟩
              have S0 := fun h => Lib.hid (rj_start0 (n := n) (d := d) h)
              have S1 := fun h => Lib.hid (rj_start1 (n := n) (d := d) h)
              have hE := Lib.hid (fun (f : Nat) (t u : ByteArray) (h : Rj n d f 0 t) hu => rj_end (x := x) (u := u) h hB.out hu)
              have hz1 : Hid (fmtS (n / d) 1 = numS (n / d)) := fmt_1 (valid_num q0 q1) rfl
              obtain ⟨q, hq⟩ : ∃ q, n / d = q := ⟨_, rfl⟩
              obtain ⟨r, hrr⟩ : ∃ r, n % d = r := ⟨_, rfl⟩
              obtain ⟨D, hD⟩ : ∃ D, 10000 / d = D := ⟨_, rfl⟩
              obtain ⟨m, hm⟩ : ∃ m, restN n d = m := ⟨_, rfl⟩
              rw [hq] at tq q0 q1 wq hq9 S0 S1 hz1 hed
              rw [hrr] at r0 r1 hmr hed
              rw [hD] at td D0 D1 wD hmr
              rw [hm] at hmlt hmr S0 S1
              rw [hM] at tm m0 m1 wm
              have hqd : q * d = n - r := by rw [Int.mul_comm]; omega
              have wqd : IntKind.i64.wrap (q * d) = q * d := IntWalk.i64_in _ ⟨by omega, by omega⟩
              have wsub : IntKind.i64.wrap (n - q * d) = r := by
                rw [hqd, show n - (n - r) = r by omega]; exact IntWalk.i64_in _ ⟨by omega, by omega⟩
              have wmul : IntKind.i64.wrap (r * D) = (m : Int) := by rw [← hmr]; exact IntWalk.i64_in _ ⟨by omega, by omega⟩
              have b9 : decide (999999999 < q) = false := decide_eq_false hq9
              have FM := Lib.hid fun w => rFormat_any q 1 w (by omega) (by omega) (by omega) (by omega)
              unfold StrRes at FM
              rw [hz1.out] at FM
              have zq := numS_size q
              have hx3 : x = 2 ∨ x = 3 ∨ x = 4 := by omega
              have HX := Lib.hid hx3
              have HS0 := Lib.hid S0
              have HS1 := Lib.hid S1
              clear hv hg hCn hM hz hsame hC hq hrr hD hm hdv hr hmr hed hqd hz1 S0 S1 hx3
              go_enter Tryd.func58, Tryd.ntmps58
              go_wp2_with fail
              refine (V.out _).mono ?_
              rintro e w1 ⟨rfl, h1⟩
              have q := keep2 h1 (b := w.heap.size) (by first | (simp; done) | (simp; omega) | omega)
              have kc1_0_0 := q.1
              have kc1_0_1 := q.2.1
              have kf1_0_0 := q.2.2.1
              have kf1_0_1 := q.2.2.2.1
              have kl1_0 := q.2.2.2.2.1
              have kn1_0 := q.2.2.2.2.2.1
              have km1_0 := q.2.2.2.2.2.2
              clear q
              have kz1 := h1.size
              (try simp only [World.size_alloc, World.size_setCell, World.size_drew] at kz1)
              have H1 := Lib.hid h1
              clear h1
              go_wp2_with fail
              refine (FM.out _).mono ?_
              rintro e w2 ⟨rfl, h2⟩
              have q := keep2 h2 (b := w.heap.size) (by first | (simp; done) | (simp; omega) | omega)
              have kc2_0_0 := q.1
              have kc2_0_1 := q.2.1
              have kf2_0_0 := q.2.2.1
              have kf2_0_1 := q.2.2.2.1
              have kl2_0 := q.2.2.2.2.1
              have kn2_0 := q.2.2.2.2.2.1
              have km2_0 := q.2.2.2.2.2.2
              clear q
              have kz2 := h2.size
              (try simp only [World.size_alloc, World.size_setCell, World.size_drew] at kz2)
              have H2 := Lib.hid h2
              clear h2
              go_wp2_with fail
              refine wp_region_calm (fun _ w' => w'.cell? { block := w.heap.size, off := 0 } = some (.int .i64 n) ∧ w'.cell? { block := w.heap.size, off := 1 } = some (.int .i64 d)) (fun _ => false) [0, 1, 2, 3, 4, 5, 6, 7, 8, 9, 10, 11] 0 (by kernel_rfl) (by kernel_rfl) ?hst ?hS0 (fun w0 h0 => ?_)
              case hst => exact fun _ _ _ h r => ⟨r.cell h.1, r.cell h.2⟩
              case hS0 => exact ⟨by go_simp, by go_simp⟩
              iterate 12
                refine wpCalm_go rfl (by kernel_rfl) (fun K hK => ?_)
                apply Exists.intro
                refine ⟨fun M w hM hS => ?_, hK _ ?_⟩
                · have hc := hS.1
                  have hc' := hS.2
                  unfold calmAt
                  go_simp
                  exact ⟨rfl, Rel.refl _⟩
                clear hK K
              refine wpAnyR_end (by kernel_rfl) (fun w3 h3' => ?_)
              (try simp only [Act.put, List.setIfInBounds_toArray, List.set_cons_zero, List.set_cons_succ])
              have h3 := h0.trans h3'
              clear h0 h3'
              have q := keep2 h3 (b := w.heap.size) (by first | (simp; done) | (simp; omega) | omega)
              have kc3_0_0 := q.1
              have kc3_0_1 := q.2.1
              have kf3_0_0 := q.2.2.1
              have kf3_0_1 := q.2.2.2.1
              have kl3_0 := q.2.2.2.2.1
              have kn3_0 := q.2.2.2.2.2.1
              have km3_0 := q.2.2.2.2.2.2
              clear q
              have kz3 := h3.size
              (try simp only [World.size_alloc, World.size_setCell, World.size_drew] at kz3)
              have H3 := Lib.hid h3
              clear h3
              have R3 : Hid (Rel w w3) := by
                show Rel _ _
                (show Rel _ _; repeat (first | with_reducible exact Rel.refl _ | with_reducible refine Rel.alloc ?_ _ | with_reducible refine Rel.setCell ?_ (by first | (simp; done) | (simp; omega)) _ | with_reducible refine Rel.drew ?_ | with_reducible refine Rel.trans ?_ H3.out | with_reducible refine Rel.trans ?_ H2.out | with_reducible refine Rel.trans ?_ H1.out | with_reducible refine Rel.trans ?_ H0.out))
              obtain ⟨s, hs0, hs1⟩ : ∃ s : ByteArray, (m = 0 → numS q = s) ∧ (0 < m → numS q ++ ⟨#[46]⟩ = s) := by
                by_cases h : m = 0
                · exact ⟨_, fun _ => rfl, fun h' => by omega⟩
                · exact ⟨_, fun h' => absurd h' h, fun _ => rfl⟩
              have hJ : Hid (Rj n d 4 m s) := by
                by_cases h : m = 0
                · rw [← hs0 h]; exact (HS0.out h).out
                · rw [← hs1 (by omega)]; exact (HS1.out (by omega)).out
              have hss : s.size ≤ 42 := by
                by_cases h : m = 0
                · rw [← hs0 h]; omega
                · rw [← hs1 (by omega), ByteArray.size_append]
                  have : (⟨#[46]⟩ : ByteArray).size = 1 := rfl
                  omega
              clear HS0 HS1
              go_upto_if 54 with (fail)
              go_cut [7] (fun s7 wx => s7 = .string s ∧ w3 = wx)
              case first =>
                by_cases h : m = 0
                · have e := Lib.hid (hs0 h)
                  clear hs0 hs1
                  subst h
                  go_wp2
                  go_meet
                  case rel => exact ⟨by rw [e.out], rfl⟩
                · have bm : decide (0 < (m : Int)) = true := decide_eq_true (by omega)
                  have e := Lib.hid (hs1 (by omega))
                  have hmp : 0 < m := by omega
                  clear h hs0 hs1
                  go_wp2
                  go_meet
                  case rel => exact ⟨by rw [e.out], rfl⟩
              case rest =>
                obtain ⟨rfl, rfl⟩ := hcut
                clear hs0 hs1
                go_wp2_with fail
                go_loopw [7, 8, 9] (fun sv rv kv wx => ∃ (f M' : Nat) (s' : ByteArray), f ≤ 4 ∧ sv = .string s' ∧ rv = .int .i64 M' ∧ kv = .int .i64 ((10 ^ f / 10 : Nat) : Int) ∧ M' < 10 ^ f ∧ s'.size ≤ 46 - f ∧ Hid (Rj n d f M' s') ∧ Hid (Rel w wx)) (fun _ _ r _ => (intOf r).toNat)
                case atStart => exact ⟨4, m, s, by omega, rfl, rfl, rfl, hmlt, hss, hJ, R3⟩
                case round =>
                  obtain ⟨f, M', s', hf, rfl, rfl, rfl, hmf, hsz, hJ, hR⟩ := hrel
                  by_cases hM0' : M' = 0
                  · subst hM0'
                    have hE2 := Lib.hid (fun u hu => hE.out f s' u hJ.out hu)
                    clear hJ hmf
                    rcases HX.out with rfl | rfl | rfl
                    · have T := Lib.hid (hE2.out (s' ++ ⟨#[]⟩) (by simp [sufL]))
                      clear hE2 hE
                      go_wp2
                      refine bodyPost_ret (v := .tuple #[.string (s' ++ ⟨#[]⟩), .bool true]) ?_ rfl (fd_ret_yes hB.out T.out ?_)
                      · simp [results, Tryd.results58, go_sem]
                      · refine hR.out.trans ?_
                        (show Rel _ _; repeat (first | with_reducible exact Rel.refl _ | with_reducible refine Rel.alloc ?_ _ | with_reducible refine Rel.setCell ?_ (by first | (simp; done) | (simp; omega)) _ | with_reducible refine Rel.drew ?_ | with_reducible refine Rel.trans ?_ H0.out))
                    · have T := Lib.hid (hE2.out (s' ++ ⟨#[100]⟩) (by simp [sufL]))
                      clear hE2 hE
                      go_wp2
                      refine bodyPost_ret (v := .tuple #[.string (s' ++ ⟨#[100]⟩), .bool true]) ?_ rfl (fd_ret_yes hB.out T.out ?_)
                      · simp [results, Tryd.results58, go_sem]
                      · refine hR.out.trans ?_
                        (show Rel _ _; repeat (first | with_reducible exact Rel.refl _ | with_reducible refine Rel.alloc ?_ _ | with_reducible refine Rel.setCell ?_ (by first | (simp; done) | (simp; omega)) _ | with_reducible refine Rel.drew ?_ | with_reducible refine Rel.trans ?_ H0.out))
                    · have T := Lib.hid (hE2.out (s' ++ ⟨#[109]⟩) (by simp [sufL]))
                      clear hE2 hE
                      go_wp2
                      refine bodyPost_ret (v := .tuple #[.string (s' ++ ⟨#[109]⟩), .bool true]) ?_ rfl (fd_ret_yes hB.out T.out ?_)
                      · simp [results, Tryd.results58, go_sem]
                      · refine hR.out.trans ?_
                        (show Rel _ _; repeat (first | with_reducible exact Rel.refl _ | with_reducible refine Rel.alloc ?_ _ | with_reducible refine Rel.setCell ?_ (by first | (simp; done) | (simp; omega)) _ | with_reducible refine Rel.drew ?_ | with_reducible refine Rel.trans ?_ H0.out))
                  have hM0 : 0 < M' := by omega
                  have bM : decide (0 < (M' : Int)) = true := decide_eq_true (by omega)
                  clear hM0'
                  rcases (show f = 4 ∨ f = 3 ∨ f = 2 ∨ f = 1 ∨ f = 0 by omega) with rfl | rfl | rfl | rfl | rfl
                  · have hmf2 : M' < 10000 := by simpa using hmf
                    have c9 : M' / 1000 < 10 := by omega
                    have hJ2 := Lib.hid (fun (u : ByteArray) hu => rj_step (f := 3) (u := u) hJ.out hM0 hu)
                    have hcut := Lib.hid (digit_cut (M' / 1000) c9)
                    have e1 : ((M' : Nat) : Int).tdiv 1000 = ((M' / 1000 : Nat) : Int) := by rw [Int.tdiv_eq_ediv_of_nonneg (by omega)]; rfl
                    have e2 : ((M' : Nat) : Int).tmod 1000 = ((M' % 1000 : Nat) : Int) := by rw [Int.tmod_eq_emod_of_nonneg (by omega)]; rfl
                    have e3 : ((10 ^ 4 / 10 : Nat) : Int) = 1000 := by decide
                    have m9 : M' % 1000 < 1000 := Nat.mod_lt _ (by decide)
                    obtain ⟨c, hc⟩ : ∃ c, M' / 1000 = c := ⟨_, rfl⟩
                    obtain ⟨b, hb⟩ : ∃ b, M' % 1000 = b := ⟨_, rfl⟩
                    rw [hc] at e1 c9 hcut
                    rw [hb] at e2 m9
                    have J3 : Hid (∀ u : ByteArray, u.data.toList = s'.data.toList ++ [UInt8.ofNat (48 + c)] → Rj n d 3 b u) := fun u hu => by
                      have := hJ2.out u (by rw [hu, ← hc])
                      rwa [show M' % 10 ^ 3 = b from hb] at this
                    clear hJ hJ2 hc hb hmf
                    have w1c : IntKind.i64.wrap ((c : Int) + 1) = (c : Int) + 1 := IntWalk.i64_in _ ⟨by omega, by omega⟩
                    have n1c : ((c : Int) + 1).toNat = c + 1 := by omega
                    have n2c : (0 : Int) ≤ (c : Int) + 1 := by omega
                    have n3c : (c : Int) + 1 ≤ 10 := by omega
                    have n4c : (c : Int) ≤ (c : Int) + 1 := by omega
                    have n5c : (c : Int) ≤ 10 := by omega
                    have wcc : IntKind.i64.wrap (c : Int) = (c : Int) := IntWalk.i64_in _ ⟨by omega, by omega⟩
                    have zcc : ¬ (9223372036854775807 < s'.size + (min (c + 1) 10 - c)) := by omega
                    have zz : (s' ++ (⟨#[UInt8.ofNat (48 + c)]⟩ : ByteArray)).size = s'.size + 1 := ByteArray.size_append
                    rw [e3]
                    go_wp2_with fail
                    refine wp_region_calm (fun _ _ => True) (fun _ => false) [0, 1, 2, 3, 4, 5, 6, 7, 8, 9, 10] 0 (by kernel_rfl) (by kernel_rfl) (fun _ _ _ _ _ => trivial) trivial (fun w0 h0 => ?_)
                    iterate 11
                      refine wpCalm_go rfl (by kernel_rfl) (fun K hK => ?_)
                      apply Exists.intro
                      refine ⟨fun M w hM hS => ?_, hK _ ?_⟩
                      · unfold calmAt
                        go_simp
                        exact ⟨rfl, Rel.refl _⟩
                      clear hK K
                    refine wpAnyR_end (by kernel_rfl) (fun w5 h5' => ?_)
                    (try simp only [Act.put, List.setIfInBounds_toArray, List.set_cons_zero, List.set_cons_succ])
                    have h5 := h0.trans h5'
                    clear h0 h5'
                    have kz5 := h5.size
                    (try simp only [World.size_alloc, World.size_setCell, World.size_drew] at kz5)
                    have H5 := Lib.hid h5
                    clear h5
                    go_wp2
                    rw [hcut.out]
                    go_roundw
                    case rel => exact ⟨3, b, _, by omega, rfl, rfl, rfl, m9, by rw [zz]; omega, J3.out _ (by simp), hR.out.trans H5.out⟩
                    case measure => simp [intOf]
                  · have hmf2 : M' < 1000 := by simpa using hmf
                    have c9 : M' / 100 < 10 := by omega
                    have hJ2 := Lib.hid (fun (u : ByteArray) hu => rj_step (f := 2) (u := u) hJ.out hM0 hu)
                    have hcut := Lib.hid (digit_cut (M' / 100) c9)
                    have e1 : ((M' : Nat) : Int).tdiv 100 = ((M' / 100 : Nat) : Int) := by rw [Int.tdiv_eq_ediv_of_nonneg (by omega)]; rfl
                    have e2 : ((M' : Nat) : Int).tmod 100 = ((M' % 100 : Nat) : Int) := by rw [Int.tmod_eq_emod_of_nonneg (by omega)]; rfl
                    have e3 : ((10 ^ 3 / 10 : Nat) : Int) = 100 := by decide
                    have m9 : M' % 100 < 100 := Nat.mod_lt _ (by decide)
                    obtain ⟨c, hc⟩ : ∃ c, M' / 100 = c := ⟨_, rfl⟩
                    obtain ⟨b, hb⟩ : ∃ b, M' % 100 = b := ⟨_, rfl⟩
                    rw [hc] at e1 c9 hcut
                    rw [hb] at e2 m9
                    have J3 : Hid (∀ u : ByteArray, u.data.toList = s'.data.toList ++ [UInt8.ofNat (48 + c)] → Rj n d 2 b u) := fun u hu => by
                      have := hJ2.out u (by rw [hu, ← hc])
                      rwa [show M' % 10 ^ 2 = b from hb] at this
                    clear hJ hJ2 hc hb hmf
                    have w1c : IntKind.i64.wrap ((c : Int) + 1) = (c : Int) + 1 := IntWalk.i64_in _ ⟨by omega, by omega⟩
                    have n1c : ((c : Int) + 1).toNat = c + 1 := by omega
                    have n2c : (0 : Int) ≤ (c : Int) + 1 := by omega
                    have n3c : (c : Int) + 1 ≤ 10 := by omega
                    have n4c : (c : Int) ≤ (c : Int) + 1 := by omega
                    have n5c : (c : Int) ≤ 10 := by omega
                    have wcc : IntKind.i64.wrap (c : Int) = (c : Int) := IntWalk.i64_in _ ⟨by omega, by omega⟩
                    have zcc : ¬ (9223372036854775807 < s'.size + (min (c + 1) 10 - c)) := by omega
                    have zz : (s' ++ (⟨#[UInt8.ofNat (48 + c)]⟩ : ByteArray)).size = s'.size + 1 := ByteArray.size_append
                    rw [e3]
                    go_wp2_with fail
                    refine wp_region_calm (fun _ _ => True) (fun _ => false) [0, 1, 2, 3, 4, 5, 6, 7, 8, 9, 10] 0 (by kernel_rfl) (by kernel_rfl) (fun _ _ _ _ _ => trivial) trivial (fun w0 h0 => ?_)
                    iterate 11
                      refine wpCalm_go rfl (by kernel_rfl) (fun K hK => ?_)
                      apply Exists.intro
                      refine ⟨fun M w hM hS => ?_, hK _ ?_⟩
                      · unfold calmAt
                        go_simp
                        exact ⟨rfl, Rel.refl _⟩
                      clear hK K
                    refine wpAnyR_end (by kernel_rfl) (fun w5 h5' => ?_)
                    (try simp only [Act.put, List.setIfInBounds_toArray, List.set_cons_zero, List.set_cons_succ])
                    have h5 := h0.trans h5'
                    clear h0 h5'
                    have kz5 := h5.size
                    (try simp only [World.size_alloc, World.size_setCell, World.size_drew] at kz5)
                    have H5 := Lib.hid h5
                    clear h5
                    go_wp2
                    rw [hcut.out]
                    go_roundw
                    case rel => exact ⟨2, b, _, by omega, rfl, rfl, rfl, m9, by rw [zz]; omega, J3.out _ (by simp), hR.out.trans H5.out⟩
                    case measure => simp [intOf]
                  · have hmf2 : M' < 100 := by simpa using hmf
                    have c9 : M' / 10 < 10 := by omega
                    have hJ2 := Lib.hid (fun (u : ByteArray) hu => rj_step (f := 1) (u := u) hJ.out hM0 hu)
                    have hcut := Lib.hid (digit_cut (M' / 10) c9)
                    have e1 : ((M' : Nat) : Int).tdiv 10 = ((M' / 10 : Nat) : Int) := by rw [Int.tdiv_eq_ediv_of_nonneg (by omega)]; rfl
                    have e2 : ((M' : Nat) : Int).tmod 10 = ((M' % 10 : Nat) : Int) := by rw [Int.tmod_eq_emod_of_nonneg (by omega)]; rfl
                    have e3 : ((10 ^ 2 / 10 : Nat) : Int) = 10 := by decide
                    have m9 : M' % 10 < 10 := Nat.mod_lt _ (by decide)
                    obtain ⟨c, hc⟩ : ∃ c, M' / 10 = c := ⟨_, rfl⟩
                    obtain ⟨b, hb⟩ : ∃ b, M' % 10 = b := ⟨_, rfl⟩
                    rw [hc] at e1 c9 hcut
                    rw [hb] at e2 m9
                    have J3 : Hid (∀ u : ByteArray, u.data.toList = s'.data.toList ++ [UInt8.ofNat (48 + c)] → Rj n d 1 b u) := fun u hu => by
                      have := hJ2.out u (by rw [hu, ← hc])
                      rwa [show M' % 10 ^ 1 = b from hb] at this
                    clear hJ hJ2 hc hb hmf
                    have w1c : IntKind.i64.wrap ((c : Int) + 1) = (c : Int) + 1 := IntWalk.i64_in _ ⟨by omega, by omega⟩
                    have n1c : ((c : Int) + 1).toNat = c + 1 := by omega
                    have n2c : (0 : Int) ≤ (c : Int) + 1 := by omega
                    have n3c : (c : Int) + 1 ≤ 10 := by omega
                    have n4c : (c : Int) ≤ (c : Int) + 1 := by omega
                    have n5c : (c : Int) ≤ 10 := by omega
                    have wcc : IntKind.i64.wrap (c : Int) = (c : Int) := IntWalk.i64_in _ ⟨by omega, by omega⟩
                    have zcc : ¬ (9223372036854775807 < s'.size + (min (c + 1) 10 - c)) := by omega
                    have zz : (s' ++ (⟨#[UInt8.ofNat (48 + c)]⟩ : ByteArray)).size = s'.size + 1 := ByteArray.size_append
                    rw [e3]
                    go_wp2_with fail
                    refine wp_region_calm (fun _ _ => True) (fun _ => false) [0, 1, 2, 3, 4, 5, 6, 7, 8, 9, 10] 0 (by kernel_rfl) (by kernel_rfl) (fun _ _ _ _ _ => trivial) trivial (fun w0 h0 => ?_)
                    iterate 11
                      refine wpCalm_go rfl (by kernel_rfl) (fun K hK => ?_)
                      apply Exists.intro
                      refine ⟨fun M w hM hS => ?_, hK _ ?_⟩
                      · unfold calmAt
                        go_simp
                        exact ⟨rfl, Rel.refl _⟩
                      clear hK K
                    refine wpAnyR_end (by kernel_rfl) (fun w5 h5' => ?_)
                    (try simp only [Act.put, List.setIfInBounds_toArray, List.set_cons_zero, List.set_cons_succ])
                    have h5 := h0.trans h5'
                    clear h0 h5'
                    have kz5 := h5.size
                    (try simp only [World.size_alloc, World.size_setCell, World.size_drew] at kz5)
                    have H5 := Lib.hid h5
                    clear h5
                    go_wp2
                    rw [hcut.out]
                    go_roundw
                    case rel => exact ⟨1, b, _, by omega, rfl, rfl, rfl, m9, by rw [zz]; omega, J3.out _ (by simp), hR.out.trans H5.out⟩
                    case measure => simp [intOf]
                  · have hmf2 : M' < 10 := by simpa using hmf
                    have c9 : M' / 1 < 10 := by omega
                    have hJ2 := Lib.hid (fun (u : ByteArray) hu => rj_step (f := 0) (u := u) hJ.out hM0 hu)
                    have hcut := Lib.hid (digit_cut (M' / 1) c9)
                    have e1 : ((M' : Nat) : Int).tdiv 1 = ((M' / 1 : Nat) : Int) := by rw [Int.tdiv_eq_ediv_of_nonneg (by omega)]; rfl
                    have e2 : ((M' : Nat) : Int).tmod 1 = ((M' % 1 : Nat) : Int) := by rw [Int.tmod_eq_emod_of_nonneg (by omega)]; rfl
                    have e3 : ((10 ^ 1 / 10 : Nat) : Int) = 1 := by decide
                    have m9 : M' % 1 < 1 := Nat.mod_lt _ (by decide)
                    obtain ⟨c, hc⟩ : ∃ c, M' / 1 = c := ⟨_, rfl⟩
                    obtain ⟨b, hb⟩ : ∃ b, M' % 1 = b := ⟨_, rfl⟩
                    rw [hc] at e1 c9 hcut
                    rw [hb] at e2 m9
                    have J3 : Hid (∀ u : ByteArray, u.data.toList = s'.data.toList ++ [UInt8.ofNat (48 + c)] → Rj n d 0 b u) := fun u hu => by
                      have := hJ2.out u (by rw [hu, ← hc])
                      rwa [show M' % 10 ^ 0 = b from hb] at this
                    clear hJ hJ2 hc hb hmf
                    have w1c : IntKind.i64.wrap ((c : Int) + 1) = (c : Int) + 1 := IntWalk.i64_in _ ⟨by omega, by omega⟩
                    have n1c : ((c : Int) + 1).toNat = c + 1 := by omega
                    have n2c : (0 : Int) ≤ (c : Int) + 1 := by omega
                    have n3c : (c : Int) + 1 ≤ 10 := by omega
                    have n4c : (c : Int) ≤ (c : Int) + 1 := by omega
                    have n5c : (c : Int) ≤ 10 := by omega
                    have wcc : IntKind.i64.wrap (c : Int) = (c : Int) := IntWalk.i64_in _ ⟨by omega, by omega⟩
                    have zcc : ¬ (9223372036854775807 < s'.size + (min (c + 1) 10 - c)) := by omega
                    have zz : (s' ++ (⟨#[UInt8.ofNat (48 + c)]⟩ : ByteArray)).size = s'.size + 1 := ByteArray.size_append
                    rw [e3]
                    go_wp2_with fail
                    refine wp_region_calm (fun _ _ => True) (fun _ => false) [0, 1, 2, 3, 4, 5, 6, 7, 8, 9, 10] 0 (by kernel_rfl) (by kernel_rfl) (fun _ _ _ _ _ => trivial) trivial (fun w0 h0 => ?_)
                    iterate 11
                      refine wpCalm_go rfl (by kernel_rfl) (fun K hK => ?_)
                      apply Exists.intro
                      refine ⟨fun M w hM hS => ?_, hK _ ?_⟩
                      · unfold calmAt
                        go_simp
                        exact ⟨rfl, Rel.refl _⟩
                      clear hK K
                    refine wpAnyR_end (by kernel_rfl) (fun w5 h5' => ?_)
                    (try simp only [Act.put, List.setIfInBounds_toArray, List.set_cons_zero, List.set_cons_succ])
                    have h5 := h0.trans h5'
                    clear h0 h5'
                    have kz5 := h5.size
                    (try simp only [World.size_alloc, World.size_setCell, World.size_drew] at kz5)
                    have H5 := Lib.hid h5
                    clear h5
                    go_wp2
                    rw [hcut.out]
                    go_roundw
                    case rel => exact ⟨0, b, _, by omega, rfl, rfl, rfl, m9, by rw [zz]; omega, J3.out _ (by simp), hR.out.trans H5.out⟩
                    case measure => simp [intOf]
                  · simp at hmf; omega
      · have hB := Lib.hid (hCn.out (fun h => by omega))
        have bz : (M != 0) = true := by simpa using hz
        rw [hM] at tm m0 m1 wm
        clear hv hg hCn hM hz hsame
        go_enter Tryd.func58, Tryd.ntmps58
        go_wp2_with fail
        refine (V.out _).mono ?_
        rintro e w1 ⟨rfl, h1⟩
        have q := keep2 h1 (b := w.heap.size) (by first | (simp; done) | (simp; omega) | omega)
        have kc1_0_0 := q.1
        have kc1_0_1 := q.2.1
        have kf1_0_0 := q.2.2.1
        have kf1_0_1 := q.2.2.2.1
        have kl1_0 := q.2.2.2.2.1
        have kn1_0 := q.2.2.2.2.2.1
        have km1_0 := q.2.2.2.2.2.2
        clear q
        have kz1 := h1.size
        (try simp only [World.size_alloc, World.size_setCell, World.size_drew] at kz1)
        have H1 := Lib.hid h1
        clear h1
        go_wp2
        refine bodyPost_ret (v := .tuple #[.string ⟨#[]⟩, .bool false]) ?_ rfl (fd_ret_no hB.out ?_)
        · simp [results, Tryd.results58, go_sem]
        · (show Rel _ _; repeat (first | with_reducible exact Rel.refl _ | with_reducible refine Rel.alloc ?_ _ | with_reducible refine Rel.setCell ?_ (by first | (simp; done) | (simp; omega)) _ | with_reducible refine Rel.drew ?_ | with_reducible refine Rel.trans ?_ H1.out | with_reducible refine Rel.trans ?_ H0.out))

end Go.Proofs.YtnhmebhmlbofgaaDoor

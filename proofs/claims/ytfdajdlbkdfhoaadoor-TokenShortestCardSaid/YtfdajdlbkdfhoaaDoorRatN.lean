/- Contracts of awake and of. No conditions but those printed. -/
import Derived.Test.YtfdajdlbkdfhoaaDoorRatK
namespace Go.Proofs.YtfdajdlbkdfhoaaDoor
open Go.RowKit Frac

attribute [local go_sem] calmUpon
set_option linter.unusedSimpArgs false
set_option linter.unusedVariables false

theorem mk_bd (n d : Int) : (-1000000000000000 ≤ mkN n d ∧ mkN n d ≤ 1000000000000000) ∧ (0 ≤ mkD n d ∧ mkD n d ≤ 1000000000) := by
  unfold mkN mkD
  by_cases hd : d = 0
  · rw [if_pos hd, if_pos hd]; omega
  · rw [if_neg hd, if_neg hd]
    rcases n_cases (mkS n d) (d.natAbs : Int) (by omega) with ⟨_, e1, e2, _⟩ | ⟨_, _, hv, _⟩
    · rw [e1, e2]; omega
    · have := (validB_iff _ _).1 hv; omega

theorem mk_awake : mkN 6 (-4) = -3 ∧ mkD 6 (-4) = 2 ∧ mkE 6 (-4) = 0 := by decide +kernel

set_option maxHeartbeats 800000 in
theorem fawake_any (w : World) : Calls Tryd.prog 15 #[] w (BRes true w) := by
  have M := Lib.hid (fun w => make_any 6 (-4) w (by omega) (by omega) (by omega) (by omega))
  rw [mk_awake.1, mk_awake.2.1, mk_awake.2.2] at M
  unfold FrRes at M
  unfold BRes
  go_enter Tryd.func15, Tryd.ntmps15
  go_wp2_with fail
  with_reducible refine (M.out _).mono ?_
  rintro e w1 ⟨rfl, h1⟩
  have kz1 := h1.size
  (try simp only [World.size_alloc, World.size_setCell, World.size_drew] at kz1)
  have H1 := Lib.hid h1
  clear h1
  go_wp2
  go_ret
  exact ⟨rfl, by (show Rel _ _; repeat (first | with_reducible exact Rel.refl _ | with_reducible refine Rel.alloc ?_ _ | with_reducible refine Rel.setCell ?_ (by first | (simp; done) | (simp; omega)) _ | with_reducible refine Rel.drew ?_ | with_reducible refine Rel.trans ?_ H1.out | with_reducible refine Rel.trans ?_ H0.out))⟩

/-- Some fraction, valid or not. -/
def SomeFr (w : World) (e : Ending) (w' : World) : Prop :=
  ∃ n d : Int, ((-9223372036854775808 ≤ n ∧ n ≤ 9223372036854775807) ∧ (-9223372036854775808 ≤ d ∧ d ≤ 9223372036854775807)) ∧ e = .returned (.agg #[.int .i64 n, .int .i64 d]) ∧ Rel w w'

set_option maxHeartbeats 6400000 in
theorem of_core (n d m k : Int) (n1 d1 e1 n2 d2 e2 n3 d3 e3 n4 d4 e4 p9 p60 p5 p3 p4 : Int) (v : Bool) (w : World)
    (hn : (-9223372036854775808 ≤ n ∧ n ≤ 9223372036854775807) ∧ (-9223372036854775808 ≤ d ∧ d ≤ 9223372036854775807)) (hk : 0 ≤ k ∧ k ≤ 8)
    (hp9 : 0 ≤ p9 ∧ p9 < 1000000000) (hp60 : 0 ≤ p60 ∧ p60 < 60) (hp5 : 0 ≤ p5 ∧ p5 < 5) (hp3 : 0 ≤ p3 ∧ p3 < 3) (hp4 : 0 ≤ p4 ∧ p4 < 4)
    (b1 : (-1000000000000000 ≤ n1 ∧ n1 ≤ 1000000000000000) ∧ (0 ≤ d1 ∧ d1 ≤ 1000000000)) (b2 : (-1000000000000000 ≤ n2 ∧ n2 ≤ 1000000000000000) ∧ (0 ≤ d2 ∧ d2 ≤ 1000000000))
    (b3 : (-1000000000000000 ≤ n3 ∧ n3 ≤ 1000000000000000) ∧ (0 ≤ d3 ∧ d3 ≤ 1000000000)) (b4 : (-1000000000000000 ≤ n4 ∧ n4 ≤ 1000000000000000) ∧ (0 ≤ d4 ∧ d4 ≤ 1000000000))
    (PK : Hid (∀ w, Calls Tryd.prog 7 #[.int .i64 m, .int .i64 9] w fun e w' => e = .returned (.int .i64 k) ∧ w = w'))
    (P9 : Hid (∀ w, Calls Tryd.prog 7 #[.int .i64 d, .int .i64 1000000000] w fun e w' => e = .returned (.int .i64 p9) ∧ w = w'))
    (P60 : Hid (∀ w, Calls Tryd.prog 7 #[.int .i64 d, .int .i64 60] w fun e w' => e = .returned (.int .i64 p60) ∧ w = w'))
    (PA : Hid (∀ w, Calls Tryd.prog 7 #[.int .i64 n, .int .i64 5] w fun e w' => e = .returned (.int .i64 p5) ∧ w = w'))
    (PB : Hid (∀ w, Calls Tryd.prog 7 #[.int .i64 d, .int .i64 3] w fun e w' => e = .returned (.int .i64 p3) ∧ w = w'))
    (P4 : Hid (∀ w, Calls Tryd.prog 7 #[.int .i64 d, .int .i64 4] w fun e w' => e = .returned (.int .i64 p4) ∧ w = w'))
    (M1 : Hid (∀ w, Calls Tryd.prog 6 #[.int .i64 (Int.tmod n 1000000000000001), .int .i64 (p9 + 1)] w fun e w' => e = .returned (.tuple #[.agg #[.int .i64 n1, .int .i64 d1], .int .i64 e1]) ∧ Rel w w'))
    (M2 : Hid (∀ w, Calls Tryd.prog 6 #[.int .i64 (1000000000000000 - p5), .int .i64 (p3 + 1)] w fun e w' => e = .returned (.tuple #[.agg #[.int .i64 n2, .int .i64 d2], .int .i64 e2]) ∧ Rel w w'))
    (M3 : Hid (∀ w, Calls Tryd.prog 6 #[.int .i64 (Int.tmod n 7), .int .i64 (1000000000 - p4)] w fun e w' => e = .returned (.tuple #[.agg #[.int .i64 n3, .int .i64 d3], .int .i64 e3]) ∧ Rel w w'))
    (M4 : Hid (∀ w, Calls Tryd.prog 6 #[.int .i64 (Int.tmod n 200), .int .i64 (p60 + 1)] w fun e w' => e = .returned (.tuple #[.agg #[.int .i64 n4, .int .i64 d4], .int .i64 e4]) ∧ Rel w w'))
    (V2 : Hid (∀ w, Calls Tryd.prog 17 #[.agg #[.int .i64 n2, .int .i64 d2]] w fun e w' => e = .returned (.bool v) ∧ Rel w w')) :
    Calls Tryd.prog 12 #[.agg #[.int .i64 n, .int .i64 d], .int .i64 m] w (SomeFr w) := by
  have t1 := Int.tmod_lt_of_pos n (show (0 : Int) < 1000000000000001 by omega)
  have t2 := tmod_gt n 1000000000000001 (by omega)
  unfold SomeFr
  have B0 := Lib.hid hn
  have B1 : Hid ((-9223372036854775808 ≤ n1 ∧ n1 ≤ 9223372036854775807) ∧ (-9223372036854775808 ≤ d1 ∧ d1 ≤ 9223372036854775807)) := Lib.hid (by omega)
  have B2 : Hid ((-9223372036854775808 ≤ n2 ∧ n2 ≤ 9223372036854775807) ∧ (-9223372036854775808 ≤ d2 ∧ d2 ≤ 9223372036854775807)) := Lib.hid (by omega)
  have B3 : Hid ((-9223372036854775808 ≤ n3 ∧ n3 ≤ 9223372036854775807) ∧ (-9223372036854775808 ≤ d3 ∧ d3 ≤ 9223372036854775807)) := Lib.hid (by omega)
  have B4 : Hid ((-9223372036854775808 ≤ n4 ∧ n4 ≤ 9223372036854775807) ∧ (-9223372036854775808 ≤ d4 ∧ d4 ≤ 9223372036854775807)) := Lib.hid (by omega)
  have b01 := hn.1.1; have b02 := hn.1.2; have b03 := hn.2.1; have b04 := hn.2.2
  have q1 := hp9.1; have q2 := hp9.2; have q3 := hp60.1; have q4 := hp60.2; have q5 := hp5.1; have q6 := hp5.2; have q7 := hp3.1; have q8 := hp3.2; have q9 := hp4.1; have q10 := hp4.2
  clear b1 b2 b3 b4 hp9 hp60 hp5 hp3 hp4 hn
  have hk' : k = 0 ∨ k = 1 ∨ k = 2 ∨ k = 3 ∨ k = 4 ∨ (5 ≤ k ∧ (k == 0) = false ∧ (k == 1) = false ∧ (k == 2) = false ∧ (k == 3) = false ∧ (k == 4) = false) := by
    rcases (show k = 0 ∨ k = 1 ∨ k = 2 ∨ k = 3 ∨ k = 4 ∨ 5 ≤ k by omega) with h | h | h | h | h | h
    · exact .inl h
    · exact .inr (.inl h)
    · exact .inr (.inr (.inl h))
    · exact .inr (.inr (.inr (.inl h)))
    · exact .inr (.inr (.inr (.inr (.inl h))))
    · exact .inr (.inr (.inr (.inr (.inr ⟨h, by simp; omega, by simp; omega, by simp; omega, by simp; omega, by simp; omega⟩))))
  clear hk
  have x1 : IntKind.i64.wrap (p9 + 1) = p9 + 1 := IntWalk.i64_in _ ⟨by omega, by omega⟩
  have x2 : IntKind.i64.wrap (p60 + 1) = p60 + 1 := IntWalk.i64_in _ ⟨by omega, by omega⟩
  have x3 : IntKind.i64.wrap (p3 + 1) = p3 + 1 := IntWalk.i64_in _ ⟨by omega, by omega⟩
  have x4 : IntKind.i64.wrap (1000000000000000 - p5) = 1000000000000000 - p5 := IntWalk.i64_in _ ⟨by omega, by omega⟩
  have x5 : IntKind.i64.wrap (1000000000 - p4) = 1000000000 - p4 := IntWalk.i64_in _ ⟨by omega, by omega⟩
  rcases hk' with rfl | rfl | rfl | rfl | rfl | ⟨_, k0, k1, k2, k3, k4⟩
  · go_enter Tryd.func12, Tryd.ntmps12
    go_wp2_with fail
    with_reducible refine (PK.out _).mono ?_
    rintro e w1 ⟨rfl, rfl⟩
    go_wp2_with fail
    refine bodyPost_ret ?_ rfl ⟨n, d, B0.out, rfl, ?_⟩
    · simp [results, Tryd.results12, go_sem]
    · (repeat (first | with_reducible exact Rel.refl _ | with_reducible refine Rel.alloc ?_ _ | with_reducible refine Rel.setCell ?_ (by first | (simp; done) | (simp; omega) | omega) _))
  · have he : (e1 == 0) = true ∨ (e1 == 0) = false := by cases (e1 == 0) <;> simp
    rcases he with he | he
    · go_enter Tryd.func12, Tryd.ntmps12
      go_wp2_with fail
      with_reducible refine (PK.out _).mono ?_
      rintro e w1 ⟨rfl, rfl⟩
      go_wp2_with fail
      refine wp_region_calm (fun _ w' => w'.cell? { block := w.heap.size, off := 0 } = some (.int .i64 n) ∧ w'.cell? { block := w.heap.size, off := 1 } = some (.int .i64 d)) (fun _ => false) [0, 1, 2, 3, 4, 5, 6, 7, 8, 9, 10] 3 (by kernel_rfl) (by kernel_rfl) ?hst ?hS0 (fun w0 h0 => ?_)
      case hst => exact fun _ _ _ h r => ⟨r.cell h.1, r.cell h.2⟩
      case hS0 => exact ⟨by go_simp, by go_simp⟩
      iterate 5
        refine wpCalm_go rfl (by kernel_rfl) (fun K hK => ?_)
        apply Exists.intro
        refine ⟨fun M w hM hS => ?_, hK _ ?_⟩
        · have c1 := hS.1
          have c2 := hS.2
          unfold calmAt
          go_simp
          exact ⟨rfl, Rel.refl _⟩
        clear hK K
      refine wpCalm_go rfl (by kernel_rfl) (fun K hK => ?_)
      apply Exists.intro
      refine ⟨fun M w hM hS => ?_, hK _ ?_⟩
      · have c1 := hS.1
        have c2 := hS.2
        unfold calmAt
        go_simp
        with_reducible refine (P9.out _).mono ?_
        rintro e w1 ⟨rfl, rfl⟩
        exact ⟨rfl, Rel.refl _⟩
      clear hK K
      iterate 1
        refine wpCalm_go rfl (by kernel_rfl) (fun K hK => ?_)
        apply Exists.intro
        refine ⟨fun M w hM hS => ?_, hK _ ?_⟩
        · have c1 := hS.1
          have c2 := hS.2
          unfold calmAt
          go_simp
          exact ⟨rfl, Rel.refl _⟩
        clear hK K
      refine wpCalm_go rfl (by kernel_rfl) (fun K hK => ?_)
      apply Exists.intro
      refine ⟨fun M w hM hS => ?_, hK _ ?_⟩
      · unfold calmAt
        go_simp
        with_reducible refine (M1.out _).mono ?_
        rintro e w1 ⟨rfl, hb⟩
        exact ⟨rfl, hb⟩
      clear hK K
      iterate 3
        refine wpCalm_go rfl (by kernel_rfl) (fun K hK => ?_)
        apply Exists.intro
        refine ⟨fun M w hM hS => ?_, hK _ ?_⟩
        · unfold calmAt
          go_simp
          exact ⟨rfl, Rel.refl _⟩
        clear hK K
      refine wpCalm_nil ?_
      have h11 := h0
      clear h0
      have q := keep2 h11 (b := w.heap.size) (by first | (simp; done) | (simp; omega) | omega)
      have kc11_0_0 := q.1
      have kc11_0_1 := q.2.1
      have kf11_0_0 := q.2.2.1
      have kf11_0_1 := q.2.2.2.1
      have kl11_0 := q.2.2.2.2.1
      have kn11_0 := q.2.2.2.2.2.1
      have km11_0 := q.2.2.2.2.2.2
      clear q
      have q := keep2 h11 (b := w.heap.size + 1) (by first | (simp; done) | (simp; omega) | omega)
      have kc11_1_0 := q.1
      have kc11_1_1 := q.2.1
      have kf11_1_0 := q.2.2.1
      have kf11_1_1 := q.2.2.2.1
      have kl11_1 := q.2.2.2.2.1
      have kn11_1 := q.2.2.2.2.2.1
      have km11_1 := q.2.2.2.2.2.2
      clear q
      have kz11 := h11.size
      (try simp only [World.size_alloc, World.size_setCell, World.size_drew] at kz11)
      have H11 := Lib.hid h11
      clear h11
      refine wpAnyR_ready (rs := [11]) (by kernel_rfl) (by simp) (AllR.cons rfl (fun w21 h21 K' hK' => ?_) AllR.nil)
      have q := keep2 h21 (b := w.heap.size) (by first | (simp; done) | (simp; omega) | omega)
      have kc21_0_0 := q.1
      have kc21_0_1 := q.2.1
      have kf21_0_0 := q.2.2.1
      have kf21_0_1 := q.2.2.2.1
      have kl21_0 := q.2.2.2.2.1
      have kn21_0 := q.2.2.2.2.2.1
      have km21_0 := q.2.2.2.2.2.2
      clear q
      have q := keep2 h21 (b := w.heap.size + 1) (by first | (simp; done) | (simp; omega) | omega)
      have kc21_1_0 := q.1
      have kc21_1_1 := q.2.1
      have kf21_1_0 := q.2.2.1
      have kf21_1_1 := q.2.2.2.1
      have kl21_1 := q.2.2.2.2.1
      have kn21_1 := q.2.2.2.2.2.1
      have km21_1 := q.2.2.2.2.2.2
      clear q
      have kz21 := h21.size
      (try simp only [World.size_alloc, World.size_setCell, World.size_drew] at kz21)
      have H21 := Lib.hid h21
      clear h21
      go_simp
      refine hK'.out _ _ ⟨by go_simp, by go_simp⟩ ?_
      clear hK' K'
      refine wpAnyR_ready (rs := [12]) (by kernel_rfl) (by simp) (AllR.cons rfl (fun w31 h31 K' hK' => ?_) AllR.nil)
      have q := keep2 h31 (b := w.heap.size) (by first | (simp; done) | (simp; omega) | omega)
      have kc31_0_0 := q.1
      have kc31_0_1 := q.2.1
      have kf31_0_0 := q.2.2.1
      have kf31_0_1 := q.2.2.2.1
      have kl31_0 := q.2.2.2.2.1
      have kn31_0 := q.2.2.2.2.2.1
      have km31_0 := q.2.2.2.2.2.2
      clear q
      have q := keep2 h31 (b := w.heap.size + 1) (by first | (simp; done) | (simp; omega) | omega)
      have kc31_1_0 := q.1
      have kc31_1_1 := q.2.1
      have kf31_1_0 := q.2.2.1
      have kf31_1_1 := q.2.2.2.1
      have kl31_1 := q.2.2.2.2.1
      have kn31_1 := q.2.2.2.2.2.1
      have km31_1 := q.2.2.2.2.2.2
      clear q
      have q := keep2 h31 (b := w21.heap.size) (by first | (simp; done) | (simp; omega) | omega)
      have kc31_2_0 := q.1
      have kc31_2_1 := q.2.1
      have kf31_2_0 := q.2.2.1
      have kf31_2_1 := q.2.2.2.1
      have kl31_2 := q.2.2.2.2.1
      have kn31_2 := q.2.2.2.2.2.1
      have km31_2 := q.2.2.2.2.2.2
      clear q
      have kz31 := h31.size
      (try simp only [World.size_alloc, World.size_setCell, World.size_drew] at kz31)
      have H31 := Lib.hid h31
      clear h31
      go_simp
      refine hK'.out _ _ ⟨by go_simp, by go_simp⟩ ?_
      clear hK' K'
      refine wpAnyR_ready (rs := [13]) (by kernel_rfl) (by simp) (AllR.cons rfl (fun w41 h41 K' hK' => ?_) AllR.nil)
      have q := keep2 h41 (b := w.heap.size) (by first | (simp; done) | (simp; omega) | omega)
      have kc41_0_0 := q.1
      have kc41_0_1 := q.2.1
      have kf41_0_0 := q.2.2.1
      have kf41_0_1 := q.2.2.2.1
      have kl41_0 := q.2.2.2.2.1
      have kn41_0 := q.2.2.2.2.2.1
      have km41_0 := q.2.2.2.2.2.2
      clear q
      have q := keep2 h41 (b := w.heap.size + 1) (by first | (simp; done) | (simp; omega) | omega)
      have kc41_1_0 := q.1
      have kc41_1_1 := q.2.1
      have kf41_1_0 := q.2.2.1
      have kf41_1_1 := q.2.2.2.1
      have kl41_1 := q.2.2.2.2.1
      have kn41_1 := q.2.2.2.2.2.1
      have km41_1 := q.2.2.2.2.2.2
      clear q
      have q := keep2 h41 (b := w21.heap.size) (by first | (simp; done) | (simp; omega) | omega)
      have kc41_2_0 := q.1
      have kc41_2_1 := q.2.1
      have kf41_2_0 := q.2.2.1
      have kf41_2_1 := q.2.2.2.1
      have kl41_2 := q.2.2.2.2.1
      have kn41_2 := q.2.2.2.2.2.1
      have km41_2 := q.2.2.2.2.2.2
      clear q
      have kz41 := h41.size
      (try simp only [World.size_alloc, World.size_setCell, World.size_drew] at kz41)
      have H41 := Lib.hid h41
      clear h41
      go_simp
      refine hK'.out _ _ ⟨by go_simp, by go_simp⟩ ?_
      clear hK' K'
      refine wpAnyR_end (by kernel_rfl) (fun w51 h51 => ?_)
      (try simp only [Act.put, List.setIfInBounds_toArray, List.set_cons_zero, List.set_cons_succ])
      have q := keep2 h51 (b := w.heap.size) (by first | (simp; done) | (simp; omega) | omega)
      have kc51_0_0 := q.1
      have kc51_0_1 := q.2.1
      have kf51_0_0 := q.2.2.1
      have kf51_0_1 := q.2.2.2.1
      have kl51_0 := q.2.2.2.2.1
      have kn51_0 := q.2.2.2.2.2.1
      have km51_0 := q.2.2.2.2.2.2
      clear q
      have q := keep2 h51 (b := w.heap.size + 1) (by first | (simp; done) | (simp; omega) | omega)
      have kc51_1_0 := q.1
      have kc51_1_1 := q.2.1
      have kf51_1_0 := q.2.2.1
      have kf51_1_1 := q.2.2.2.1
      have kl51_1 := q.2.2.2.2.1
      have kn51_1 := q.2.2.2.2.2.1
      have km51_1 := q.2.2.2.2.2.2
      clear q
      have q := keep2 h51 (b := w21.heap.size) (by first | (simp; done) | (simp; omega) | omega)
      have kc51_2_0 := q.1
      have kc51_2_1 := q.2.1
      have kf51_2_0 := q.2.2.1
      have kf51_2_1 := q.2.2.2.1
      have kl51_2 := q.2.2.2.2.1
      have kn51_2 := q.2.2.2.2.2.1
      have km51_2 := q.2.2.2.2.2.2
      clear q
      have kz51 := h51.size
      (try simp only [World.size_alloc, World.size_setCell, World.size_drew] at kz51)
      have H51 := Lib.hid h51
      clear h51
      go_wp2
      refine bodyPost_ret ?_ rfl ⟨n1, d1, B1.out, rfl, ?_⟩
      · simp [results, Tryd.results12, go_sem, kc11_1_0, kc11_1_1, kl11_1, kc21_1_0, kc21_1_1, kl21_1, kc31_1_0, kc31_1_1, kl31_1, kc41_1_0, kc41_1_1, kl41_1, kc51_1_0, kc51_1_1, kl51_1]
      · (repeat (first | with_reducible exact Rel.refl _ | with_reducible refine Rel.alloc ?_ _ | with_reducible refine Rel.setCell ?_ (by first | (simp; done) | (simp; omega) | omega) _ | with_reducible refine Rel.trans ?_ H51.out | with_reducible refine Rel.trans ?_ H41.out | with_reducible refine Rel.trans ?_ H31.out | with_reducible refine Rel.trans ?_ H21.out | with_reducible refine Rel.trans ?_ H11.out))
    · go_enter Tryd.func12, Tryd.ntmps12
      go_wp2_with fail
      with_reducible refine (PK.out _).mono ?_
      rintro e w1 ⟨rfl, rfl⟩
      go_wp2_with fail
      refine wp_region_calm (fun _ w' => w'.cell? { block := w.heap.size, off := 0 } = some (.int .i64 n) ∧ w'.cell? { block := w.heap.size, off := 1 } = some (.int .i64 d)) (fun _ => false) [0, 1, 2, 3, 4, 5, 6, 7, 8, 9, 10] 3 (by kernel_rfl) (by kernel_rfl) ?hst ?hS0 (fun w0 h0 => ?_)
      case hst => exact fun _ _ _ h r => ⟨r.cell h.1, r.cell h.2⟩
      case hS0 => exact ⟨by go_simp, by go_simp⟩
      iterate 5
        refine wpCalm_go rfl (by kernel_rfl) (fun K hK => ?_)
        apply Exists.intro
        refine ⟨fun M w hM hS => ?_, hK _ ?_⟩
        · have c1 := hS.1
          have c2 := hS.2
          unfold calmAt
          go_simp
          exact ⟨rfl, Rel.refl _⟩
        clear hK K
      refine wpCalm_go rfl (by kernel_rfl) (fun K hK => ?_)
      apply Exists.intro
      refine ⟨fun M w hM hS => ?_, hK _ ?_⟩
      · have c1 := hS.1
        have c2 := hS.2
        unfold calmAt
        go_simp
        with_reducible refine (P9.out _).mono ?_
        rintro e w1 ⟨rfl, rfl⟩
        exact ⟨rfl, Rel.refl _⟩
      clear hK K
      iterate 1
        refine wpCalm_go rfl (by kernel_rfl) (fun K hK => ?_)
        apply Exists.intro
        refine ⟨fun M w hM hS => ?_, hK _ ?_⟩
        · have c1 := hS.1
          have c2 := hS.2
          unfold calmAt
          go_simp
          exact ⟨rfl, Rel.refl _⟩
        clear hK K
      refine wpCalm_go rfl (by kernel_rfl) (fun K hK => ?_)
      apply Exists.intro
      refine ⟨fun M w hM hS => ?_, hK _ ?_⟩
      · unfold calmAt
        go_simp
        with_reducible refine (M1.out _).mono ?_
        rintro e w1 ⟨rfl, hb⟩
        exact ⟨rfl, hb⟩
      clear hK K
      iterate 3
        refine wpCalm_go rfl (by kernel_rfl) (fun K hK => ?_)
        apply Exists.intro
        refine ⟨fun M w hM hS => ?_, hK _ ?_⟩
        · unfold calmAt
          go_simp
          exact ⟨rfl, Rel.refl _⟩
        clear hK K
      refine wpCalm_nil ?_
      have h11 := h0
      clear h0
      have q := keep2 h11 (b := w.heap.size) (by first | (simp; done) | (simp; omega) | omega)
      have kc11_0_0 := q.1
      have kc11_0_1 := q.2.1
      have kf11_0_0 := q.2.2.1
      have kf11_0_1 := q.2.2.2.1
      have kl11_0 := q.2.2.2.2.1
      have kn11_0 := q.2.2.2.2.2.1
      have km11_0 := q.2.2.2.2.2.2
      clear q
      have q := keep2 h11 (b := w.heap.size + 1) (by first | (simp; done) | (simp; omega) | omega)
      have kc11_1_0 := q.1
      have kc11_1_1 := q.2.1
      have kf11_1_0 := q.2.2.1
      have kf11_1_1 := q.2.2.2.1
      have kl11_1 := q.2.2.2.2.1
      have kn11_1 := q.2.2.2.2.2.1
      have km11_1 := q.2.2.2.2.2.2
      clear q
      have kz11 := h11.size
      (try simp only [World.size_alloc, World.size_setCell, World.size_drew] at kz11)
      have H11 := Lib.hid h11
      clear h11
      refine wpAnyR_ready (rs := [11]) (by kernel_rfl) (by simp) (AllR.cons rfl (fun w21 h21 K' hK' => ?_) AllR.nil)
      have q := keep2 h21 (b := w.heap.size) (by first | (simp; done) | (simp; omega) | omega)
      have kc21_0_0 := q.1
      have kc21_0_1 := q.2.1
      have kf21_0_0 := q.2.2.1
      have kf21_0_1 := q.2.2.2.1
      have kl21_0 := q.2.2.2.2.1
      have kn21_0 := q.2.2.2.2.2.1
      have km21_0 := q.2.2.2.2.2.2
      clear q
      have q := keep2 h21 (b := w.heap.size + 1) (by first | (simp; done) | (simp; omega) | omega)
      have kc21_1_0 := q.1
      have kc21_1_1 := q.2.1
      have kf21_1_0 := q.2.2.1
      have kf21_1_1 := q.2.2.2.1
      have kl21_1 := q.2.2.2.2.1
      have kn21_1 := q.2.2.2.2.2.1
      have km21_1 := q.2.2.2.2.2.2
      clear q
      have kz21 := h21.size
      (try simp only [World.size_alloc, World.size_setCell, World.size_drew] at kz21)
      have H21 := Lib.hid h21
      clear h21
      go_simp
      refine hK'.out _ _ ⟨by go_simp, by go_simp⟩ ?_
      clear hK' K'
      refine wpAnyR_ready (rs := [12]) (by kernel_rfl) (by simp) (AllR.cons rfl (fun w31 h31 K' hK' => ?_) AllR.nil)
      have q := keep2 h31 (b := w.heap.size) (by first | (simp; done) | (simp; omega) | omega)
      have kc31_0_0 := q.1
      have kc31_0_1 := q.2.1
      have kf31_0_0 := q.2.2.1
      have kf31_0_1 := q.2.2.2.1
      have kl31_0 := q.2.2.2.2.1
      have kn31_0 := q.2.2.2.2.2.1
      have km31_0 := q.2.2.2.2.2.2
      clear q
      have q := keep2 h31 (b := w.heap.size + 1) (by first | (simp; done) | (simp; omega) | omega)
      have kc31_1_0 := q.1
      have kc31_1_1 := q.2.1
      have kf31_1_0 := q.2.2.1
      have kf31_1_1 := q.2.2.2.1
      have kl31_1 := q.2.2.2.2.1
      have kn31_1 := q.2.2.2.2.2.1
      have km31_1 := q.2.2.2.2.2.2
      clear q
      have q := keep2 h31 (b := w21.heap.size) (by first | (simp; done) | (simp; omega) | omega)
      have kc31_2_0 := q.1
      have kc31_2_1 := q.2.1
      have kf31_2_0 := q.2.2.1
      have kf31_2_1 := q.2.2.2.1
      have kl31_2 := q.2.2.2.2.1
      have kn31_2 := q.2.2.2.2.2.1
      have km31_2 := q.2.2.2.2.2.2
      clear q
      have kz31 := h31.size
      (try simp only [World.size_alloc, World.size_setCell, World.size_drew] at kz31)
      have H31 := Lib.hid h31
      clear h31
      go_simp
      refine hK'.out _ _ ⟨by go_simp, by go_simp⟩ ?_
      clear hK' K'
      refine wpAnyR_ready (rs := [13]) (by kernel_rfl) (by simp) (AllR.cons rfl (fun w41 h41 K' hK' => ?_) AllR.nil)
      have q := keep2 h41 (b := w.heap.size) (by first | (simp; done) | (simp; omega) | omega)
      have kc41_0_0 := q.1
      have kc41_0_1 := q.2.1
      have kf41_0_0 := q.2.2.1
      have kf41_0_1 := q.2.2.2.1
      have kl41_0 := q.2.2.2.2.1
      have kn41_0 := q.2.2.2.2.2.1
      have km41_0 := q.2.2.2.2.2.2
      clear q
      have q := keep2 h41 (b := w.heap.size + 1) (by first | (simp; done) | (simp; omega) | omega)
      have kc41_1_0 := q.1
      have kc41_1_1 := q.2.1
      have kf41_1_0 := q.2.2.1
      have kf41_1_1 := q.2.2.2.1
      have kl41_1 := q.2.2.2.2.1
      have kn41_1 := q.2.2.2.2.2.1
      have km41_1 := q.2.2.2.2.2.2
      clear q
      have q := keep2 h41 (b := w21.heap.size) (by first | (simp; done) | (simp; omega) | omega)
      have kc41_2_0 := q.1
      have kc41_2_1 := q.2.1
      have kf41_2_0 := q.2.2.1
      have kf41_2_1 := q.2.2.2.1
      have kl41_2 := q.2.2.2.2.1
      have kn41_2 := q.2.2.2.2.2.1
      have km41_2 := q.2.2.2.2.2.2
      clear q
      have kz41 := h41.size
      (try simp only [World.size_alloc, World.size_setCell, World.size_drew] at kz41)
      have H41 := Lib.hid h41
      clear h41
      go_simp
      refine hK'.out _ _ ⟨by go_simp, by go_simp⟩ ?_
      clear hK' K'
      refine wpAnyR_end (by kernel_rfl) (fun w51 h51 => ?_)
      (try simp only [Act.put, List.setIfInBounds_toArray, List.set_cons_zero, List.set_cons_succ])
      have q := keep2 h51 (b := w.heap.size) (by first | (simp; done) | (simp; omega) | omega)
      have kc51_0_0 := q.1
      have kc51_0_1 := q.2.1
      have kf51_0_0 := q.2.2.1
      have kf51_0_1 := q.2.2.2.1
      have kl51_0 := q.2.2.2.2.1
      have kn51_0 := q.2.2.2.2.2.1
      have km51_0 := q.2.2.2.2.2.2
      clear q
      have q := keep2 h51 (b := w.heap.size + 1) (by first | (simp; done) | (simp; omega) | omega)
      have kc51_1_0 := q.1
      have kc51_1_1 := q.2.1
      have kf51_1_0 := q.2.2.1
      have kf51_1_1 := q.2.2.2.1
      have kl51_1 := q.2.2.2.2.1
      have kn51_1 := q.2.2.2.2.2.1
      have km51_1 := q.2.2.2.2.2.2
      clear q
      have q := keep2 h51 (b := w21.heap.size) (by first | (simp; done) | (simp; omega) | omega)
      have kc51_2_0 := q.1
      have kc51_2_1 := q.2.1
      have kf51_2_0 := q.2.2.1
      have kf51_2_1 := q.2.2.2.1
      have kl51_2 := q.2.2.2.2.1
      have kn51_2 := q.2.2.2.2.2.1
      have km51_2 := q.2.2.2.2.2.2
      clear q
      have kz51 := h51.size
      (try simp only [World.size_alloc, World.size_setCell, World.size_drew] at kz51)
      have H51 := Lib.hid h51
      clear h51
      go_wp2_with fail
      refine wp_region_calm (fun _ w' => w'.cell? { block := w.heap.size, off := 0 } = some (.int .i64 n) ∧ w'.cell? { block := w.heap.size, off := 1 } = some (.int .i64 d)) (fun _ => false) [0, 1, 2, 3, 4, 5, 6, 7, 8, 9, 10] 3 (by kernel_rfl) (by kernel_rfl) ?hst ?hS0 (fun w0 h0 => ?_)
      case hst => exact fun _ _ _ h r => ⟨r.cell h.1, r.cell h.2⟩
      case hS0 => exact ⟨by go_simp, by go_simp⟩
      iterate 5
        refine wpCalm_go rfl (by kernel_rfl) (fun K hK => ?_)
        apply Exists.intro
        refine ⟨fun M w hM hS => ?_, hK _ ?_⟩
        · have c1 := hS.1
          have c2 := hS.2
          unfold calmAt
          go_simp
          exact ⟨rfl, Rel.refl _⟩
        clear hK K
      refine wpCalm_go rfl (by kernel_rfl) (fun K hK => ?_)
      apply Exists.intro
      refine ⟨fun M w hM hS => ?_, hK _ ?_⟩
      · have c1 := hS.1
        have c2 := hS.2
        unfold calmAt
        go_simp
        with_reducible refine (P60.out _).mono ?_
        rintro e w1 ⟨rfl, rfl⟩
        exact ⟨rfl, Rel.refl _⟩
      clear hK K
      iterate 1
        refine wpCalm_go rfl (by kernel_rfl) (fun K hK => ?_)
        apply Exists.intro
        refine ⟨fun M w hM hS => ?_, hK _ ?_⟩
        · have c1 := hS.1
          have c2 := hS.2
          unfold calmAt
          go_simp
          exact ⟨rfl, Rel.refl _⟩
        clear hK K
      refine wpCalm_go rfl (by kernel_rfl) (fun K hK => ?_)
      apply Exists.intro
      refine ⟨fun M w hM hS => ?_, hK _ ?_⟩
      · unfold calmAt
        go_simp
        with_reducible refine (M4.out _).mono ?_
        rintro e w1 ⟨rfl, hb⟩
        exact ⟨rfl, hb⟩
      clear hK K
      iterate 3
        refine wpCalm_go rfl (by kernel_rfl) (fun K hK => ?_)
        apply Exists.intro
        refine ⟨fun M w hM hS => ?_, hK _ ?_⟩
        · unfold calmAt
          go_simp
          exact ⟨rfl, Rel.refl _⟩
        clear hK K
      refine wpCalm_nil ?_
      have h12 := h0
      clear h0
      have q := keep2 h12 (b := w.heap.size) (by first | (simp; done) | (simp; omega) | omega)
      have kc12_0_0 := q.1
      have kc12_0_1 := q.2.1
      have kf12_0_0 := q.2.2.1
      have kf12_0_1 := q.2.2.2.1
      have kl12_0 := q.2.2.2.2.1
      have kn12_0 := q.2.2.2.2.2.1
      have km12_0 := q.2.2.2.2.2.2
      clear q
      have q := keep2 h12 (b := w.heap.size + 1) (by first | (simp; done) | (simp; omega) | omega)
      have kc12_1_0 := q.1
      have kc12_1_1 := q.2.1
      have kf12_1_0 := q.2.2.1
      have kf12_1_1 := q.2.2.2.1
      have kl12_1 := q.2.2.2.2.1
      have kn12_1 := q.2.2.2.2.2.1
      have km12_1 := q.2.2.2.2.2.2
      clear q
      have kz12 := h12.size
      (try simp only [World.size_alloc, World.size_setCell, World.size_drew] at kz12)
      have H12 := Lib.hid h12
      clear h12
      refine wpAnyR_ready (rs := [11]) (by kernel_rfl) (by simp) (AllR.cons rfl (fun w22 h22 K' hK' => ?_) AllR.nil)
      have q := keep2 h22 (b := w.heap.size) (by first | (simp; done) | (simp; omega) | omega)
      have kc22_0_0 := q.1
      have kc22_0_1 := q.2.1
      have kf22_0_0 := q.2.2.1
      have kf22_0_1 := q.2.2.2.1
      have kl22_0 := q.2.2.2.2.1
      have kn22_0 := q.2.2.2.2.2.1
      have km22_0 := q.2.2.2.2.2.2
      clear q
      have q := keep2 h22 (b := w.heap.size + 1) (by first | (simp; done) | (simp; omega) | omega)
      have kc22_1_0 := q.1
      have kc22_1_1 := q.2.1
      have kf22_1_0 := q.2.2.1
      have kf22_1_1 := q.2.2.2.1
      have kl22_1 := q.2.2.2.2.1
      have kn22_1 := q.2.2.2.2.2.1
      have km22_1 := q.2.2.2.2.2.2
      clear q
      have kz22 := h22.size
      (try simp only [World.size_alloc, World.size_setCell, World.size_drew] at kz22)
      have H22 := Lib.hid h22
      clear h22
      go_simp
      refine hK'.out _ _ ⟨by go_simp, by go_simp⟩ ?_
      clear hK' K'
      refine wpAnyR_ready (rs := [12]) (by kernel_rfl) (by simp) (AllR.cons rfl (fun w32 h32 K' hK' => ?_) AllR.nil)
      have q := keep2 h32 (b := w.heap.size) (by first | (simp; done) | (simp; omega) | omega)
      have kc32_0_0 := q.1
      have kc32_0_1 := q.2.1
      have kf32_0_0 := q.2.2.1
      have kf32_0_1 := q.2.2.2.1
      have kl32_0 := q.2.2.2.2.1
      have kn32_0 := q.2.2.2.2.2.1
      have km32_0 := q.2.2.2.2.2.2
      clear q
      have q := keep2 h32 (b := w.heap.size + 1) (by first | (simp; done) | (simp; omega) | omega)
      have kc32_1_0 := q.1
      have kc32_1_1 := q.2.1
      have kf32_1_0 := q.2.2.1
      have kf32_1_1 := q.2.2.2.1
      have kl32_1 := q.2.2.2.2.1
      have kn32_1 := q.2.2.2.2.2.1
      have km32_1 := q.2.2.2.2.2.2
      clear q
      have q := keep2 h32 (b := w22.heap.size) (by first | (simp; done) | (simp; omega) | omega)
      have kc32_2_0 := q.1
      have kc32_2_1 := q.2.1
      have kf32_2_0 := q.2.2.1
      have kf32_2_1 := q.2.2.2.1
      have kl32_2 := q.2.2.2.2.1
      have kn32_2 := q.2.2.2.2.2.1
      have km32_2 := q.2.2.2.2.2.2
      clear q
      have kz32 := h32.size
      (try simp only [World.size_alloc, World.size_setCell, World.size_drew] at kz32)
      have H32 := Lib.hid h32
      clear h32
      go_simp
      refine hK'.out _ _ ⟨by go_simp, by go_simp⟩ ?_
      clear hK' K'
      refine wpAnyR_ready (rs := [13]) (by kernel_rfl) (by simp) (AllR.cons rfl (fun w42 h42 K' hK' => ?_) AllR.nil)
      have q := keep2 h42 (b := w.heap.size) (by first | (simp; done) | (simp; omega) | omega)
      have kc42_0_0 := q.1
      have kc42_0_1 := q.2.1
      have kf42_0_0 := q.2.2.1
      have kf42_0_1 := q.2.2.2.1
      have kl42_0 := q.2.2.2.2.1
      have kn42_0 := q.2.2.2.2.2.1
      have km42_0 := q.2.2.2.2.2.2
      clear q
      have q := keep2 h42 (b := w.heap.size + 1) (by first | (simp; done) | (simp; omega) | omega)
      have kc42_1_0 := q.1
      have kc42_1_1 := q.2.1
      have kf42_1_0 := q.2.2.1
      have kf42_1_1 := q.2.2.2.1
      have kl42_1 := q.2.2.2.2.1
      have kn42_1 := q.2.2.2.2.2.1
      have km42_1 := q.2.2.2.2.2.2
      clear q
      have q := keep2 h42 (b := w22.heap.size) (by first | (simp; done) | (simp; omega) | omega)
      have kc42_2_0 := q.1
      have kc42_2_1 := q.2.1
      have kf42_2_0 := q.2.2.1
      have kf42_2_1 := q.2.2.2.1
      have kl42_2 := q.2.2.2.2.1
      have kn42_2 := q.2.2.2.2.2.1
      have km42_2 := q.2.2.2.2.2.2
      clear q
      have kz42 := h42.size
      (try simp only [World.size_alloc, World.size_setCell, World.size_drew] at kz42)
      have H42 := Lib.hid h42
      clear h42
      go_simp
      refine hK'.out _ _ ⟨by go_simp, by go_simp⟩ ?_
      clear hK' K'
      refine wpAnyR_end (by kernel_rfl) (fun w52 h52 => ?_)
      (try simp only [Act.put, List.setIfInBounds_toArray, List.set_cons_zero, List.set_cons_succ])
      have q := keep2 h52 (b := w.heap.size) (by first | (simp; done) | (simp; omega) | omega)
      have kc52_0_0 := q.1
      have kc52_0_1 := q.2.1
      have kf52_0_0 := q.2.2.1
      have kf52_0_1 := q.2.2.2.1
      have kl52_0 := q.2.2.2.2.1
      have kn52_0 := q.2.2.2.2.2.1
      have km52_0 := q.2.2.2.2.2.2
      clear q
      have q := keep2 h52 (b := w.heap.size + 1) (by first | (simp; done) | (simp; omega) | omega)
      have kc52_1_0 := q.1
      have kc52_1_1 := q.2.1
      have kf52_1_0 := q.2.2.1
      have kf52_1_1 := q.2.2.2.1
      have kl52_1 := q.2.2.2.2.1
      have kn52_1 := q.2.2.2.2.2.1
      have km52_1 := q.2.2.2.2.2.2
      clear q
      have q := keep2 h52 (b := w22.heap.size) (by first | (simp; done) | (simp; omega) | omega)
      have kc52_2_0 := q.1
      have kc52_2_1 := q.2.1
      have kf52_2_0 := q.2.2.1
      have kf52_2_1 := q.2.2.2.1
      have kl52_2 := q.2.2.2.2.1
      have kn52_2 := q.2.2.2.2.2.1
      have km52_2 := q.2.2.2.2.2.2
      clear q
      have kz52 := h52.size
      (try simp only [World.size_alloc, World.size_setCell, World.size_drew] at kz52)
      have H52 := Lib.hid h52
      clear h52
      go_wp2
      refine bodyPost_ret ?_ rfl ⟨n4, d4, B4.out, rfl, ?_⟩
      · simp [results, Tryd.results12, go_sem, kc12_1_0, kc12_1_1, kl12_1, kc22_1_0, kc22_1_1, kl22_1, kc32_1_0, kc32_1_1, kl32_1, kc42_1_0, kc42_1_1, kl42_1, kc52_1_0, kc52_1_1, kl52_1, kc11_1_0, kc11_1_1, kl11_1, kc21_1_0, kc21_1_1, kl21_1, kc31_1_0, kc31_1_1, kl31_1, kc41_1_0, kc41_1_1, kl41_1, kc51_1_0, kc51_1_1, kl51_1]
      · (repeat (first | with_reducible exact Rel.refl _ | with_reducible refine Rel.alloc ?_ _ | with_reducible refine Rel.setCell ?_ (by first | (simp; done) | (simp; omega) | omega) _ | with_reducible refine Rel.trans ?_ H52.out | with_reducible refine Rel.trans ?_ H42.out | with_reducible refine Rel.trans ?_ H32.out | with_reducible refine Rel.trans ?_ H22.out | with_reducible refine Rel.trans ?_ H12.out | with_reducible refine Rel.trans ?_ H51.out | with_reducible refine Rel.trans ?_ H41.out | with_reducible refine Rel.trans ?_ H31.out | with_reducible refine Rel.trans ?_ H21.out | with_reducible refine Rel.trans ?_ H11.out))
  · have he : (e1 == 0) = true ∨ (e1 == 0) = false := by cases (e1 == 0) <;> simp
    rcases he with he | he
    · go_enter Tryd.func12, Tryd.ntmps12
      go_wp2_with fail
      with_reducible refine (PK.out _).mono ?_
      rintro e w1 ⟨rfl, rfl⟩
      go_wp2_with fail
      refine wp_region_calm (fun _ w' => w'.cell? { block := w.heap.size, off := 0 } = some (.int .i64 n) ∧ w'.cell? { block := w.heap.size, off := 1 } = some (.int .i64 d)) (fun _ => false) [0, 1, 2, 3, 4, 5, 6, 7, 8, 9, 10] 3 (by kernel_rfl) (by kernel_rfl) ?hst ?hS0 (fun w0 h0 => ?_)
      case hst => exact fun _ _ _ h r => ⟨r.cell h.1, r.cell h.2⟩
      case hS0 => exact ⟨by go_simp, by go_simp⟩
      iterate 5
        refine wpCalm_go rfl (by kernel_rfl) (fun K hK => ?_)
        apply Exists.intro
        refine ⟨fun M w hM hS => ?_, hK _ ?_⟩
        · have c1 := hS.1
          have c2 := hS.2
          unfold calmAt
          go_simp
          exact ⟨rfl, Rel.refl _⟩
        clear hK K
      refine wpCalm_go rfl (by kernel_rfl) (fun K hK => ?_)
      apply Exists.intro
      refine ⟨fun M w hM hS => ?_, hK _ ?_⟩
      · have c1 := hS.1
        have c2 := hS.2
        unfold calmAt
        go_simp
        with_reducible refine (P9.out _).mono ?_
        rintro e w1 ⟨rfl, rfl⟩
        exact ⟨rfl, Rel.refl _⟩
      clear hK K
      iterate 1
        refine wpCalm_go rfl (by kernel_rfl) (fun K hK => ?_)
        apply Exists.intro
        refine ⟨fun M w hM hS => ?_, hK _ ?_⟩
        · have c1 := hS.1
          have c2 := hS.2
          unfold calmAt
          go_simp
          exact ⟨rfl, Rel.refl _⟩
        clear hK K
      refine wpCalm_go rfl (by kernel_rfl) (fun K hK => ?_)
      apply Exists.intro
      refine ⟨fun M w hM hS => ?_, hK _ ?_⟩
      · unfold calmAt
        go_simp
        with_reducible refine (M1.out _).mono ?_
        rintro e w1 ⟨rfl, hb⟩
        exact ⟨rfl, hb⟩
      clear hK K
      iterate 3
        refine wpCalm_go rfl (by kernel_rfl) (fun K hK => ?_)
        apply Exists.intro
        refine ⟨fun M w hM hS => ?_, hK _ ?_⟩
        · unfold calmAt
          go_simp
          exact ⟨rfl, Rel.refl _⟩
        clear hK K
      refine wpCalm_nil ?_
      have h11 := h0
      clear h0
      have q := keep2 h11 (b := w.heap.size) (by first | (simp; done) | (simp; omega) | omega)
      have kc11_0_0 := q.1
      have kc11_0_1 := q.2.1
      have kf11_0_0 := q.2.2.1
      have kf11_0_1 := q.2.2.2.1
      have kl11_0 := q.2.2.2.2.1
      have kn11_0 := q.2.2.2.2.2.1
      have km11_0 := q.2.2.2.2.2.2
      clear q
      have q := keep2 h11 (b := w.heap.size + 1) (by first | (simp; done) | (simp; omega) | omega)
      have kc11_1_0 := q.1
      have kc11_1_1 := q.2.1
      have kf11_1_0 := q.2.2.1
      have kf11_1_1 := q.2.2.2.1
      have kl11_1 := q.2.2.2.2.1
      have kn11_1 := q.2.2.2.2.2.1
      have km11_1 := q.2.2.2.2.2.2
      clear q
      have kz11 := h11.size
      (try simp only [World.size_alloc, World.size_setCell, World.size_drew] at kz11)
      have H11 := Lib.hid h11
      clear h11
      refine wpAnyR_ready (rs := [11]) (by kernel_rfl) (by simp) (AllR.cons rfl (fun w21 h21 K' hK' => ?_) AllR.nil)
      have q := keep2 h21 (b := w.heap.size) (by first | (simp; done) | (simp; omega) | omega)
      have kc21_0_0 := q.1
      have kc21_0_1 := q.2.1
      have kf21_0_0 := q.2.2.1
      have kf21_0_1 := q.2.2.2.1
      have kl21_0 := q.2.2.2.2.1
      have kn21_0 := q.2.2.2.2.2.1
      have km21_0 := q.2.2.2.2.2.2
      clear q
      have q := keep2 h21 (b := w.heap.size + 1) (by first | (simp; done) | (simp; omega) | omega)
      have kc21_1_0 := q.1
      have kc21_1_1 := q.2.1
      have kf21_1_0 := q.2.2.1
      have kf21_1_1 := q.2.2.2.1
      have kl21_1 := q.2.2.2.2.1
      have kn21_1 := q.2.2.2.2.2.1
      have km21_1 := q.2.2.2.2.2.2
      clear q
      have kz21 := h21.size
      (try simp only [World.size_alloc, World.size_setCell, World.size_drew] at kz21)
      have H21 := Lib.hid h21
      clear h21
      go_simp
      refine hK'.out _ _ ⟨by go_simp, by go_simp⟩ ?_
      clear hK' K'
      refine wpAnyR_ready (rs := [12]) (by kernel_rfl) (by simp) (AllR.cons rfl (fun w31 h31 K' hK' => ?_) AllR.nil)
      have q := keep2 h31 (b := w.heap.size) (by first | (simp; done) | (simp; omega) | omega)
      have kc31_0_0 := q.1
      have kc31_0_1 := q.2.1
      have kf31_0_0 := q.2.2.1
      have kf31_0_1 := q.2.2.2.1
      have kl31_0 := q.2.2.2.2.1
      have kn31_0 := q.2.2.2.2.2.1
      have km31_0 := q.2.2.2.2.2.2
      clear q
      have q := keep2 h31 (b := w.heap.size + 1) (by first | (simp; done) | (simp; omega) | omega)
      have kc31_1_0 := q.1
      have kc31_1_1 := q.2.1
      have kf31_1_0 := q.2.2.1
      have kf31_1_1 := q.2.2.2.1
      have kl31_1 := q.2.2.2.2.1
      have kn31_1 := q.2.2.2.2.2.1
      have km31_1 := q.2.2.2.2.2.2
      clear q
      have q := keep2 h31 (b := w21.heap.size) (by first | (simp; done) | (simp; omega) | omega)
      have kc31_2_0 := q.1
      have kc31_2_1 := q.2.1
      have kf31_2_0 := q.2.2.1
      have kf31_2_1 := q.2.2.2.1
      have kl31_2 := q.2.2.2.2.1
      have kn31_2 := q.2.2.2.2.2.1
      have km31_2 := q.2.2.2.2.2.2
      clear q
      have kz31 := h31.size
      (try simp only [World.size_alloc, World.size_setCell, World.size_drew] at kz31)
      have H31 := Lib.hid h31
      clear h31
      go_simp
      refine hK'.out _ _ ⟨by go_simp, by go_simp⟩ ?_
      clear hK' K'
      refine wpAnyR_ready (rs := [13]) (by kernel_rfl) (by simp) (AllR.cons rfl (fun w41 h41 K' hK' => ?_) AllR.nil)
      have q := keep2 h41 (b := w.heap.size) (by first | (simp; done) | (simp; omega) | omega)
      have kc41_0_0 := q.1
      have kc41_0_1 := q.2.1
      have kf41_0_0 := q.2.2.1
      have kf41_0_1 := q.2.2.2.1
      have kl41_0 := q.2.2.2.2.1
      have kn41_0 := q.2.2.2.2.2.1
      have km41_0 := q.2.2.2.2.2.2
      clear q
      have q := keep2 h41 (b := w.heap.size + 1) (by first | (simp; done) | (simp; omega) | omega)
      have kc41_1_0 := q.1
      have kc41_1_1 := q.2.1
      have kf41_1_0 := q.2.2.1
      have kf41_1_1 := q.2.2.2.1
      have kl41_1 := q.2.2.2.2.1
      have kn41_1 := q.2.2.2.2.2.1
      have km41_1 := q.2.2.2.2.2.2
      clear q
      have q := keep2 h41 (b := w21.heap.size) (by first | (simp; done) | (simp; omega) | omega)
      have kc41_2_0 := q.1
      have kc41_2_1 := q.2.1
      have kf41_2_0 := q.2.2.1
      have kf41_2_1 := q.2.2.2.1
      have kl41_2 := q.2.2.2.2.1
      have kn41_2 := q.2.2.2.2.2.1
      have km41_2 := q.2.2.2.2.2.2
      clear q
      have kz41 := h41.size
      (try simp only [World.size_alloc, World.size_setCell, World.size_drew] at kz41)
      have H41 := Lib.hid h41
      clear h41
      go_simp
      refine hK'.out _ _ ⟨by go_simp, by go_simp⟩ ?_
      clear hK' K'
      refine wpAnyR_end (by kernel_rfl) (fun w51 h51 => ?_)
      (try simp only [Act.put, List.setIfInBounds_toArray, List.set_cons_zero, List.set_cons_succ])
      have q := keep2 h51 (b := w.heap.size) (by first | (simp; done) | (simp; omega) | omega)
      have kc51_0_0 := q.1
      have kc51_0_1 := q.2.1
      have kf51_0_0 := q.2.2.1
      have kf51_0_1 := q.2.2.2.1
      have kl51_0 := q.2.2.2.2.1
      have kn51_0 := q.2.2.2.2.2.1
      have km51_0 := q.2.2.2.2.2.2
      clear q
      have q := keep2 h51 (b := w.heap.size + 1) (by first | (simp; done) | (simp; omega) | omega)
      have kc51_1_0 := q.1
      have kc51_1_1 := q.2.1
      have kf51_1_0 := q.2.2.1
      have kf51_1_1 := q.2.2.2.1
      have kl51_1 := q.2.2.2.2.1
      have kn51_1 := q.2.2.2.2.2.1
      have km51_1 := q.2.2.2.2.2.2
      clear q
      have q := keep2 h51 (b := w21.heap.size) (by first | (simp; done) | (simp; omega) | omega)
      have kc51_2_0 := q.1
      have kc51_2_1 := q.2.1
      have kf51_2_0 := q.2.2.1
      have kf51_2_1 := q.2.2.2.1
      have kl51_2 := q.2.2.2.2.1
      have kn51_2 := q.2.2.2.2.2.1
      have km51_2 := q.2.2.2.2.2.2
      clear q
      have kz51 := h51.size
      (try simp only [World.size_alloc, World.size_setCell, World.size_drew] at kz51)
      have H51 := Lib.hid h51
      clear h51
      go_wp2
      refine bodyPost_ret ?_ rfl ⟨n1, d1, B1.out, rfl, ?_⟩
      · simp [results, Tryd.results12, go_sem, kc11_1_0, kc11_1_1, kl11_1, kc21_1_0, kc21_1_1, kl21_1, kc31_1_0, kc31_1_1, kl31_1, kc41_1_0, kc41_1_1, kl41_1, kc51_1_0, kc51_1_1, kl51_1]
      · (repeat (first | with_reducible exact Rel.refl _ | with_reducible refine Rel.alloc ?_ _ | with_reducible refine Rel.setCell ?_ (by first | (simp; done) | (simp; omega) | omega) _ | with_reducible refine Rel.trans ?_ H51.out | with_reducible refine Rel.trans ?_ H41.out | with_reducible refine Rel.trans ?_ H31.out | with_reducible refine Rel.trans ?_ H21.out | with_reducible refine Rel.trans ?_ H11.out))
    · go_enter Tryd.func12, Tryd.ntmps12
      go_wp2_with fail
      with_reducible refine (PK.out _).mono ?_
      rintro e w1 ⟨rfl, rfl⟩
      go_wp2_with fail
      refine wp_region_calm (fun _ w' => w'.cell? { block := w.heap.size, off := 0 } = some (.int .i64 n) ∧ w'.cell? { block := w.heap.size, off := 1 } = some (.int .i64 d)) (fun _ => false) [0, 1, 2, 3, 4, 5, 6, 7, 8, 9, 10] 3 (by kernel_rfl) (by kernel_rfl) ?hst ?hS0 (fun w0 h0 => ?_)
      case hst => exact fun _ _ _ h r => ⟨r.cell h.1, r.cell h.2⟩
      case hS0 => exact ⟨by go_simp, by go_simp⟩
      iterate 5
        refine wpCalm_go rfl (by kernel_rfl) (fun K hK => ?_)
        apply Exists.intro
        refine ⟨fun M w hM hS => ?_, hK _ ?_⟩
        · have c1 := hS.1
          have c2 := hS.2
          unfold calmAt
          go_simp
          exact ⟨rfl, Rel.refl _⟩
        clear hK K
      refine wpCalm_go rfl (by kernel_rfl) (fun K hK => ?_)
      apply Exists.intro
      refine ⟨fun M w hM hS => ?_, hK _ ?_⟩
      · have c1 := hS.1
        have c2 := hS.2
        unfold calmAt
        go_simp
        with_reducible refine (P9.out _).mono ?_
        rintro e w1 ⟨rfl, rfl⟩
        exact ⟨rfl, Rel.refl _⟩
      clear hK K
      iterate 1
        refine wpCalm_go rfl (by kernel_rfl) (fun K hK => ?_)
        apply Exists.intro
        refine ⟨fun M w hM hS => ?_, hK _ ?_⟩
        · have c1 := hS.1
          have c2 := hS.2
          unfold calmAt
          go_simp
          exact ⟨rfl, Rel.refl _⟩
        clear hK K
      refine wpCalm_go rfl (by kernel_rfl) (fun K hK => ?_)
      apply Exists.intro
      refine ⟨fun M w hM hS => ?_, hK _ ?_⟩
      · unfold calmAt
        go_simp
        with_reducible refine (M1.out _).mono ?_
        rintro e w1 ⟨rfl, hb⟩
        exact ⟨rfl, hb⟩
      clear hK K
      iterate 3
        refine wpCalm_go rfl (by kernel_rfl) (fun K hK => ?_)
        apply Exists.intro
        refine ⟨fun M w hM hS => ?_, hK _ ?_⟩
        · unfold calmAt
          go_simp
          exact ⟨rfl, Rel.refl _⟩
        clear hK K
      refine wpCalm_nil ?_
      have h11 := h0
      clear h0
      have q := keep2 h11 (b := w.heap.size) (by first | (simp; done) | (simp; omega) | omega)
      have kc11_0_0 := q.1
      have kc11_0_1 := q.2.1
      have kf11_0_0 := q.2.2.1
      have kf11_0_1 := q.2.2.2.1
      have kl11_0 := q.2.2.2.2.1
      have kn11_0 := q.2.2.2.2.2.1
      have km11_0 := q.2.2.2.2.2.2
      clear q
      have q := keep2 h11 (b := w.heap.size + 1) (by first | (simp; done) | (simp; omega) | omega)
      have kc11_1_0 := q.1
      have kc11_1_1 := q.2.1
      have kf11_1_0 := q.2.2.1
      have kf11_1_1 := q.2.2.2.1
      have kl11_1 := q.2.2.2.2.1
      have kn11_1 := q.2.2.2.2.2.1
      have km11_1 := q.2.2.2.2.2.2
      clear q
      have kz11 := h11.size
      (try simp only [World.size_alloc, World.size_setCell, World.size_drew] at kz11)
      have H11 := Lib.hid h11
      clear h11
      refine wpAnyR_ready (rs := [11]) (by kernel_rfl) (by simp) (AllR.cons rfl (fun w21 h21 K' hK' => ?_) AllR.nil)
      have q := keep2 h21 (b := w.heap.size) (by first | (simp; done) | (simp; omega) | omega)
      have kc21_0_0 := q.1
      have kc21_0_1 := q.2.1
      have kf21_0_0 := q.2.2.1
      have kf21_0_1 := q.2.2.2.1
      have kl21_0 := q.2.2.2.2.1
      have kn21_0 := q.2.2.2.2.2.1
      have km21_0 := q.2.2.2.2.2.2
      clear q
      have q := keep2 h21 (b := w.heap.size + 1) (by first | (simp; done) | (simp; omega) | omega)
      have kc21_1_0 := q.1
      have kc21_1_1 := q.2.1
      have kf21_1_0 := q.2.2.1
      have kf21_1_1 := q.2.2.2.1
      have kl21_1 := q.2.2.2.2.1
      have kn21_1 := q.2.2.2.2.2.1
      have km21_1 := q.2.2.2.2.2.2
      clear q
      have kz21 := h21.size
      (try simp only [World.size_alloc, World.size_setCell, World.size_drew] at kz21)
      have H21 := Lib.hid h21
      clear h21
      go_simp
      refine hK'.out _ _ ⟨by go_simp, by go_simp⟩ ?_
      clear hK' K'
      refine wpAnyR_ready (rs := [12]) (by kernel_rfl) (by simp) (AllR.cons rfl (fun w31 h31 K' hK' => ?_) AllR.nil)
      have q := keep2 h31 (b := w.heap.size) (by first | (simp; done) | (simp; omega) | omega)
      have kc31_0_0 := q.1
      have kc31_0_1 := q.2.1
      have kf31_0_0 := q.2.2.1
      have kf31_0_1 := q.2.2.2.1
      have kl31_0 := q.2.2.2.2.1
      have kn31_0 := q.2.2.2.2.2.1
      have km31_0 := q.2.2.2.2.2.2
      clear q
      have q := keep2 h31 (b := w.heap.size + 1) (by first | (simp; done) | (simp; omega) | omega)
      have kc31_1_0 := q.1
      have kc31_1_1 := q.2.1
      have kf31_1_0 := q.2.2.1
      have kf31_1_1 := q.2.2.2.1
      have kl31_1 := q.2.2.2.2.1
      have kn31_1 := q.2.2.2.2.2.1
      have km31_1 := q.2.2.2.2.2.2
      clear q
      have q := keep2 h31 (b := w21.heap.size) (by first | (simp; done) | (simp; omega) | omega)
      have kc31_2_0 := q.1
      have kc31_2_1 := q.2.1
      have kf31_2_0 := q.2.2.1
      have kf31_2_1 := q.2.2.2.1
      have kl31_2 := q.2.2.2.2.1
      have kn31_2 := q.2.2.2.2.2.1
      have km31_2 := q.2.2.2.2.2.2
      clear q
      have kz31 := h31.size
      (try simp only [World.size_alloc, World.size_setCell, World.size_drew] at kz31)
      have H31 := Lib.hid h31
      clear h31
      go_simp
      refine hK'.out _ _ ⟨by go_simp, by go_simp⟩ ?_
      clear hK' K'
      refine wpAnyR_ready (rs := [13]) (by kernel_rfl) (by simp) (AllR.cons rfl (fun w41 h41 K' hK' => ?_) AllR.nil)
      have q := keep2 h41 (b := w.heap.size) (by first | (simp; done) | (simp; omega) | omega)
      have kc41_0_0 := q.1
      have kc41_0_1 := q.2.1
      have kf41_0_0 := q.2.2.1
      have kf41_0_1 := q.2.2.2.1
      have kl41_0 := q.2.2.2.2.1
      have kn41_0 := q.2.2.2.2.2.1
      have km41_0 := q.2.2.2.2.2.2
      clear q
      have q := keep2 h41 (b := w.heap.size + 1) (by first | (simp; done) | (simp; omega) | omega)
      have kc41_1_0 := q.1
      have kc41_1_1 := q.2.1
      have kf41_1_0 := q.2.2.1
      have kf41_1_1 := q.2.2.2.1
      have kl41_1 := q.2.2.2.2.1
      have kn41_1 := q.2.2.2.2.2.1
      have km41_1 := q.2.2.2.2.2.2
      clear q
      have q := keep2 h41 (b := w21.heap.size) (by first | (simp; done) | (simp; omega) | omega)
      have kc41_2_0 := q.1
      have kc41_2_1 := q.2.1
      have kf41_2_0 := q.2.2.1
      have kf41_2_1 := q.2.2.2.1
      have kl41_2 := q.2.2.2.2.1
      have kn41_2 := q.2.2.2.2.2.1
      have km41_2 := q.2.2.2.2.2.2
      clear q
      have kz41 := h41.size
      (try simp only [World.size_alloc, World.size_setCell, World.size_drew] at kz41)
      have H41 := Lib.hid h41
      clear h41
      go_simp
      refine hK'.out _ _ ⟨by go_simp, by go_simp⟩ ?_
      clear hK' K'
      refine wpAnyR_end (by kernel_rfl) (fun w51 h51 => ?_)
      (try simp only [Act.put, List.setIfInBounds_toArray, List.set_cons_zero, List.set_cons_succ])
      have q := keep2 h51 (b := w.heap.size) (by first | (simp; done) | (simp; omega) | omega)
      have kc51_0_0 := q.1
      have kc51_0_1 := q.2.1
      have kf51_0_0 := q.2.2.1
      have kf51_0_1 := q.2.2.2.1
      have kl51_0 := q.2.2.2.2.1
      have kn51_0 := q.2.2.2.2.2.1
      have km51_0 := q.2.2.2.2.2.2
      clear q
      have q := keep2 h51 (b := w.heap.size + 1) (by first | (simp; done) | (simp; omega) | omega)
      have kc51_1_0 := q.1
      have kc51_1_1 := q.2.1
      have kf51_1_0 := q.2.2.1
      have kf51_1_1 := q.2.2.2.1
      have kl51_1 := q.2.2.2.2.1
      have kn51_1 := q.2.2.2.2.2.1
      have km51_1 := q.2.2.2.2.2.2
      clear q
      have q := keep2 h51 (b := w21.heap.size) (by first | (simp; done) | (simp; omega) | omega)
      have kc51_2_0 := q.1
      have kc51_2_1 := q.2.1
      have kf51_2_0 := q.2.2.1
      have kf51_2_1 := q.2.2.2.1
      have kl51_2 := q.2.2.2.2.1
      have kn51_2 := q.2.2.2.2.2.1
      have km51_2 := q.2.2.2.2.2.2
      clear q
      have kz51 := h51.size
      (try simp only [World.size_alloc, World.size_setCell, World.size_drew] at kz51)
      have H51 := Lib.hid h51
      clear h51
      go_wp2_with fail
      refine wp_region_calm (fun _ w' => w'.cell? { block := w.heap.size, off := 0 } = some (.int .i64 n) ∧ w'.cell? { block := w.heap.size, off := 1 } = some (.int .i64 d)) (fun _ => false) [0, 1, 2, 3, 4, 5, 6, 7, 8, 9, 10] 3 (by kernel_rfl) (by kernel_rfl) ?hst ?hS0 (fun w0 h0 => ?_)
      case hst => exact fun _ _ _ h r => ⟨r.cell h.1, r.cell h.2⟩
      case hS0 => exact ⟨by go_simp, by go_simp⟩
      iterate 5
        refine wpCalm_go rfl (by kernel_rfl) (fun K hK => ?_)
        apply Exists.intro
        refine ⟨fun M w hM hS => ?_, hK _ ?_⟩
        · have c1 := hS.1
          have c2 := hS.2
          unfold calmAt
          go_simp
          exact ⟨rfl, Rel.refl _⟩
        clear hK K
      refine wpCalm_go rfl (by kernel_rfl) (fun K hK => ?_)
      apply Exists.intro
      refine ⟨fun M w hM hS => ?_, hK _ ?_⟩
      · have c1 := hS.1
        have c2 := hS.2
        unfold calmAt
        go_simp
        with_reducible refine (P60.out _).mono ?_
        rintro e w1 ⟨rfl, rfl⟩
        exact ⟨rfl, Rel.refl _⟩
      clear hK K
      iterate 1
        refine wpCalm_go rfl (by kernel_rfl) (fun K hK => ?_)
        apply Exists.intro
        refine ⟨fun M w hM hS => ?_, hK _ ?_⟩
        · have c1 := hS.1
          have c2 := hS.2
          unfold calmAt
          go_simp
          exact ⟨rfl, Rel.refl _⟩
        clear hK K
      refine wpCalm_go rfl (by kernel_rfl) (fun K hK => ?_)
      apply Exists.intro
      refine ⟨fun M w hM hS => ?_, hK _ ?_⟩
      · unfold calmAt
        go_simp
        with_reducible refine (M4.out _).mono ?_
        rintro e w1 ⟨rfl, hb⟩
        exact ⟨rfl, hb⟩
      clear hK K
      iterate 3
        refine wpCalm_go rfl (by kernel_rfl) (fun K hK => ?_)
        apply Exists.intro
        refine ⟨fun M w hM hS => ?_, hK _ ?_⟩
        · unfold calmAt
          go_simp
          exact ⟨rfl, Rel.refl _⟩
        clear hK K
      refine wpCalm_nil ?_
      have h12 := h0
      clear h0
      have q := keep2 h12 (b := w.heap.size) (by first | (simp; done) | (simp; omega) | omega)
      have kc12_0_0 := q.1
      have kc12_0_1 := q.2.1
      have kf12_0_0 := q.2.2.1
      have kf12_0_1 := q.2.2.2.1
      have kl12_0 := q.2.2.2.2.1
      have kn12_0 := q.2.2.2.2.2.1
      have km12_0 := q.2.2.2.2.2.2
      clear q
      have q := keep2 h12 (b := w.heap.size + 1) (by first | (simp; done) | (simp; omega) | omega)
      have kc12_1_0 := q.1
      have kc12_1_1 := q.2.1
      have kf12_1_0 := q.2.2.1
      have kf12_1_1 := q.2.2.2.1
      have kl12_1 := q.2.2.2.2.1
      have kn12_1 := q.2.2.2.2.2.1
      have km12_1 := q.2.2.2.2.2.2
      clear q
      have kz12 := h12.size
      (try simp only [World.size_alloc, World.size_setCell, World.size_drew] at kz12)
      have H12 := Lib.hid h12
      clear h12
      refine wpAnyR_ready (rs := [11]) (by kernel_rfl) (by simp) (AllR.cons rfl (fun w22 h22 K' hK' => ?_) AllR.nil)
      have q := keep2 h22 (b := w.heap.size) (by first | (simp; done) | (simp; omega) | omega)
      have kc22_0_0 := q.1
      have kc22_0_1 := q.2.1
      have kf22_0_0 := q.2.2.1
      have kf22_0_1 := q.2.2.2.1
      have kl22_0 := q.2.2.2.2.1
      have kn22_0 := q.2.2.2.2.2.1
      have km22_0 := q.2.2.2.2.2.2
      clear q
      have q := keep2 h22 (b := w.heap.size + 1) (by first | (simp; done) | (simp; omega) | omega)
      have kc22_1_0 := q.1
      have kc22_1_1 := q.2.1
      have kf22_1_0 := q.2.2.1
      have kf22_1_1 := q.2.2.2.1
      have kl22_1 := q.2.2.2.2.1
      have kn22_1 := q.2.2.2.2.2.1
      have km22_1 := q.2.2.2.2.2.2
      clear q
      have kz22 := h22.size
      (try simp only [World.size_alloc, World.size_setCell, World.size_drew] at kz22)
      have H22 := Lib.hid h22
      clear h22
      go_simp
      refine hK'.out _ _ ⟨by go_simp, by go_simp⟩ ?_
      clear hK' K'
      refine wpAnyR_ready (rs := [12]) (by kernel_rfl) (by simp) (AllR.cons rfl (fun w32 h32 K' hK' => ?_) AllR.nil)
      have q := keep2 h32 (b := w.heap.size) (by first | (simp; done) | (simp; omega) | omega)
      have kc32_0_0 := q.1
      have kc32_0_1 := q.2.1
      have kf32_0_0 := q.2.2.1
      have kf32_0_1 := q.2.2.2.1
      have kl32_0 := q.2.2.2.2.1
      have kn32_0 := q.2.2.2.2.2.1
      have km32_0 := q.2.2.2.2.2.2
      clear q
      have q := keep2 h32 (b := w.heap.size + 1) (by first | (simp; done) | (simp; omega) | omega)
      have kc32_1_0 := q.1
      have kc32_1_1 := q.2.1
      have kf32_1_0 := q.2.2.1
      have kf32_1_1 := q.2.2.2.1
      have kl32_1 := q.2.2.2.2.1
      have kn32_1 := q.2.2.2.2.2.1
      have km32_1 := q.2.2.2.2.2.2
      clear q
      have q := keep2 h32 (b := w22.heap.size) (by first | (simp; done) | (simp; omega) | omega)
      have kc32_2_0 := q.1
      have kc32_2_1 := q.2.1
      have kf32_2_0 := q.2.2.1
      have kf32_2_1 := q.2.2.2.1
      have kl32_2 := q.2.2.2.2.1
      have kn32_2 := q.2.2.2.2.2.1
      have km32_2 := q.2.2.2.2.2.2
      clear q
      have kz32 := h32.size
      (try simp only [World.size_alloc, World.size_setCell, World.size_drew] at kz32)
      have H32 := Lib.hid h32
      clear h32
      go_simp
      refine hK'.out _ _ ⟨by go_simp, by go_simp⟩ ?_
      clear hK' K'
      refine wpAnyR_ready (rs := [13]) (by kernel_rfl) (by simp) (AllR.cons rfl (fun w42 h42 K' hK' => ?_) AllR.nil)
      have q := keep2 h42 (b := w.heap.size) (by first | (simp; done) | (simp; omega) | omega)
      have kc42_0_0 := q.1
      have kc42_0_1 := q.2.1
      have kf42_0_0 := q.2.2.1
      have kf42_0_1 := q.2.2.2.1
      have kl42_0 := q.2.2.2.2.1
      have kn42_0 := q.2.2.2.2.2.1
      have km42_0 := q.2.2.2.2.2.2
      clear q
      have q := keep2 h42 (b := w.heap.size + 1) (by first | (simp; done) | (simp; omega) | omega)
      have kc42_1_0 := q.1
      have kc42_1_1 := q.2.1
      have kf42_1_0 := q.2.2.1
      have kf42_1_1 := q.2.2.2.1
      have kl42_1 := q.2.2.2.2.1
      have kn42_1 := q.2.2.2.2.2.1
      have km42_1 := q.2.2.2.2.2.2
      clear q
      have q := keep2 h42 (b := w22.heap.size) (by first | (simp; done) | (simp; omega) | omega)
      have kc42_2_0 := q.1
      have kc42_2_1 := q.2.1
      have kf42_2_0 := q.2.2.1
      have kf42_2_1 := q.2.2.2.1
      have kl42_2 := q.2.2.2.2.1
      have kn42_2 := q.2.2.2.2.2.1
      have km42_2 := q.2.2.2.2.2.2
      clear q
      have kz42 := h42.size
      (try simp only [World.size_alloc, World.size_setCell, World.size_drew] at kz42)
      have H42 := Lib.hid h42
      clear h42
      go_simp
      refine hK'.out _ _ ⟨by go_simp, by go_simp⟩ ?_
      clear hK' K'
      refine wpAnyR_end (by kernel_rfl) (fun w52 h52 => ?_)
      (try simp only [Act.put, List.setIfInBounds_toArray, List.set_cons_zero, List.set_cons_succ])
      have q := keep2 h52 (b := w.heap.size) (by first | (simp; done) | (simp; omega) | omega)
      have kc52_0_0 := q.1
      have kc52_0_1 := q.2.1
      have kf52_0_0 := q.2.2.1
      have kf52_0_1 := q.2.2.2.1
      have kl52_0 := q.2.2.2.2.1
      have kn52_0 := q.2.2.2.2.2.1
      have km52_0 := q.2.2.2.2.2.2
      clear q
      have q := keep2 h52 (b := w.heap.size + 1) (by first | (simp; done) | (simp; omega) | omega)
      have kc52_1_0 := q.1
      have kc52_1_1 := q.2.1
      have kf52_1_0 := q.2.2.1
      have kf52_1_1 := q.2.2.2.1
      have kl52_1 := q.2.2.2.2.1
      have kn52_1 := q.2.2.2.2.2.1
      have km52_1 := q.2.2.2.2.2.2
      clear q
      have q := keep2 h52 (b := w22.heap.size) (by first | (simp; done) | (simp; omega) | omega)
      have kc52_2_0 := q.1
      have kc52_2_1 := q.2.1
      have kf52_2_0 := q.2.2.1
      have kf52_2_1 := q.2.2.2.1
      have kl52_2 := q.2.2.2.2.1
      have kn52_2 := q.2.2.2.2.2.1
      have km52_2 := q.2.2.2.2.2.2
      clear q
      have kz52 := h52.size
      (try simp only [World.size_alloc, World.size_setCell, World.size_drew] at kz52)
      have H52 := Lib.hid h52
      clear h52
      go_wp2
      refine bodyPost_ret ?_ rfl ⟨n4, d4, B4.out, rfl, ?_⟩
      · simp [results, Tryd.results12, go_sem, kc12_1_0, kc12_1_1, kl12_1, kc22_1_0, kc22_1_1, kl22_1, kc32_1_0, kc32_1_1, kl32_1, kc42_1_0, kc42_1_1, kl42_1, kc52_1_0, kc52_1_1, kl52_1, kc11_1_0, kc11_1_1, kl11_1, kc21_1_0, kc21_1_1, kl21_1, kc31_1_0, kc31_1_1, kl31_1, kc41_1_0, kc41_1_1, kl41_1, kc51_1_0, kc51_1_1, kl51_1]
      · (repeat (first | with_reducible exact Rel.refl _ | with_reducible refine Rel.alloc ?_ _ | with_reducible refine Rel.setCell ?_ (by first | (simp; done) | (simp; omega) | omega) _ | with_reducible refine Rel.trans ?_ H52.out | with_reducible refine Rel.trans ?_ H42.out | with_reducible refine Rel.trans ?_ H32.out | with_reducible refine Rel.trans ?_ H22.out | with_reducible refine Rel.trans ?_ H12.out | with_reducible refine Rel.trans ?_ H51.out | with_reducible refine Rel.trans ?_ H41.out | with_reducible refine Rel.trans ?_ H31.out | with_reducible refine Rel.trans ?_ H21.out | with_reducible refine Rel.trans ?_ H11.out))
  · cases v
    · go_enter Tryd.func12, Tryd.ntmps12
      go_wp2_with fail
      with_reducible refine (PK.out _).mono ?_
      rintro e w1 ⟨rfl, rfl⟩
      go_wp2_with fail
      refine wp_region_calm (fun _ w' => w'.cell? { block := w.heap.size, off := 0 } = some (.int .i64 n) ∧ w'.cell? { block := w.heap.size, off := 1 } = some (.int .i64 d)) (fun _ => false) [0, 1, 2, 3, 4, 5, 6, 7, 8, 9, 10, 11] 3 (by kernel_rfl) (by kernel_rfl) ?hst ?hS0 (fun w0 h0 => ?_)
      case hst => exact fun _ _ _ h r => ⟨r.cell h.1, r.cell h.2⟩
      case hS0 => exact ⟨by go_simp, by go_simp⟩
      iterate 2
        refine wpCalm_go rfl (by kernel_rfl) (fun K hK => ?_)
        apply Exists.intro
        refine ⟨fun M w hM hS => ?_, hK _ ?_⟩
        · have c1 := hS.1
          have c2 := hS.2
          unfold calmAt
          go_simp
          exact ⟨rfl, Rel.refl _⟩
        clear hK K
      refine wpCalm_go rfl (by kernel_rfl) (fun K hK => ?_)
      apply Exists.intro
      refine ⟨fun M w hM hS => ?_, hK _ ?_⟩
      · have c1 := hS.1
        have c2 := hS.2
        unfold calmAt
        go_simp
        with_reducible refine (PA.out _).mono ?_
        rintro e w1 ⟨rfl, rfl⟩
        exact ⟨rfl, Rel.refl _⟩
      clear hK K
      iterate 3
        refine wpCalm_go rfl (by kernel_rfl) (fun K hK => ?_)
        apply Exists.intro
        refine ⟨fun M w hM hS => ?_, hK _ ?_⟩
        · have c1 := hS.1
          have c2 := hS.2
          unfold calmAt
          go_simp
          exact ⟨rfl, Rel.refl _⟩
        clear hK K
      refine wpCalm_go rfl (by kernel_rfl) (fun K hK => ?_)
      apply Exists.intro
      refine ⟨fun M w hM hS => ?_, hK _ ?_⟩
      · have c1 := hS.1
        have c2 := hS.2
        unfold calmAt
        go_simp
        with_reducible refine (PB.out _).mono ?_
        rintro e w1 ⟨rfl, rfl⟩
        exact ⟨rfl, Rel.refl _⟩
      clear hK K
      iterate 1
        refine wpCalm_go rfl (by kernel_rfl) (fun K hK => ?_)
        apply Exists.intro
        refine ⟨fun M w hM hS => ?_, hK _ ?_⟩
        · have c1 := hS.1
          have c2 := hS.2
          unfold calmAt
          go_simp
          exact ⟨rfl, Rel.refl _⟩
        clear hK K
      refine wpCalm_go rfl (by kernel_rfl) (fun K hK => ?_)
      apply Exists.intro
      refine ⟨fun M w hM hS => ?_, hK _ ?_⟩
      · unfold calmAt
        go_simp
        with_reducible refine (M2.out _).mono ?_
        rintro e w1 ⟨rfl, hb⟩
        exact ⟨rfl, hb⟩
      clear hK K
      iterate 3
        refine wpCalm_go rfl (by kernel_rfl) (fun K hK => ?_)
        apply Exists.intro
        refine ⟨fun M w hM hS => ?_, hK _ ?_⟩
        · unfold calmAt
          go_simp
          exact ⟨rfl, Rel.refl _⟩
        clear hK K
      refine wpCalm_nil ?_
      have h11 := h0
      clear h0
      have q := keep2 h11 (b := w.heap.size) (by first | (simp; done) | (simp; omega) | omega)
      have kc11_0_0 := q.1
      have kc11_0_1 := q.2.1
      have kf11_0_0 := q.2.2.1
      have kf11_0_1 := q.2.2.2.1
      have kl11_0 := q.2.2.2.2.1
      have kn11_0 := q.2.2.2.2.2.1
      have km11_0 := q.2.2.2.2.2.2
      clear q
      have q := keep2 h11 (b := w.heap.size + 1) (by first | (simp; done) | (simp; omega) | omega)
      have kc11_1_0 := q.1
      have kc11_1_1 := q.2.1
      have kf11_1_0 := q.2.2.1
      have kf11_1_1 := q.2.2.2.1
      have kl11_1 := q.2.2.2.2.1
      have kn11_1 := q.2.2.2.2.2.1
      have km11_1 := q.2.2.2.2.2.2
      clear q
      have kz11 := h11.size
      (try simp only [World.size_alloc, World.size_setCell, World.size_drew] at kz11)
      have H11 := Lib.hid h11
      clear h11
      refine wpAnyR_ready (rs := [12]) (by kernel_rfl) (by simp) (AllR.cons rfl (fun w21 h21 K' hK' => ?_) AllR.nil)
      have q := keep2 h21 (b := w.heap.size) (by first | (simp; done) | (simp; omega) | omega)
      have kc21_0_0 := q.1
      have kc21_0_1 := q.2.1
      have kf21_0_0 := q.2.2.1
      have kf21_0_1 := q.2.2.2.1
      have kl21_0 := q.2.2.2.2.1
      have kn21_0 := q.2.2.2.2.2.1
      have km21_0 := q.2.2.2.2.2.2
      clear q
      have q := keep2 h21 (b := w.heap.size + 1) (by first | (simp; done) | (simp; omega) | omega)
      have kc21_1_0 := q.1
      have kc21_1_1 := q.2.1
      have kf21_1_0 := q.2.2.1
      have kf21_1_1 := q.2.2.2.1
      have kl21_1 := q.2.2.2.2.1
      have kn21_1 := q.2.2.2.2.2.1
      have km21_1 := q.2.2.2.2.2.2
      clear q
      have kz21 := h21.size
      (try simp only [World.size_alloc, World.size_setCell, World.size_drew] at kz21)
      have H21 := Lib.hid h21
      clear h21
      go_simp
      refine hK'.out _ _ ⟨by go_simp, by go_simp⟩ ?_
      clear hK' K'
      refine wpAnyR_ready (rs := [13]) (by kernel_rfl) (by simp) (AllR.cons rfl (fun w31 h31 K' hK' => ?_) AllR.nil)
      have q := keep2 h31 (b := w.heap.size) (by first | (simp; done) | (simp; omega) | omega)
      have kc31_0_0 := q.1
      have kc31_0_1 := q.2.1
      have kf31_0_0 := q.2.2.1
      have kf31_0_1 := q.2.2.2.1
      have kl31_0 := q.2.2.2.2.1
      have kn31_0 := q.2.2.2.2.2.1
      have km31_0 := q.2.2.2.2.2.2
      clear q
      have q := keep2 h31 (b := w.heap.size + 1) (by first | (simp; done) | (simp; omega) | omega)
      have kc31_1_0 := q.1
      have kc31_1_1 := q.2.1
      have kf31_1_0 := q.2.2.1
      have kf31_1_1 := q.2.2.2.1
      have kl31_1 := q.2.2.2.2.1
      have kn31_1 := q.2.2.2.2.2.1
      have km31_1 := q.2.2.2.2.2.2
      clear q
      have q := keep2 h31 (b := w21.heap.size) (by first | (simp; done) | (simp; omega) | omega)
      have kc31_2_0 := q.1
      have kc31_2_1 := q.2.1
      have kf31_2_0 := q.2.2.1
      have kf31_2_1 := q.2.2.2.1
      have kl31_2 := q.2.2.2.2.1
      have kn31_2 := q.2.2.2.2.2.1
      have km31_2 := q.2.2.2.2.2.2
      clear q
      have kz31 := h31.size
      (try simp only [World.size_alloc, World.size_setCell, World.size_drew] at kz31)
      have H31 := Lib.hid h31
      clear h31
      go_simp
      refine hK'.out _ _ ⟨by go_simp, by go_simp⟩ ?_
      clear hK' K'
      refine wpAnyR_ready (rs := [14]) (by kernel_rfl) (by simp) (AllR.cons rfl (fun w41 h41 K' hK' => ?_) AllR.nil)
      have q := keep2 h41 (b := w.heap.size) (by first | (simp; done) | (simp; omega) | omega)
      have kc41_0_0 := q.1
      have kc41_0_1 := q.2.1
      have kf41_0_0 := q.2.2.1
      have kf41_0_1 := q.2.2.2.1
      have kl41_0 := q.2.2.2.2.1
      have kn41_0 := q.2.2.2.2.2.1
      have km41_0 := q.2.2.2.2.2.2
      clear q
      have q := keep2 h41 (b := w.heap.size + 1) (by first | (simp; done) | (simp; omega) | omega)
      have kc41_1_0 := q.1
      have kc41_1_1 := q.2.1
      have kf41_1_0 := q.2.2.1
      have kf41_1_1 := q.2.2.2.1
      have kl41_1 := q.2.2.2.2.1
      have kn41_1 := q.2.2.2.2.2.1
      have km41_1 := q.2.2.2.2.2.2
      clear q
      have q := keep2 h41 (b := w21.heap.size) (by first | (simp; done) | (simp; omega) | omega)
      have kc41_2_0 := q.1
      have kc41_2_1 := q.2.1
      have kf41_2_0 := q.2.2.1
      have kf41_2_1 := q.2.2.2.1
      have kl41_2 := q.2.2.2.2.1
      have kn41_2 := q.2.2.2.2.2.1
      have km41_2 := q.2.2.2.2.2.2
      clear q
      have kz41 := h41.size
      (try simp only [World.size_alloc, World.size_setCell, World.size_drew] at kz41)
      have H41 := Lib.hid h41
      clear h41
      go_simp
      refine hK'.out _ _ ⟨by go_simp, by go_simp⟩ ?_
      clear hK' K'
      refine wpAnyR_end (by kernel_rfl) (fun w51 h51 => ?_)
      (try simp only [Act.put, List.setIfInBounds_toArray, List.set_cons_zero, List.set_cons_succ])
      have q := keep2 h51 (b := w.heap.size) (by first | (simp; done) | (simp; omega) | omega)
      have kc51_0_0 := q.1
      have kc51_0_1 := q.2.1
      have kf51_0_0 := q.2.2.1
      have kf51_0_1 := q.2.2.2.1
      have kl51_0 := q.2.2.2.2.1
      have kn51_0 := q.2.2.2.2.2.1
      have km51_0 := q.2.2.2.2.2.2
      clear q
      have q := keep2 h51 (b := w.heap.size + 1) (by first | (simp; done) | (simp; omega) | omega)
      have kc51_1_0 := q.1
      have kc51_1_1 := q.2.1
      have kf51_1_0 := q.2.2.1
      have kf51_1_1 := q.2.2.2.1
      have kl51_1 := q.2.2.2.2.1
      have kn51_1 := q.2.2.2.2.2.1
      have km51_1 := q.2.2.2.2.2.2
      clear q
      have q := keep2 h51 (b := w21.heap.size) (by first | (simp; done) | (simp; omega) | omega)
      have kc51_2_0 := q.1
      have kc51_2_1 := q.2.1
      have kf51_2_0 := q.2.2.1
      have kf51_2_1 := q.2.2.2.1
      have kl51_2 := q.2.2.2.2.1
      have kn51_2 := q.2.2.2.2.2.1
      have km51_2 := q.2.2.2.2.2.2
      clear q
      have kz51 := h51.size
      (try simp only [World.size_alloc, World.size_setCell, World.size_drew] at kz51)
      have H51 := Lib.hid h51
      clear h51
      go_wp2_with fail
      with_reducible refine (V2.out _).mono ?_
      rintro e w60 ⟨rfl, h60⟩
      have q := keep2 h60 (b := w.heap.size) (by first | (simp; done) | (simp; omega) | omega)
      have kc60_0_0 := q.1
      have kc60_0_1 := q.2.1
      have kf60_0_0 := q.2.2.1
      have kf60_0_1 := q.2.2.2.1
      have kl60_0 := q.2.2.2.2.1
      have kn60_0 := q.2.2.2.2.2.1
      have km60_0 := q.2.2.2.2.2.2
      clear q
      have q := keep2 h60 (b := w.heap.size + 1) (by first | (simp; done) | (simp; omega) | omega)
      have kc60_1_0 := q.1
      have kc60_1_1 := q.2.1
      have kf60_1_0 := q.2.2.1
      have kf60_1_1 := q.2.2.2.1
      have kl60_1 := q.2.2.2.2.1
      have kn60_1 := q.2.2.2.2.2.1
      have km60_1 := q.2.2.2.2.2.2
      clear q
      have q := keep2 h60 (b := w21.heap.size) (by first | (simp; done) | (simp; omega) | omega)
      have kc60_2_0 := q.1
      have kc60_2_1 := q.2.1
      have kf60_2_0 := q.2.2.1
      have kf60_2_1 := q.2.2.2.1
      have kl60_2 := q.2.2.2.2.1
      have kn60_2 := q.2.2.2.2.2.1
      have km60_2 := q.2.2.2.2.2.2
      clear q
      have kz60 := h60.size
      (try simp only [World.size_alloc, World.size_setCell, World.size_drew] at kz60)
      have H60 := Lib.hid h60
      clear h60
      go_wp2_with fail
      refine wp_region_calm (fun _ w' => w'.cell? { block := w.heap.size, off := 0 } = some (.int .i64 n) ∧ w'.cell? { block := w.heap.size, off := 1 } = some (.int .i64 d)) (fun _ => false) [0, 1, 2, 3, 4, 5, 6, 7, 8, 9, 10] 3 (by kernel_rfl) (by kernel_rfl) ?hst ?hS0 (fun w0 h0 => ?_)
      case hst => exact fun _ _ _ h r => ⟨r.cell h.1, r.cell h.2⟩
      case hS0 => exact ⟨by go_simp, by go_simp⟩
      iterate 5
        refine wpCalm_go rfl (by kernel_rfl) (fun K hK => ?_)
        apply Exists.intro
        refine ⟨fun M w hM hS => ?_, hK _ ?_⟩
        · have c1 := hS.1
          have c2 := hS.2
          unfold calmAt
          go_simp
          exact ⟨rfl, Rel.refl _⟩
        clear hK K
      refine wpCalm_go rfl (by kernel_rfl) (fun K hK => ?_)
      apply Exists.intro
      refine ⟨fun M w hM hS => ?_, hK _ ?_⟩
      · have c1 := hS.1
        have c2 := hS.2
        unfold calmAt
        go_simp
        with_reducible refine (P60.out _).mono ?_
        rintro e w1 ⟨rfl, rfl⟩
        exact ⟨rfl, Rel.refl _⟩
      clear hK K
      iterate 1
        refine wpCalm_go rfl (by kernel_rfl) (fun K hK => ?_)
        apply Exists.intro
        refine ⟨fun M w hM hS => ?_, hK _ ?_⟩
        · have c1 := hS.1
          have c2 := hS.2
          unfold calmAt
          go_simp
          exact ⟨rfl, Rel.refl _⟩
        clear hK K
      refine wpCalm_go rfl (by kernel_rfl) (fun K hK => ?_)
      apply Exists.intro
      refine ⟨fun M w hM hS => ?_, hK _ ?_⟩
      · unfold calmAt
        go_simp
        with_reducible refine (M4.out _).mono ?_
        rintro e w1 ⟨rfl, hb⟩
        exact ⟨rfl, hb⟩
      clear hK K
      iterate 3
        refine wpCalm_go rfl (by kernel_rfl) (fun K hK => ?_)
        apply Exists.intro
        refine ⟨fun M w hM hS => ?_, hK _ ?_⟩
        · unfold calmAt
          go_simp
          exact ⟨rfl, Rel.refl _⟩
        clear hK K
      refine wpCalm_nil ?_
      have h12 := h0
      clear h0
      have q := keep2 h12 (b := w.heap.size) (by first | (simp; done) | (simp; omega) | omega)
      have kc12_0_0 := q.1
      have kc12_0_1 := q.2.1
      have kf12_0_0 := q.2.2.1
      have kf12_0_1 := q.2.2.2.1
      have kl12_0 := q.2.2.2.2.1
      have kn12_0 := q.2.2.2.2.2.1
      have km12_0 := q.2.2.2.2.2.2
      clear q
      have q := keep2 h12 (b := w.heap.size + 1) (by first | (simp; done) | (simp; omega) | omega)
      have kc12_1_0 := q.1
      have kc12_1_1 := q.2.1
      have kf12_1_0 := q.2.2.1
      have kf12_1_1 := q.2.2.2.1
      have kl12_1 := q.2.2.2.2.1
      have kn12_1 := q.2.2.2.2.2.1
      have km12_1 := q.2.2.2.2.2.2
      clear q
      have kz12 := h12.size
      (try simp only [World.size_alloc, World.size_setCell, World.size_drew] at kz12)
      have H12 := Lib.hid h12
      clear h12
      refine wpAnyR_ready (rs := [11]) (by kernel_rfl) (by simp) (AllR.cons rfl (fun w22 h22 K' hK' => ?_) AllR.nil)
      have q := keep2 h22 (b := w.heap.size) (by first | (simp; done) | (simp; omega) | omega)
      have kc22_0_0 := q.1
      have kc22_0_1 := q.2.1
      have kf22_0_0 := q.2.2.1
      have kf22_0_1 := q.2.2.2.1
      have kl22_0 := q.2.2.2.2.1
      have kn22_0 := q.2.2.2.2.2.1
      have km22_0 := q.2.2.2.2.2.2
      clear q
      have q := keep2 h22 (b := w.heap.size + 1) (by first | (simp; done) | (simp; omega) | omega)
      have kc22_1_0 := q.1
      have kc22_1_1 := q.2.1
      have kf22_1_0 := q.2.2.1
      have kf22_1_1 := q.2.2.2.1
      have kl22_1 := q.2.2.2.2.1
      have kn22_1 := q.2.2.2.2.2.1
      have km22_1 := q.2.2.2.2.2.2
      clear q
      have kz22 := h22.size
      (try simp only [World.size_alloc, World.size_setCell, World.size_drew] at kz22)
      have H22 := Lib.hid h22
      clear h22
      go_simp
      refine hK'.out _ _ ⟨by go_simp, by go_simp⟩ ?_
      clear hK' K'
      refine wpAnyR_ready (rs := [12]) (by kernel_rfl) (by simp) (AllR.cons rfl (fun w32 h32 K' hK' => ?_) AllR.nil)
      have q := keep2 h32 (b := w.heap.size) (by first | (simp; done) | (simp; omega) | omega)
      have kc32_0_0 := q.1
      have kc32_0_1 := q.2.1
      have kf32_0_0 := q.2.2.1
      have kf32_0_1 := q.2.2.2.1
      have kl32_0 := q.2.2.2.2.1
      have kn32_0 := q.2.2.2.2.2.1
      have km32_0 := q.2.2.2.2.2.2
      clear q
      have q := keep2 h32 (b := w.heap.size + 1) (by first | (simp; done) | (simp; omega) | omega)
      have kc32_1_0 := q.1
      have kc32_1_1 := q.2.1
      have kf32_1_0 := q.2.2.1
      have kf32_1_1 := q.2.2.2.1
      have kl32_1 := q.2.2.2.2.1
      have kn32_1 := q.2.2.2.2.2.1
      have km32_1 := q.2.2.2.2.2.2
      clear q
      have q := keep2 h32 (b := w22.heap.size) (by first | (simp; done) | (simp; omega) | omega)
      have kc32_2_0 := q.1
      have kc32_2_1 := q.2.1
      have kf32_2_0 := q.2.2.1
      have kf32_2_1 := q.2.2.2.1
      have kl32_2 := q.2.2.2.2.1
      have kn32_2 := q.2.2.2.2.2.1
      have km32_2 := q.2.2.2.2.2.2
      clear q
      have kz32 := h32.size
      (try simp only [World.size_alloc, World.size_setCell, World.size_drew] at kz32)
      have H32 := Lib.hid h32
      clear h32
      go_simp
      refine hK'.out _ _ ⟨by go_simp, by go_simp⟩ ?_
      clear hK' K'
      refine wpAnyR_ready (rs := [13]) (by kernel_rfl) (by simp) (AllR.cons rfl (fun w42 h42 K' hK' => ?_) AllR.nil)
      have q := keep2 h42 (b := w.heap.size) (by first | (simp; done) | (simp; omega) | omega)
      have kc42_0_0 := q.1
      have kc42_0_1 := q.2.1
      have kf42_0_0 := q.2.2.1
      have kf42_0_1 := q.2.2.2.1
      have kl42_0 := q.2.2.2.2.1
      have kn42_0 := q.2.2.2.2.2.1
      have km42_0 := q.2.2.2.2.2.2
      clear q
      have q := keep2 h42 (b := w.heap.size + 1) (by first | (simp; done) | (simp; omega) | omega)
      have kc42_1_0 := q.1
      have kc42_1_1 := q.2.1
      have kf42_1_0 := q.2.2.1
      have kf42_1_1 := q.2.2.2.1
      have kl42_1 := q.2.2.2.2.1
      have kn42_1 := q.2.2.2.2.2.1
      have km42_1 := q.2.2.2.2.2.2
      clear q
      have q := keep2 h42 (b := w22.heap.size) (by first | (simp; done) | (simp; omega) | omega)
      have kc42_2_0 := q.1
      have kc42_2_1 := q.2.1
      have kf42_2_0 := q.2.2.1
      have kf42_2_1 := q.2.2.2.1
      have kl42_2 := q.2.2.2.2.1
      have kn42_2 := q.2.2.2.2.2.1
      have km42_2 := q.2.2.2.2.2.2
      clear q
      have kz42 := h42.size
      (try simp only [World.size_alloc, World.size_setCell, World.size_drew] at kz42)
      have H42 := Lib.hid h42
      clear h42
      go_simp
      refine hK'.out _ _ ⟨by go_simp, by go_simp⟩ ?_
      clear hK' K'
      refine wpAnyR_end (by kernel_rfl) (fun w52 h52 => ?_)
      (try simp only [Act.put, List.setIfInBounds_toArray, List.set_cons_zero, List.set_cons_succ])
      have q := keep2 h52 (b := w.heap.size) (by first | (simp; done) | (simp; omega) | omega)
      have kc52_0_0 := q.1
      have kc52_0_1 := q.2.1
      have kf52_0_0 := q.2.2.1
      have kf52_0_1 := q.2.2.2.1
      have kl52_0 := q.2.2.2.2.1
      have kn52_0 := q.2.2.2.2.2.1
      have km52_0 := q.2.2.2.2.2.2
      clear q
      have q := keep2 h52 (b := w.heap.size + 1) (by first | (simp; done) | (simp; omega) | omega)
      have kc52_1_0 := q.1
      have kc52_1_1 := q.2.1
      have kf52_1_0 := q.2.2.1
      have kf52_1_1 := q.2.2.2.1
      have kl52_1 := q.2.2.2.2.1
      have kn52_1 := q.2.2.2.2.2.1
      have km52_1 := q.2.2.2.2.2.2
      clear q
      have q := keep2 h52 (b := w22.heap.size) (by first | (simp; done) | (simp; omega) | omega)
      have kc52_2_0 := q.1
      have kc52_2_1 := q.2.1
      have kf52_2_0 := q.2.2.1
      have kf52_2_1 := q.2.2.2.1
      have kl52_2 := q.2.2.2.2.1
      have kn52_2 := q.2.2.2.2.2.1
      have km52_2 := q.2.2.2.2.2.2
      clear q
      have kz52 := h52.size
      (try simp only [World.size_alloc, World.size_setCell, World.size_drew] at kz52)
      have H52 := Lib.hid h52
      clear h52
      go_wp2
      refine bodyPost_ret ?_ rfl ⟨n4, d4, B4.out, rfl, ?_⟩
      · simp [results, Tryd.results12, go_sem, kc12_1_0, kc12_1_1, kl12_1, kc22_1_0, kc22_1_1, kl22_1, kc32_1_0, kc32_1_1, kl32_1, kc42_1_0, kc42_1_1, kl42_1, kc52_1_0, kc52_1_1, kl52_1, kc60_1_0, kc60_1_1, kl60_1, kc11_1_0, kc11_1_1, kl11_1, kc21_1_0, kc21_1_1, kl21_1, kc31_1_0, kc31_1_1, kl31_1, kc41_1_0, kc41_1_1, kl41_1, kc51_1_0, kc51_1_1, kl51_1]
      · (repeat (first | with_reducible exact Rel.refl _ | with_reducible refine Rel.alloc ?_ _ | with_reducible refine Rel.setCell ?_ (by first | (simp; done) | (simp; omega) | omega) _ | with_reducible refine Rel.trans ?_ H52.out | with_reducible refine Rel.trans ?_ H42.out | with_reducible refine Rel.trans ?_ H32.out | with_reducible refine Rel.trans ?_ H22.out | with_reducible refine Rel.trans ?_ H12.out | with_reducible refine Rel.trans ?_ H60.out | with_reducible refine Rel.trans ?_ H51.out | with_reducible refine Rel.trans ?_ H41.out | with_reducible refine Rel.trans ?_ H31.out | with_reducible refine Rel.trans ?_ H21.out | with_reducible refine Rel.trans ?_ H11.out))
    · go_enter Tryd.func12, Tryd.ntmps12
      go_wp2_with fail
      with_reducible refine (PK.out _).mono ?_
      rintro e w1 ⟨rfl, rfl⟩
      go_wp2_with fail
      refine wp_region_calm (fun _ w' => w'.cell? { block := w.heap.size, off := 0 } = some (.int .i64 n) ∧ w'.cell? { block := w.heap.size, off := 1 } = some (.int .i64 d)) (fun _ => false) [0, 1, 2, 3, 4, 5, 6, 7, 8, 9, 10, 11] 3 (by kernel_rfl) (by kernel_rfl) ?hst ?hS0 (fun w0 h0 => ?_)
      case hst => exact fun _ _ _ h r => ⟨r.cell h.1, r.cell h.2⟩
      case hS0 => exact ⟨by go_simp, by go_simp⟩
      iterate 2
        refine wpCalm_go rfl (by kernel_rfl) (fun K hK => ?_)
        apply Exists.intro
        refine ⟨fun M w hM hS => ?_, hK _ ?_⟩
        · have c1 := hS.1
          have c2 := hS.2
          unfold calmAt
          go_simp
          exact ⟨rfl, Rel.refl _⟩
        clear hK K
      refine wpCalm_go rfl (by kernel_rfl) (fun K hK => ?_)
      apply Exists.intro
      refine ⟨fun M w hM hS => ?_, hK _ ?_⟩
      · have c1 := hS.1
        have c2 := hS.2
        unfold calmAt
        go_simp
        with_reducible refine (PA.out _).mono ?_
        rintro e w1 ⟨rfl, rfl⟩
        exact ⟨rfl, Rel.refl _⟩
      clear hK K
      iterate 3
        refine wpCalm_go rfl (by kernel_rfl) (fun K hK => ?_)
        apply Exists.intro
        refine ⟨fun M w hM hS => ?_, hK _ ?_⟩
        · have c1 := hS.1
          have c2 := hS.2
          unfold calmAt
          go_simp
          exact ⟨rfl, Rel.refl _⟩
        clear hK K
      refine wpCalm_go rfl (by kernel_rfl) (fun K hK => ?_)
      apply Exists.intro
      refine ⟨fun M w hM hS => ?_, hK _ ?_⟩
      · have c1 := hS.1
        have c2 := hS.2
        unfold calmAt
        go_simp
        with_reducible refine (PB.out _).mono ?_
        rintro e w1 ⟨rfl, rfl⟩
        exact ⟨rfl, Rel.refl _⟩
      clear hK K
      iterate 1
        refine wpCalm_go rfl (by kernel_rfl) (fun K hK => ?_)
        apply Exists.intro
        refine ⟨fun M w hM hS => ?_, hK _ ?_⟩
        · have c1 := hS.1
          have c2 := hS.2
          unfold calmAt
          go_simp
          exact ⟨rfl, Rel.refl _⟩
        clear hK K
      refine wpCalm_go rfl (by kernel_rfl) (fun K hK => ?_)
      apply Exists.intro
      refine ⟨fun M w hM hS => ?_, hK _ ?_⟩
      · unfold calmAt
        go_simp
        with_reducible refine (M2.out _).mono ?_
        rintro e w1 ⟨rfl, hb⟩
        exact ⟨rfl, hb⟩
      clear hK K
      iterate 3
        refine wpCalm_go rfl (by kernel_rfl) (fun K hK => ?_)
        apply Exists.intro
        refine ⟨fun M w hM hS => ?_, hK _ ?_⟩
        · unfold calmAt
          go_simp
          exact ⟨rfl, Rel.refl _⟩
        clear hK K
      refine wpCalm_nil ?_
      have h11 := h0
      clear h0
      have q := keep2 h11 (b := w.heap.size) (by first | (simp; done) | (simp; omega) | omega)
      have kc11_0_0 := q.1
      have kc11_0_1 := q.2.1
      have kf11_0_0 := q.2.2.1
      have kf11_0_1 := q.2.2.2.1
      have kl11_0 := q.2.2.2.2.1
      have kn11_0 := q.2.2.2.2.2.1
      have km11_0 := q.2.2.2.2.2.2
      clear q
      have q := keep2 h11 (b := w.heap.size + 1) (by first | (simp; done) | (simp; omega) | omega)
      have kc11_1_0 := q.1
      have kc11_1_1 := q.2.1
      have kf11_1_0 := q.2.2.1
      have kf11_1_1 := q.2.2.2.1
      have kl11_1 := q.2.2.2.2.1
      have kn11_1 := q.2.2.2.2.2.1
      have km11_1 := q.2.2.2.2.2.2
      clear q
      have kz11 := h11.size
      (try simp only [World.size_alloc, World.size_setCell, World.size_drew] at kz11)
      have H11 := Lib.hid h11
      clear h11
      refine wpAnyR_ready (rs := [12]) (by kernel_rfl) (by simp) (AllR.cons rfl (fun w21 h21 K' hK' => ?_) AllR.nil)
      have q := keep2 h21 (b := w.heap.size) (by first | (simp; done) | (simp; omega) | omega)
      have kc21_0_0 := q.1
      have kc21_0_1 := q.2.1
      have kf21_0_0 := q.2.2.1
      have kf21_0_1 := q.2.2.2.1
      have kl21_0 := q.2.2.2.2.1
      have kn21_0 := q.2.2.2.2.2.1
      have km21_0 := q.2.2.2.2.2.2
      clear q
      have q := keep2 h21 (b := w.heap.size + 1) (by first | (simp; done) | (simp; omega) | omega)
      have kc21_1_0 := q.1
      have kc21_1_1 := q.2.1
      have kf21_1_0 := q.2.2.1
      have kf21_1_1 := q.2.2.2.1
      have kl21_1 := q.2.2.2.2.1
      have kn21_1 := q.2.2.2.2.2.1
      have km21_1 := q.2.2.2.2.2.2
      clear q
      have kz21 := h21.size
      (try simp only [World.size_alloc, World.size_setCell, World.size_drew] at kz21)
      have H21 := Lib.hid h21
      clear h21
      go_simp
      refine hK'.out _ _ ⟨by go_simp, by go_simp⟩ ?_
      clear hK' K'
      refine wpAnyR_ready (rs := [13]) (by kernel_rfl) (by simp) (AllR.cons rfl (fun w31 h31 K' hK' => ?_) AllR.nil)
      have q := keep2 h31 (b := w.heap.size) (by first | (simp; done) | (simp; omega) | omega)
      have kc31_0_0 := q.1
      have kc31_0_1 := q.2.1
      have kf31_0_0 := q.2.2.1
      have kf31_0_1 := q.2.2.2.1
      have kl31_0 := q.2.2.2.2.1
      have kn31_0 := q.2.2.2.2.2.1
      have km31_0 := q.2.2.2.2.2.2
      clear q
      have q := keep2 h31 (b := w.heap.size + 1) (by first | (simp; done) | (simp; omega) | omega)
      have kc31_1_0 := q.1
      have kc31_1_1 := q.2.1
      have kf31_1_0 := q.2.2.1
      have kf31_1_1 := q.2.2.2.1
      have kl31_1 := q.2.2.2.2.1
      have kn31_1 := q.2.2.2.2.2.1
      have km31_1 := q.2.2.2.2.2.2
      clear q
      have q := keep2 h31 (b := w21.heap.size) (by first | (simp; done) | (simp; omega) | omega)
      have kc31_2_0 := q.1
      have kc31_2_1 := q.2.1
      have kf31_2_0 := q.2.2.1
      have kf31_2_1 := q.2.2.2.1
      have kl31_2 := q.2.2.2.2.1
      have kn31_2 := q.2.2.2.2.2.1
      have km31_2 := q.2.2.2.2.2.2
      clear q
      have kz31 := h31.size
      (try simp only [World.size_alloc, World.size_setCell, World.size_drew] at kz31)
      have H31 := Lib.hid h31
      clear h31
      go_simp
      refine hK'.out _ _ ⟨by go_simp, by go_simp⟩ ?_
      clear hK' K'
      refine wpAnyR_ready (rs := [14]) (by kernel_rfl) (by simp) (AllR.cons rfl (fun w41 h41 K' hK' => ?_) AllR.nil)
      have q := keep2 h41 (b := w.heap.size) (by first | (simp; done) | (simp; omega) | omega)
      have kc41_0_0 := q.1
      have kc41_0_1 := q.2.1
      have kf41_0_0 := q.2.2.1
      have kf41_0_1 := q.2.2.2.1
      have kl41_0 := q.2.2.2.2.1
      have kn41_0 := q.2.2.2.2.2.1
      have km41_0 := q.2.2.2.2.2.2
      clear q
      have q := keep2 h41 (b := w.heap.size + 1) (by first | (simp; done) | (simp; omega) | omega)
      have kc41_1_0 := q.1
      have kc41_1_1 := q.2.1
      have kf41_1_0 := q.2.2.1
      have kf41_1_1 := q.2.2.2.1
      have kl41_1 := q.2.2.2.2.1
      have kn41_1 := q.2.2.2.2.2.1
      have km41_1 := q.2.2.2.2.2.2
      clear q
      have q := keep2 h41 (b := w21.heap.size) (by first | (simp; done) | (simp; omega) | omega)
      have kc41_2_0 := q.1
      have kc41_2_1 := q.2.1
      have kf41_2_0 := q.2.2.1
      have kf41_2_1 := q.2.2.2.1
      have kl41_2 := q.2.2.2.2.1
      have kn41_2 := q.2.2.2.2.2.1
      have km41_2 := q.2.2.2.2.2.2
      clear q
      have kz41 := h41.size
      (try simp only [World.size_alloc, World.size_setCell, World.size_drew] at kz41)
      have H41 := Lib.hid h41
      clear h41
      go_simp
      refine hK'.out _ _ ⟨by go_simp, by go_simp⟩ ?_
      clear hK' K'
      refine wpAnyR_end (by kernel_rfl) (fun w51 h51 => ?_)
      (try simp only [Act.put, List.setIfInBounds_toArray, List.set_cons_zero, List.set_cons_succ])
      have q := keep2 h51 (b := w.heap.size) (by first | (simp; done) | (simp; omega) | omega)
      have kc51_0_0 := q.1
      have kc51_0_1 := q.2.1
      have kf51_0_0 := q.2.2.1
      have kf51_0_1 := q.2.2.2.1
      have kl51_0 := q.2.2.2.2.1
      have kn51_0 := q.2.2.2.2.2.1
      have km51_0 := q.2.2.2.2.2.2
      clear q
      have q := keep2 h51 (b := w.heap.size + 1) (by first | (simp; done) | (simp; omega) | omega)
      have kc51_1_0 := q.1
      have kc51_1_1 := q.2.1
      have kf51_1_0 := q.2.2.1
      have kf51_1_1 := q.2.2.2.1
      have kl51_1 := q.2.2.2.2.1
      have kn51_1 := q.2.2.2.2.2.1
      have km51_1 := q.2.2.2.2.2.2
      clear q
      have q := keep2 h51 (b := w21.heap.size) (by first | (simp; done) | (simp; omega) | omega)
      have kc51_2_0 := q.1
      have kc51_2_1 := q.2.1
      have kf51_2_0 := q.2.2.1
      have kf51_2_1 := q.2.2.2.1
      have kl51_2 := q.2.2.2.2.1
      have kn51_2 := q.2.2.2.2.2.1
      have km51_2 := q.2.2.2.2.2.2
      clear q
      have kz51 := h51.size
      (try simp only [World.size_alloc, World.size_setCell, World.size_drew] at kz51)
      have H51 := Lib.hid h51
      clear h51
      go_wp2_with fail
      with_reducible refine (V2.out _).mono ?_
      rintro e w60 ⟨rfl, h60⟩
      have q := keep2 h60 (b := w.heap.size) (by first | (simp; done) | (simp; omega) | omega)
      have kc60_0_0 := q.1
      have kc60_0_1 := q.2.1
      have kf60_0_0 := q.2.2.1
      have kf60_0_1 := q.2.2.2.1
      have kl60_0 := q.2.2.2.2.1
      have kn60_0 := q.2.2.2.2.2.1
      have km60_0 := q.2.2.2.2.2.2
      clear q
      have q := keep2 h60 (b := w.heap.size + 1) (by first | (simp; done) | (simp; omega) | omega)
      have kc60_1_0 := q.1
      have kc60_1_1 := q.2.1
      have kf60_1_0 := q.2.2.1
      have kf60_1_1 := q.2.2.2.1
      have kl60_1 := q.2.2.2.2.1
      have kn60_1 := q.2.2.2.2.2.1
      have km60_1 := q.2.2.2.2.2.2
      clear q
      have q := keep2 h60 (b := w21.heap.size) (by first | (simp; done) | (simp; omega) | omega)
      have kc60_2_0 := q.1
      have kc60_2_1 := q.2.1
      have kf60_2_0 := q.2.2.1
      have kf60_2_1 := q.2.2.2.1
      have kl60_2 := q.2.2.2.2.1
      have kn60_2 := q.2.2.2.2.2.1
      have km60_2 := q.2.2.2.2.2.2
      clear q
      have kz60 := h60.size
      (try simp only [World.size_alloc, World.size_setCell, World.size_drew] at kz60)
      have H60 := Lib.hid h60
      clear h60
      go_wp2
      refine bodyPost_ret ?_ rfl ⟨n2, d2, B2.out, rfl, ?_⟩
      · simp [results, Tryd.results12, go_sem, kc60_1_0, kc60_1_1, kl60_1, kc11_1_0, kc11_1_1, kl11_1, kc21_1_0, kc21_1_1, kl21_1, kc31_1_0, kc31_1_1, kl31_1, kc41_1_0, kc41_1_1, kl41_1, kc51_1_0, kc51_1_1, kl51_1]
      · (repeat (first | with_reducible exact Rel.refl _ | with_reducible refine Rel.alloc ?_ _ | with_reducible refine Rel.setCell ?_ (by first | (simp; done) | (simp; omega) | omega) _ | with_reducible refine Rel.trans ?_ H60.out | with_reducible refine Rel.trans ?_ H51.out | with_reducible refine Rel.trans ?_ H41.out | with_reducible refine Rel.trans ?_ H31.out | with_reducible refine Rel.trans ?_ H21.out | with_reducible refine Rel.trans ?_ H11.out))
  · go_enter Tryd.func12, Tryd.ntmps12
    go_wp2_with fail
    with_reducible refine (PK.out _).mono ?_
    rintro e w1 ⟨rfl, rfl⟩
    go_wp2_with fail
    refine wp_region_calm (fun _ w' => w'.cell? { block := w.heap.size, off := 0 } = some (.int .i64 n) ∧ w'.cell? { block := w.heap.size, off := 1 } = some (.int .i64 d)) (fun _ => false) [0, 1, 2, 3, 4, 5, 6, 7, 8, 9, 10] 3 (by kernel_rfl) (by kernel_rfl) ?hst ?hS0 (fun w0 h0 => ?_)
    case hst => exact fun _ _ _ h r => ⟨r.cell h.1, r.cell h.2⟩
    case hS0 => exact ⟨by go_simp, by go_simp⟩
    iterate 5
      refine wpCalm_go rfl (by kernel_rfl) (fun K hK => ?_)
      apply Exists.intro
      refine ⟨fun M w hM hS => ?_, hK _ ?_⟩
      · have c1 := hS.1
        have c2 := hS.2
        unfold calmAt
        go_simp
        exact ⟨rfl, Rel.refl _⟩
      clear hK K
    refine wpCalm_go rfl (by kernel_rfl) (fun K hK => ?_)
    apply Exists.intro
    refine ⟨fun M w hM hS => ?_, hK _ ?_⟩
    · have c1 := hS.1
      have c2 := hS.2
      unfold calmAt
      go_simp
      with_reducible refine (P4.out _).mono ?_
      rintro e w1 ⟨rfl, rfl⟩
      exact ⟨rfl, Rel.refl _⟩
    clear hK K
    iterate 1
      refine wpCalm_go rfl (by kernel_rfl) (fun K hK => ?_)
      apply Exists.intro
      refine ⟨fun M w hM hS => ?_, hK _ ?_⟩
      · have c1 := hS.1
        have c2 := hS.2
        unfold calmAt
        go_simp
        exact ⟨rfl, Rel.refl _⟩
      clear hK K
    refine wpCalm_go rfl (by kernel_rfl) (fun K hK => ?_)
    apply Exists.intro
    refine ⟨fun M w hM hS => ?_, hK _ ?_⟩
    · unfold calmAt
      go_simp
      with_reducible refine (M3.out _).mono ?_
      rintro e w1 ⟨rfl, hb⟩
      exact ⟨rfl, hb⟩
    clear hK K
    iterate 3
      refine wpCalm_go rfl (by kernel_rfl) (fun K hK => ?_)
      apply Exists.intro
      refine ⟨fun M w hM hS => ?_, hK _ ?_⟩
      · unfold calmAt
        go_simp
        exact ⟨rfl, Rel.refl _⟩
      clear hK K
    refine wpCalm_nil ?_
    have h11 := h0
    clear h0
    have q := keep2 h11 (b := w.heap.size) (by first | (simp; done) | (simp; omega) | omega)
    have kc11_0_0 := q.1
    have kc11_0_1 := q.2.1
    have kf11_0_0 := q.2.2.1
    have kf11_0_1 := q.2.2.2.1
    have kl11_0 := q.2.2.2.2.1
    have kn11_0 := q.2.2.2.2.2.1
    have km11_0 := q.2.2.2.2.2.2
    clear q
    have q := keep2 h11 (b := w.heap.size + 1) (by first | (simp; done) | (simp; omega) | omega)
    have kc11_1_0 := q.1
    have kc11_1_1 := q.2.1
    have kf11_1_0 := q.2.2.1
    have kf11_1_1 := q.2.2.2.1
    have kl11_1 := q.2.2.2.2.1
    have kn11_1 := q.2.2.2.2.2.1
    have km11_1 := q.2.2.2.2.2.2
    clear q
    have kz11 := h11.size
    (try simp only [World.size_alloc, World.size_setCell, World.size_drew] at kz11)
    have H11 := Lib.hid h11
    clear h11
    refine wpAnyR_ready (rs := [11]) (by kernel_rfl) (by simp) (AllR.cons rfl (fun w21 h21 K' hK' => ?_) AllR.nil)
    have q := keep2 h21 (b := w.heap.size) (by first | (simp; done) | (simp; omega) | omega)
    have kc21_0_0 := q.1
    have kc21_0_1 := q.2.1
    have kf21_0_0 := q.2.2.1
    have kf21_0_1 := q.2.2.2.1
    have kl21_0 := q.2.2.2.2.1
    have kn21_0 := q.2.2.2.2.2.1
    have km21_0 := q.2.2.2.2.2.2
    clear q
    have q := keep2 h21 (b := w.heap.size + 1) (by first | (simp; done) | (simp; omega) | omega)
    have kc21_1_0 := q.1
    have kc21_1_1 := q.2.1
    have kf21_1_0 := q.2.2.1
    have kf21_1_1 := q.2.2.2.1
    have kl21_1 := q.2.2.2.2.1
    have kn21_1 := q.2.2.2.2.2.1
    have km21_1 := q.2.2.2.2.2.2
    clear q
    have kz21 := h21.size
    (try simp only [World.size_alloc, World.size_setCell, World.size_drew] at kz21)
    have H21 := Lib.hid h21
    clear h21
    go_simp
    refine hK'.out _ _ ⟨by go_simp, by go_simp⟩ ?_
    clear hK' K'
    refine wpAnyR_ready (rs := [12]) (by kernel_rfl) (by simp) (AllR.cons rfl (fun w31 h31 K' hK' => ?_) AllR.nil)
    have q := keep2 h31 (b := w.heap.size) (by first | (simp; done) | (simp; omega) | omega)
    have kc31_0_0 := q.1
    have kc31_0_1 := q.2.1
    have kf31_0_0 := q.2.2.1
    have kf31_0_1 := q.2.2.2.1
    have kl31_0 := q.2.2.2.2.1
    have kn31_0 := q.2.2.2.2.2.1
    have km31_0 := q.2.2.2.2.2.2
    clear q
    have q := keep2 h31 (b := w.heap.size + 1) (by first | (simp; done) | (simp; omega) | omega)
    have kc31_1_0 := q.1
    have kc31_1_1 := q.2.1
    have kf31_1_0 := q.2.2.1
    have kf31_1_1 := q.2.2.2.1
    have kl31_1 := q.2.2.2.2.1
    have kn31_1 := q.2.2.2.2.2.1
    have km31_1 := q.2.2.2.2.2.2
    clear q
    have q := keep2 h31 (b := w21.heap.size) (by first | (simp; done) | (simp; omega) | omega)
    have kc31_2_0 := q.1
    have kc31_2_1 := q.2.1
    have kf31_2_0 := q.2.2.1
    have kf31_2_1 := q.2.2.2.1
    have kl31_2 := q.2.2.2.2.1
    have kn31_2 := q.2.2.2.2.2.1
    have km31_2 := q.2.2.2.2.2.2
    clear q
    have kz31 := h31.size
    (try simp only [World.size_alloc, World.size_setCell, World.size_drew] at kz31)
    have H31 := Lib.hid h31
    clear h31
    go_simp
    refine hK'.out _ _ ⟨by go_simp, by go_simp⟩ ?_
    clear hK' K'
    refine wpAnyR_ready (rs := [13]) (by kernel_rfl) (by simp) (AllR.cons rfl (fun w41 h41 K' hK' => ?_) AllR.nil)
    have q := keep2 h41 (b := w.heap.size) (by first | (simp; done) | (simp; omega) | omega)
    have kc41_0_0 := q.1
    have kc41_0_1 := q.2.1
    have kf41_0_0 := q.2.2.1
    have kf41_0_1 := q.2.2.2.1
    have kl41_0 := q.2.2.2.2.1
    have kn41_0 := q.2.2.2.2.2.1
    have km41_0 := q.2.2.2.2.2.2
    clear q
    have q := keep2 h41 (b := w.heap.size + 1) (by first | (simp; done) | (simp; omega) | omega)
    have kc41_1_0 := q.1
    have kc41_1_1 := q.2.1
    have kf41_1_0 := q.2.2.1
    have kf41_1_1 := q.2.2.2.1
    have kl41_1 := q.2.2.2.2.1
    have kn41_1 := q.2.2.2.2.2.1
    have km41_1 := q.2.2.2.2.2.2
    clear q
    have q := keep2 h41 (b := w21.heap.size) (by first | (simp; done) | (simp; omega) | omega)
    have kc41_2_0 := q.1
    have kc41_2_1 := q.2.1
    have kf41_2_0 := q.2.2.1
    have kf41_2_1 := q.2.2.2.1
    have kl41_2 := q.2.2.2.2.1
    have kn41_2 := q.2.2.2.2.2.1
    have km41_2 := q.2.2.2.2.2.2
    clear q
    have kz41 := h41.size
    (try simp only [World.size_alloc, World.size_setCell, World.size_drew] at kz41)
    have H41 := Lib.hid h41
    clear h41
    go_simp
    refine hK'.out _ _ ⟨by go_simp, by go_simp⟩ ?_
    clear hK' K'
    refine wpAnyR_end (by kernel_rfl) (fun w51 h51 => ?_)
    (try simp only [Act.put, List.setIfInBounds_toArray, List.set_cons_zero, List.set_cons_succ])
    have q := keep2 h51 (b := w.heap.size) (by first | (simp; done) | (simp; omega) | omega)
    have kc51_0_0 := q.1
    have kc51_0_1 := q.2.1
    have kf51_0_0 := q.2.2.1
    have kf51_0_1 := q.2.2.2.1
    have kl51_0 := q.2.2.2.2.1
    have kn51_0 := q.2.2.2.2.2.1
    have km51_0 := q.2.2.2.2.2.2
    clear q
    have q := keep2 h51 (b := w.heap.size + 1) (by first | (simp; done) | (simp; omega) | omega)
    have kc51_1_0 := q.1
    have kc51_1_1 := q.2.1
    have kf51_1_0 := q.2.2.1
    have kf51_1_1 := q.2.2.2.1
    have kl51_1 := q.2.2.2.2.1
    have kn51_1 := q.2.2.2.2.2.1
    have km51_1 := q.2.2.2.2.2.2
    clear q
    have q := keep2 h51 (b := w21.heap.size) (by first | (simp; done) | (simp; omega) | omega)
    have kc51_2_0 := q.1
    have kc51_2_1 := q.2.1
    have kf51_2_0 := q.2.2.1
    have kf51_2_1 := q.2.2.2.1
    have kl51_2 := q.2.2.2.2.1
    have kn51_2 := q.2.2.2.2.2.1
    have km51_2 := q.2.2.2.2.2.2
    clear q
    have kz51 := h51.size
    (try simp only [World.size_alloc, World.size_setCell, World.size_drew] at kz51)
    have H51 := Lib.hid h51
    clear h51
    go_wp2
    refine bodyPost_ret ?_ rfl ⟨n3, d3, B3.out, rfl, ?_⟩
    · simp [results, Tryd.results12, go_sem, kc11_1_0, kc11_1_1, kl11_1, kc21_1_0, kc21_1_1, kl21_1, kc31_1_0, kc31_1_1, kl31_1, kc41_1_0, kc41_1_1, kl41_1, kc51_1_0, kc51_1_1, kl51_1]
    · (repeat (first | with_reducible exact Rel.refl _ | with_reducible refine Rel.alloc ?_ _ | with_reducible refine Rel.setCell ?_ (by first | (simp; done) | (simp; omega) | omega) _ | with_reducible refine Rel.trans ?_ H51.out | with_reducible refine Rel.trans ?_ H41.out | with_reducible refine Rel.trans ?_ H31.out | with_reducible refine Rel.trans ?_ H21.out | with_reducible refine Rel.trans ?_ H11.out))
  · go_enter Tryd.func12, Tryd.ntmps12
    go_wp2_with fail
    with_reducible refine (PK.out _).mono ?_
    rintro e w1 ⟨rfl, rfl⟩
    go_wp2_with fail
    refine wp_region_calm (fun _ w' => w'.cell? { block := w.heap.size, off := 0 } = some (.int .i64 n) ∧ w'.cell? { block := w.heap.size, off := 1 } = some (.int .i64 d)) (fun _ => false) [0, 1, 2, 3, 4, 5, 6, 7, 8, 9, 10] 3 (by kernel_rfl) (by kernel_rfl) ?hst ?hS0 (fun w0 h0 => ?_)
    case hst => exact fun _ _ _ h r => ⟨r.cell h.1, r.cell h.2⟩
    case hS0 => exact ⟨by go_simp, by go_simp⟩
    iterate 5
      refine wpCalm_go rfl (by kernel_rfl) (fun K hK => ?_)
      apply Exists.intro
      refine ⟨fun M w hM hS => ?_, hK _ ?_⟩
      · have c1 := hS.1
        have c2 := hS.2
        unfold calmAt
        go_simp
        exact ⟨rfl, Rel.refl _⟩
      clear hK K
    refine wpCalm_go rfl (by kernel_rfl) (fun K hK => ?_)
    apply Exists.intro
    refine ⟨fun M w hM hS => ?_, hK _ ?_⟩
    · have c1 := hS.1
      have c2 := hS.2
      unfold calmAt
      go_simp
      with_reducible refine (P60.out _).mono ?_
      rintro e w1 ⟨rfl, rfl⟩
      exact ⟨rfl, Rel.refl _⟩
    clear hK K
    iterate 1
      refine wpCalm_go rfl (by kernel_rfl) (fun K hK => ?_)
      apply Exists.intro
      refine ⟨fun M w hM hS => ?_, hK _ ?_⟩
      · have c1 := hS.1
        have c2 := hS.2
        unfold calmAt
        go_simp
        exact ⟨rfl, Rel.refl _⟩
      clear hK K
    refine wpCalm_go rfl (by kernel_rfl) (fun K hK => ?_)
    apply Exists.intro
    refine ⟨fun M w hM hS => ?_, hK _ ?_⟩
    · unfold calmAt
      go_simp
      with_reducible refine (M4.out _).mono ?_
      rintro e w1 ⟨rfl, hb⟩
      exact ⟨rfl, hb⟩
    clear hK K
    iterate 3
      refine wpCalm_go rfl (by kernel_rfl) (fun K hK => ?_)
      apply Exists.intro
      refine ⟨fun M w hM hS => ?_, hK _ ?_⟩
      · unfold calmAt
        go_simp
        exact ⟨rfl, Rel.refl _⟩
      clear hK K
    refine wpCalm_nil ?_
    have h11 := h0
    clear h0
    have q := keep2 h11 (b := w.heap.size) (by first | (simp; done) | (simp; omega) | omega)
    have kc11_0_0 := q.1
    have kc11_0_1 := q.2.1
    have kf11_0_0 := q.2.2.1
    have kf11_0_1 := q.2.2.2.1
    have kl11_0 := q.2.2.2.2.1
    have kn11_0 := q.2.2.2.2.2.1
    have km11_0 := q.2.2.2.2.2.2
    clear q
    have q := keep2 h11 (b := w.heap.size + 1) (by first | (simp; done) | (simp; omega) | omega)
    have kc11_1_0 := q.1
    have kc11_1_1 := q.2.1
    have kf11_1_0 := q.2.2.1
    have kf11_1_1 := q.2.2.2.1
    have kl11_1 := q.2.2.2.2.1
    have kn11_1 := q.2.2.2.2.2.1
    have km11_1 := q.2.2.2.2.2.2
    clear q
    have kz11 := h11.size
    (try simp only [World.size_alloc, World.size_setCell, World.size_drew] at kz11)
    have H11 := Lib.hid h11
    clear h11
    refine wpAnyR_ready (rs := [11]) (by kernel_rfl) (by simp) (AllR.cons rfl (fun w21 h21 K' hK' => ?_) AllR.nil)
    have q := keep2 h21 (b := w.heap.size) (by first | (simp; done) | (simp; omega) | omega)
    have kc21_0_0 := q.1
    have kc21_0_1 := q.2.1
    have kf21_0_0 := q.2.2.1
    have kf21_0_1 := q.2.2.2.1
    have kl21_0 := q.2.2.2.2.1
    have kn21_0 := q.2.2.2.2.2.1
    have km21_0 := q.2.2.2.2.2.2
    clear q
    have q := keep2 h21 (b := w.heap.size + 1) (by first | (simp; done) | (simp; omega) | omega)
    have kc21_1_0 := q.1
    have kc21_1_1 := q.2.1
    have kf21_1_0 := q.2.2.1
    have kf21_1_1 := q.2.2.2.1
    have kl21_1 := q.2.2.2.2.1
    have kn21_1 := q.2.2.2.2.2.1
    have km21_1 := q.2.2.2.2.2.2
    clear q
    have kz21 := h21.size
    (try simp only [World.size_alloc, World.size_setCell, World.size_drew] at kz21)
    have H21 := Lib.hid h21
    clear h21
    go_simp
    refine hK'.out _ _ ⟨by go_simp, by go_simp⟩ ?_
    clear hK' K'
    refine wpAnyR_ready (rs := [12]) (by kernel_rfl) (by simp) (AllR.cons rfl (fun w31 h31 K' hK' => ?_) AllR.nil)
    have q := keep2 h31 (b := w.heap.size) (by first | (simp; done) | (simp; omega) | omega)
    have kc31_0_0 := q.1
    have kc31_0_1 := q.2.1
    have kf31_0_0 := q.2.2.1
    have kf31_0_1 := q.2.2.2.1
    have kl31_0 := q.2.2.2.2.1
    have kn31_0 := q.2.2.2.2.2.1
    have km31_0 := q.2.2.2.2.2.2
    clear q
    have q := keep2 h31 (b := w.heap.size + 1) (by first | (simp; done) | (simp; omega) | omega)
    have kc31_1_0 := q.1
    have kc31_1_1 := q.2.1
    have kf31_1_0 := q.2.2.1
    have kf31_1_1 := q.2.2.2.1
    have kl31_1 := q.2.2.2.2.1
    have kn31_1 := q.2.2.2.2.2.1
    have km31_1 := q.2.2.2.2.2.2
    clear q
    have q := keep2 h31 (b := w21.heap.size) (by first | (simp; done) | (simp; omega) | omega)
    have kc31_2_0 := q.1
    have kc31_2_1 := q.2.1
    have kf31_2_0 := q.2.2.1
    have kf31_2_1 := q.2.2.2.1
    have kl31_2 := q.2.2.2.2.1
    have kn31_2 := q.2.2.2.2.2.1
    have km31_2 := q.2.2.2.2.2.2
    clear q
    have kz31 := h31.size
    (try simp only [World.size_alloc, World.size_setCell, World.size_drew] at kz31)
    have H31 := Lib.hid h31
    clear h31
    go_simp
    refine hK'.out _ _ ⟨by go_simp, by go_simp⟩ ?_
    clear hK' K'
    refine wpAnyR_ready (rs := [13]) (by kernel_rfl) (by simp) (AllR.cons rfl (fun w41 h41 K' hK' => ?_) AllR.nil)
    have q := keep2 h41 (b := w.heap.size) (by first | (simp; done) | (simp; omega) | omega)
    have kc41_0_0 := q.1
    have kc41_0_1 := q.2.1
    have kf41_0_0 := q.2.2.1
    have kf41_0_1 := q.2.2.2.1
    have kl41_0 := q.2.2.2.2.1
    have kn41_0 := q.2.2.2.2.2.1
    have km41_0 := q.2.2.2.2.2.2
    clear q
    have q := keep2 h41 (b := w.heap.size + 1) (by first | (simp; done) | (simp; omega) | omega)
    have kc41_1_0 := q.1
    have kc41_1_1 := q.2.1
    have kf41_1_0 := q.2.2.1
    have kf41_1_1 := q.2.2.2.1
    have kl41_1 := q.2.2.2.2.1
    have kn41_1 := q.2.2.2.2.2.1
    have km41_1 := q.2.2.2.2.2.2
    clear q
    have q := keep2 h41 (b := w21.heap.size) (by first | (simp; done) | (simp; omega) | omega)
    have kc41_2_0 := q.1
    have kc41_2_1 := q.2.1
    have kf41_2_0 := q.2.2.1
    have kf41_2_1 := q.2.2.2.1
    have kl41_2 := q.2.2.2.2.1
    have kn41_2 := q.2.2.2.2.2.1
    have km41_2 := q.2.2.2.2.2.2
    clear q
    have kz41 := h41.size
    (try simp only [World.size_alloc, World.size_setCell, World.size_drew] at kz41)
    have H41 := Lib.hid h41
    clear h41
    go_simp
    refine hK'.out _ _ ⟨by go_simp, by go_simp⟩ ?_
    clear hK' K'
    refine wpAnyR_end (by kernel_rfl) (fun w51 h51 => ?_)
    (try simp only [Act.put, List.setIfInBounds_toArray, List.set_cons_zero, List.set_cons_succ])
    have q := keep2 h51 (b := w.heap.size) (by first | (simp; done) | (simp; omega) | omega)
    have kc51_0_0 := q.1
    have kc51_0_1 := q.2.1
    have kf51_0_0 := q.2.2.1
    have kf51_0_1 := q.2.2.2.1
    have kl51_0 := q.2.2.2.2.1
    have kn51_0 := q.2.2.2.2.2.1
    have km51_0 := q.2.2.2.2.2.2
    clear q
    have q := keep2 h51 (b := w.heap.size + 1) (by first | (simp; done) | (simp; omega) | omega)
    have kc51_1_0 := q.1
    have kc51_1_1 := q.2.1
    have kf51_1_0 := q.2.2.1
    have kf51_1_1 := q.2.2.2.1
    have kl51_1 := q.2.2.2.2.1
    have kn51_1 := q.2.2.2.2.2.1
    have km51_1 := q.2.2.2.2.2.2
    clear q
    have q := keep2 h51 (b := w21.heap.size) (by first | (simp; done) | (simp; omega) | omega)
    have kc51_2_0 := q.1
    have kc51_2_1 := q.2.1
    have kf51_2_0 := q.2.2.1
    have kf51_2_1 := q.2.2.2.1
    have kl51_2 := q.2.2.2.2.1
    have kn51_2 := q.2.2.2.2.2.1
    have km51_2 := q.2.2.2.2.2.2
    clear q
    have kz51 := h51.size
    (try simp only [World.size_alloc, World.size_setCell, World.size_drew] at kz51)
    have H51 := Lib.hid h51
    clear h51
    go_wp2
    refine bodyPost_ret ?_ rfl ⟨n4, d4, B4.out, rfl, ?_⟩
    · simp [results, Tryd.results12, go_sem, kc11_1_0, kc11_1_1, kl11_1, kc21_1_0, kc21_1_1, kl21_1, kc31_1_0, kc31_1_1, kl31_1, kc41_1_0, kc41_1_1, kl41_1, kc51_1_0, kc51_1_1, kl51_1]
    · (repeat (first | with_reducible exact Rel.refl _ | with_reducible refine Rel.alloc ?_ _ | with_reducible refine Rel.setCell ?_ (by first | (simp; done) | (simp; omega) | omega) _ | with_reducible refine Rel.trans ?_ H51.out | with_reducible refine Rel.trans ?_ H41.out | with_reducible refine Rel.trans ?_ H31.out | with_reducible refine Rel.trans ?_ H21.out | with_reducible refine Rel.trans ?_ H11.out))

theorem of_any (n d m : Int) (w : World) (n0 : -9223372036854775808 ≤ n) (n1 : n ≤ 9223372036854775807) (d0 : -9223372036854775808 ≤ d) (d1 : d ≤ 9223372036854775807) (m0 : -9223372036854775808 ≤ m) (m1 : m ≤ 9223372036854775807) :
    Calls Tryd.prog 12 #[.agg #[.int .i64 n, .int .i64 d], .int .i64 m] w (SomeFr w) := by
  have t1 := Int.tmod_lt_of_pos n (show (0 : Int) < 1000000000000001 by omega)
  have t2 := tmod_gt n 1000000000000001 (by omega)
  have t3 := Int.tmod_lt_of_pos n (show (0 : Int) < 7 by omega)
  have t4 := tmod_gt n 7 (by omega)
  have t5 := Int.tmod_lt_of_pos n (show (0 : Int) < 200 by omega)
  have t6 := tmod_gt n 200 (by omega)
  have v2 := mk_bd (1000000000000000 - n % 5) (d % 3 + 1)
  refine of_core n d m (m % 9) _ _ _ _ _ _ _ _ _ _ _ _ (d % 1000000000) (d % 60) (n % 5) (d % 3) (d % 4) _ w ⟨⟨n0, n1⟩, d0, d1⟩ (by omega) (by omega) (by omega) (by omega) (by omega) (by omega) (mk_bd _ _) (mk_bd _ _) (mk_bd _ _) (mk_bd _ _)
    (Lib.hid fun w => pick_any m 9 w m0 m1 (by omega) (by omega)) (Lib.hid fun w => pick_any d _ w d0 d1 (by omega) (by omega)) (Lib.hid fun w => pick_any d _ w d0 d1 (by omega) (by omega))
    (Lib.hid fun w => pick_any n _ w n0 n1 (by omega) (by omega)) (Lib.hid fun w => pick_any d _ w d0 d1 (by omega) (by omega)) (Lib.hid fun w => pick_any d _ w d0 d1 (by omega) (by omega))
    (Lib.hid fun w => rmake_any _ _ w (by omega) (by omega) (by omega) (by omega)) (Lib.hid fun w => rmake_any _ _ w (by omega) (by omega) (by omega) (by omega)) (Lib.hid fun w => rmake_any _ _ w (by omega) (by omega) (by omega) (by omega)) (Lib.hid fun w => rmake_any _ _ w (by omega) (by omega) (by omega) (by omega))
    (Lib.hid fun w => rvalid_is rfl w (by omega) (by omega) (by omega) (by omega))

end Go.Proofs.YtfdajdlbkdfhoaaDoor


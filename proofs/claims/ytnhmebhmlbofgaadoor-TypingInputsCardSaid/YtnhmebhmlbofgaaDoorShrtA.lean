/- Contract of the program's FormatDecimal. No conditions but those printed. -/
import Derived.Test.YtnhmebhmlbofgaaDoorDoorA
import Derived.Test.YtnhmebhmlbofgaaDoorShrt
import Derived.Test.YtnhmebhmlbofgaaDoorTokE
namespace Go.Proofs.YtnhmebhmlbofgaaDoor
open Go.RowKit Cal Str Tok Frac Txt
attribute [local go_sem] calmUpon
set_option linter.unusedVariables false
set_option linter.unusedSimpArgs false

def FdRes (n d x : Int) (w : World) (e : Ending) (w' : World) : Prop := e = .returned (.tuple #[.string (fdT n d x), .bool (fdB n d x)]) ∧ Rel w w'
theorem fd_ret_no {n d x : Int} {w w' : World} (h : fdB n d x = false) (r : Rel w w') : FdRes n d x w (.returned (.tuple #[.string ⟨#[]⟩, .bool false])) w' := by
  unfold FdRes; rw [fd_no h, h]; exact ⟨rfl, r⟩
theorem fd_ret_yes {n d x : Int} {u : ByteArray} {w w' : World} (h : fdB n d x = true) (hu : fdT n d x = u) (r : Rel w w') : FdRes n d x w (.returned (.tuple #[.string u, .bool true])) w' := by
  unfold FdRes; rw [hu, h]; exact ⟨rfl, r⟩

set_option maxHeartbeats 8000000 in
theorem FormatDecimal_any (n d x : Int) (w : World) (ht : TabW w) (n0 : -9223372036854775808 ≤ n) (n1 : n ≤ 9223372036854775807) (d0 : -9223372036854775808 ≤ d) (d1 : d ≤ 9223372036854775807) (x0 : -9223372036854775808 ≤ x) (x1 : x ≤ 9223372036854775807) :
    Calls Tryd.prog 65 #[.agg #[.int .i64 n, .int .i64 d], .int .i64 x] w (FdRes n d x w) := by
  by_cases hg : 1 ≤ d ∧ d ≤ 10000 ∧ 0 ≤ n ∧ n ≤ 1000000000000000
  · obtain ⟨g1, g2, g3, g4⟩ := hg
    have b1 : decide (d < 1) = false := decide_eq_false (by omega)
    have b2 : decide (10000 < d) = false := decide_eq_false (by omega)
    have b3 : decide (n < 0) = false := decide_eq_false (by omega)
    have b4 : decide (1000000000000000 < n) = false := decide_eq_false (by omega)
    have dz : (d == 0) = false := by rw [beq_eq_false_iff_ne]; omega
    have dm : (d == -1) = false := by rw [beq_eq_false_iff_ne]; omega
    have tq : n.tdiv d = n / d := Int.tdiv_eq_ediv_of_nonneg g3
    have tr : n.tmod d = n % d := Int.tmod_eq_emod_of_nonneg g3
    have P0 := Lib.hid (pi_start n d)
    have q0 : 0 ≤ n / d := Int.ediv_nonneg g3 (by omega)
    have q1 : n / d ≤ 1000000000000000 := by
      have := Int.ediv_le_self d g3; omega
    have r0 : 0 ≤ n % d := Int.emod_nonneg _ (by omega)
    have r1 : n % d < d := Int.emod_lt_of_pos _ (by omega)
    have ww : IntKind.i64.wrap (n / d) = n / d := IntWalk.i64_in _ ⟨by omega, by omega⟩
    have wr : IntKind.i64.wrap (n % d) = n % d := IntWalk.i64_in _ ⟨by omega, by omega⟩
    obtain ⟨q, hq⟩ : ∃ q, n / d = q := ⟨_, rfl⟩
    obtain ⟨r, hr⟩ : ∃ r, n % d = r := ⟨_, rfl⟩
    rw [hq] at tq P0 q0 q1 ww
    rw [hr] at tr P0 r0 r1 wr
    have zq := numS_size q
    have HT := Lib.hid ht
    clear hq hr ht
    go_enter Tryd.func65, Tryd.ntmps65
    go_wp2_with fail
    refine (itoa_any _ _ (HT.out.rel ((Rel.refl _).alloc _)) (by omega) (by omega)).mono ?_
    rintro e w1 ⟨rfl, h1⟩
    have q := keep2 h1 (b := w.heap.size) (by first | (simp; done) | (simp; omega) | omega)
    have kc1_0_0 := q.1
    have kc1_0_1 := q.2.1
    have kf1_0_0 := q.2.2.1
    have kf1_0_1 := q.2.2.2.1
    have kl1_0 := q.2.2.2.2.1
    have kn1_0 := q.2.2.2.2.2.1
    have km1_0 := q.2.2.2.2.2.2
    clear q
    have kz1 := h1.size
    (try simp only [World.size_alloc, World.size_setCell, World.size_drew] at kz1)
    have H1 := Lib.hid h1
    clear h1
    go_wp2_with fail
    go_loopw [6, 7, 8] (fun s r i wx => ∃ (k : Nat) (a : Int) (t : ByteArray), k ≤ 4 ∧ s = .string t ∧ r = .int .i64 a ∧ i = .int .i64 k ∧ 0 ≤ a ∧ a < d ∧ t.size ≤ 42 + 42 * k ∧ Hid (Pi n d k a t) ∧ Hid (Rel (w.alloc (.cells #[.int .i64 n, .int .i64 d] 31)) wx)) (fun _ _ i _ => 4 - (intOf i).toNat)
    case atStart => exact ⟨0, r, numS q, by omega, rfl, rfl, rfl, r0, r1, by omega, P0, H1⟩
    case round =>
      obtain ⟨k, a, t, hk, rfl, rfl, rfl, a0, a1, htz, hP, hR⟩ := hrel
      have hR2 := hR.out
      have q := keep2 hR2 (b := w.heap.size) (by first | (simp; done) | (simp; omega) | omega)
      have kc2_0_0 := q.1
      have kc2_0_1 := q.2.1
      have kf2_0_0 := q.2.2.1
      have kf2_0_1 := q.2.2.2.1
      have kl2_0 := q.2.2.2.2.1
      have kn2_0 := q.2.2.2.2.2.1
      have km2_0 := q.2.2.2.2.2.2
      clear q
      have kz2 := hR2.size
      (try simp only [World.size_alloc, World.size_setCell, World.size_drew] at kz2)
      have H2 := Lib.hid hR2
      clear hR2
      by_cases hz : a = 0
      · subst hz
        have hE := Lib.hid (pi_end hP.out (by omega))
        clear hP a1
        rcases (show x = 3 ∨ x = 4 ∨ (¬ x = 3 ∧ ¬ x = 4) by omega) with hx | hx | ⟨hx3, hx4⟩
        · subst hx
          obtain ⟨u, hu⟩ : ∃ u : ByteArray, (t ++ ⟨#[100]⟩) = u := ⟨_, rfl⟩
          have hT := Lib.hid (fd_test (x := 3) (u := u) hE.out (by rw [← hu]; simp [sufL]))
          obtain ⟨N, hN⟩ : ∃ N, decN u = N := ⟨_, rfl⟩
          obtain ⟨D, hD⟩ : ∃ D, decD u = D := ⟨_, rfl⟩
          obtain ⟨X, hX⟩ : ∃ X, decX u = X := ⟨_, rfl⟩
          obtain ⟨B, hBB⟩ : ∃ B, decB u = B := ⟨_, rfl⟩
          rw [hN, hD, hX, hBB] at hT
          have zu : u.size ≤ maxLen := by
            have e1 : (⟨#[100]⟩ : ByteArray).size = 1 := rfl
            have e2 : (⟨#[109]⟩ : ByteArray).size = 1 := rfl
            rw [← hu]; unfold maxLen; (try rw [ByteArray.size_append]); omega
          have C : Hid (∀ w, Calls Tryd.prog 73 #[.string u] w fun e w' => e = .returned (.tuple #[.agg #[.int .i64 N, .int .i64 D], .int .i64 X, .bool B]) ∧ Rel w w') := fun w => by
            have := Decimal_any u w zu
            unfold DecRes at this; rwa [hN, hD, hX, hBB] at this
          clear hN hD hX hBB hE zu
          go_wp2_with fail
          refine (C.out _).mono ?_
          rintro e w3 ⟨rfl, h3⟩
          have q := keep2 h3 (b := w.heap.size) (by first | (simp; done) | (simp; omega) | omega)
          have kc3_0_0 := q.1
          have kc3_0_1 := q.2.1
          have kf3_0_0 := q.2.2.1
          have kf3_0_1 := q.2.2.2.1
          have kl3_0 := q.2.2.2.2.1
          have kn3_0 := q.2.2.2.2.2.1
          have km3_0 := q.2.2.2.2.2.2
          clear q
          have kz3 := h3.size
          (try simp only [World.size_alloc, World.size_setCell, World.size_drew] at kz3)
          have H3 := Lib.hid h3
          clear h3
          cases B
          · have hB := Lib.hid (hT.out.2 (fun h => by cases h.1))
            clear hT
            go_wp2
            refine bodyPost_ret (v := .tuple #[.string ⟨#[]⟩, .bool false]) ?_ rfl (fd_ret_no hB.out ?_)
            · simp [results, Tryd.results65, go_sem]
            · (show Rel _ _; repeat (first | with_reducible exact Rel.refl _ | with_reducible refine Rel.alloc ?_ _ | with_reducible refine Rel.setCell ?_ (by first | (simp; done) | (simp; omega)) _ | with_reducible refine Rel.drew ?_ | with_reducible refine Rel.trans ?_ H3.out | with_reducible refine Rel.trans ?_ H2.out | with_reducible refine Rel.trans ?_ H1.out | with_reducible refine Rel.trans ?_ H0.out))
          · by_cases hv : N = n ∧ D = d
            · obtain ⟨rfl, rfl⟩ := hv
              by_cases hxx : X = 3
              · have hB := Lib.hid (hT.out.1 ⟨rfl, rfl, rfl, hxx⟩)
                subst hxx
                clear hT
                go_wp2
                refine bodyPost_ret (v := .tuple #[.string u, .bool true]) ?_ rfl (fd_ret_yes hB.out.1 hB.out.2 ?_)
                · simp [results, Tryd.results65, go_sem]
                · (show Rel _ _; repeat (first | with_reducible exact Rel.refl _ | with_reducible refine Rel.alloc ?_ _ | with_reducible refine Rel.setCell ?_ (by first | (simp; done) | (simp; omega)) _ | with_reducible refine Rel.drew ?_ | with_reducible refine Rel.trans ?_ H3.out | with_reducible refine Rel.trans ?_ H2.out | with_reducible refine Rel.trans ?_ H1.out | with_reducible refine Rel.trans ?_ H0.out))
              · have hB := Lib.hid (hT.out.2 (fun h => hxx h.2.2.2))
                have hxb : (X != 3) = true := by simpa using hxx
                clear hT
                go_wp2
                refine bodyPost_ret (v := .tuple #[.string ⟨#[]⟩, .bool false]) ?_ rfl (fd_ret_no hB.out ?_)
                · simp [results, Tryd.results65, go_sem]
                · (show Rel _ _; repeat (first | with_reducible exact Rel.refl _ | with_reducible refine Rel.alloc ?_ _ | with_reducible refine Rel.setCell ?_ (by first | (simp; done) | (simp; omega)) _ | with_reducible refine Rel.drew ?_ | with_reducible refine Rel.trans ?_ H3.out | with_reducible refine Rel.trans ?_ H2.out | with_reducible refine Rel.trans ?_ H1.out | with_reducible refine Rel.trans ?_ H0.out))
            · have hB := Lib.hid (hT.out.2 (fun h => hv ⟨h.2.1, h.2.2.1⟩))
              clear hT
              by_cases hn : N = n
              · have hd2 : ¬ D = d := fun h => hv ⟨hn, h⟩
                have hnb : (N == n) = true := by simpa using hn
                have hdb : (D == d) = false := by simpa using hd2
                clear hv
                go_wp2
                refine bodyPost_ret (v := .tuple #[.string ⟨#[]⟩, .bool false]) ?_ rfl (fd_ret_no hB.out ?_)
                · simp [results, Tryd.results65, go_sem]
                · (show Rel _ _; repeat (first | with_reducible exact Rel.refl _ | with_reducible refine Rel.alloc ?_ _ | with_reducible refine Rel.setCell ?_ (by first | (simp; done) | (simp; omega)) _ | with_reducible refine Rel.drew ?_ | with_reducible refine Rel.trans ?_ H3.out | with_reducible refine Rel.trans ?_ H2.out | with_reducible refine Rel.trans ?_ H1.out | with_reducible refine Rel.trans ?_ H0.out))
              · have hnb : (N == n) = false := by simpa using hn
                clear hv
                go_wp2
                refine bodyPost_ret (v := .tuple #[.string ⟨#[]⟩, .bool false]) ?_ rfl (fd_ret_no hB.out ?_)
                · simp [results, Tryd.results65, go_sem]
                · (show Rel _ _; repeat (first | with_reducible exact Rel.refl _ | with_reducible refine Rel.alloc ?_ _ | with_reducible refine Rel.setCell ?_ (by first | (simp; done) | (simp; omega)) _ | with_reducible refine Rel.drew ?_ | with_reducible refine Rel.trans ?_ H3.out | with_reducible refine Rel.trans ?_ H2.out | with_reducible refine Rel.trans ?_ H1.out | with_reducible refine Rel.trans ?_ H0.out))
        · subst hx
          obtain ⟨u, hu⟩ : ∃ u : ByteArray, (t ++ ⟨#[109]⟩) = u := ⟨_, rfl⟩
          have hT := Lib.hid (fd_test (x := 4) (u := u) hE.out (by rw [← hu]; simp [sufL]))
          obtain ⟨N, hN⟩ : ∃ N, decN u = N := ⟨_, rfl⟩
          obtain ⟨D, hD⟩ : ∃ D, decD u = D := ⟨_, rfl⟩
          obtain ⟨X, hX⟩ : ∃ X, decX u = X := ⟨_, rfl⟩
          obtain ⟨B, hBB⟩ : ∃ B, decB u = B := ⟨_, rfl⟩
          rw [hN, hD, hX, hBB] at hT
          have zu : u.size ≤ maxLen := by
            have e1 : (⟨#[100]⟩ : ByteArray).size = 1 := rfl
            have e2 : (⟨#[109]⟩ : ByteArray).size = 1 := rfl
            rw [← hu]; unfold maxLen; (try rw [ByteArray.size_append]); omega
          have C : Hid (∀ w, Calls Tryd.prog 73 #[.string u] w fun e w' => e = .returned (.tuple #[.agg #[.int .i64 N, .int .i64 D], .int .i64 X, .bool B]) ∧ Rel w w') := fun w => by
            have := Decimal_any u w zu
            unfold DecRes at this; rwa [hN, hD, hX, hBB] at this
          clear hN hD hX hBB hE zu
          go_wp2_with fail
          refine (C.out _).mono ?_
          rintro e w3 ⟨rfl, h3⟩
          have q := keep2 h3 (b := w.heap.size) (by first | (simp; done) | (simp; omega) | omega)
          have kc3_0_0 := q.1
          have kc3_0_1 := q.2.1
          have kf3_0_0 := q.2.2.1
          have kf3_0_1 := q.2.2.2.1
          have kl3_0 := q.2.2.2.2.1
          have kn3_0 := q.2.2.2.2.2.1
          have km3_0 := q.2.2.2.2.2.2
          clear q
          have kz3 := h3.size
          (try simp only [World.size_alloc, World.size_setCell, World.size_drew] at kz3)
          have H3 := Lib.hid h3
          clear h3
          cases B
          · have hB := Lib.hid (hT.out.2 (fun h => by cases h.1))
            clear hT
            go_wp2
            refine bodyPost_ret (v := .tuple #[.string ⟨#[]⟩, .bool false]) ?_ rfl (fd_ret_no hB.out ?_)
            · simp [results, Tryd.results65, go_sem]
            · (show Rel _ _; repeat (first | with_reducible exact Rel.refl _ | with_reducible refine Rel.alloc ?_ _ | with_reducible refine Rel.setCell ?_ (by first | (simp; done) | (simp; omega)) _ | with_reducible refine Rel.drew ?_ | with_reducible refine Rel.trans ?_ H3.out | with_reducible refine Rel.trans ?_ H2.out | with_reducible refine Rel.trans ?_ H1.out | with_reducible refine Rel.trans ?_ H0.out))
          · by_cases hv : N = n ∧ D = d
            · obtain ⟨rfl, rfl⟩ := hv
              by_cases hxx : X = 4
              · have hB := Lib.hid (hT.out.1 ⟨rfl, rfl, rfl, hxx⟩)
                subst hxx
                clear hT
                go_wp2
                refine bodyPost_ret (v := .tuple #[.string u, .bool true]) ?_ rfl (fd_ret_yes hB.out.1 hB.out.2 ?_)
                · simp [results, Tryd.results65, go_sem]
                · (show Rel _ _; repeat (first | with_reducible exact Rel.refl _ | with_reducible refine Rel.alloc ?_ _ | with_reducible refine Rel.setCell ?_ (by first | (simp; done) | (simp; omega)) _ | with_reducible refine Rel.drew ?_ | with_reducible refine Rel.trans ?_ H3.out | with_reducible refine Rel.trans ?_ H2.out | with_reducible refine Rel.trans ?_ H1.out | with_reducible refine Rel.trans ?_ H0.out))
              · have hB := Lib.hid (hT.out.2 (fun h => hxx h.2.2.2))
                have hxb : (X != 4) = true := by simpa using hxx
                clear hT
                go_wp2
                refine bodyPost_ret (v := .tuple #[.string ⟨#[]⟩, .bool false]) ?_ rfl (fd_ret_no hB.out ?_)
                · simp [results, Tryd.results65, go_sem]
                · (show Rel _ _; repeat (first | with_reducible exact Rel.refl _ | with_reducible refine Rel.alloc ?_ _ | with_reducible refine Rel.setCell ?_ (by first | (simp; done) | (simp; omega)) _ | with_reducible refine Rel.drew ?_ | with_reducible refine Rel.trans ?_ H3.out | with_reducible refine Rel.trans ?_ H2.out | with_reducible refine Rel.trans ?_ H1.out | with_reducible refine Rel.trans ?_ H0.out))
            · have hB := Lib.hid (hT.out.2 (fun h => hv ⟨h.2.1, h.2.2.1⟩))
              clear hT
              by_cases hn : N = n
              · have hd2 : ¬ D = d := fun h => hv ⟨hn, h⟩
                have hnb : (N == n) = true := by simpa using hn
                have hdb : (D == d) = false := by simpa using hd2
                clear hv
                go_wp2
                refine bodyPost_ret (v := .tuple #[.string ⟨#[]⟩, .bool false]) ?_ rfl (fd_ret_no hB.out ?_)
                · simp [results, Tryd.results65, go_sem]
                · (show Rel _ _; repeat (first | with_reducible exact Rel.refl _ | with_reducible refine Rel.alloc ?_ _ | with_reducible refine Rel.setCell ?_ (by first | (simp; done) | (simp; omega)) _ | with_reducible refine Rel.drew ?_ | with_reducible refine Rel.trans ?_ H3.out | with_reducible refine Rel.trans ?_ H2.out | with_reducible refine Rel.trans ?_ H1.out | with_reducible refine Rel.trans ?_ H0.out))
              · have hnb : (N == n) = false := by simpa using hn
                clear hv
                go_wp2
                refine bodyPost_ret (v := .tuple #[.string ⟨#[]⟩, .bool false]) ?_ rfl (fd_ret_no hB.out ?_)
                · simp [results, Tryd.results65, go_sem]
                · (show Rel _ _; repeat (first | with_reducible exact Rel.refl _ | with_reducible refine Rel.alloc ?_ _ | with_reducible refine Rel.setCell ?_ (by first | (simp; done) | (simp; omega)) _ | with_reducible refine Rel.drew ?_ | with_reducible refine Rel.trans ?_ H3.out | with_reducible refine Rel.trans ?_ H2.out | with_reducible refine Rel.trans ?_ H1.out | with_reducible refine Rel.trans ?_ H0.out))
        · have hx3' : (x == 3) = false := by rw [beq_eq_false_iff_ne]; exact hx3
          have hx4' : (x == 4) = false := by rw [beq_eq_false_iff_ne]; exact hx4
          obtain ⟨u, hu⟩ : ∃ u : ByteArray, t = u := ⟨_, rfl⟩
          have hT := Lib.hid (fd_test (x := x) (u := u) hE.out (by rw [← hu]; unfold sufL; rw [if_neg hx3, if_neg hx4]; simp))
          obtain ⟨N, hN⟩ : ∃ N, decN u = N := ⟨_, rfl⟩
          obtain ⟨D, hD⟩ : ∃ D, decD u = D := ⟨_, rfl⟩
          obtain ⟨X, hX⟩ : ∃ X, decX u = X := ⟨_, rfl⟩
          obtain ⟨B, hBB⟩ : ∃ B, decB u = B := ⟨_, rfl⟩
          rw [hN, hD, hX, hBB] at hT
          have zu : u.size ≤ maxLen := by
            have e1 : (⟨#[100]⟩ : ByteArray).size = 1 := rfl
            have e2 : (⟨#[109]⟩ : ByteArray).size = 1 := rfl
            rw [← hu]; unfold maxLen; (try rw [ByteArray.size_append]); omega
          have C : Hid (∀ w, Calls Tryd.prog 73 #[.string u] w fun e w' => e = .returned (.tuple #[.agg #[.int .i64 N, .int .i64 D], .int .i64 X, .bool B]) ∧ Rel w w') := fun w => by
            have := Decimal_any u w zu
            unfold DecRes at this; rwa [hN, hD, hX, hBB] at this
          clear hN hD hX hBB hE zu
          go_wp2_with fail
          refine (C.out _).mono ?_
          rintro e w3 ⟨rfl, h3⟩
          have q := keep2 h3 (b := w.heap.size) (by first | (simp; done) | (simp; omega) | omega)
          have kc3_0_0 := q.1
          have kc3_0_1 := q.2.1
          have kf3_0_0 := q.2.2.1
          have kf3_0_1 := q.2.2.2.1
          have kl3_0 := q.2.2.2.2.1
          have kn3_0 := q.2.2.2.2.2.1
          have km3_0 := q.2.2.2.2.2.2
          clear q
          have kz3 := h3.size
          (try simp only [World.size_alloc, World.size_setCell, World.size_drew] at kz3)
          have H3 := Lib.hid h3
          clear h3
          cases B
          · have hB := Lib.hid (hT.out.2 (fun h => by cases h.1))
            clear hT
            go_wp2
            refine bodyPost_ret (v := .tuple #[.string ⟨#[]⟩, .bool false]) ?_ rfl (fd_ret_no hB.out ?_)
            · simp [results, Tryd.results65, go_sem]
            · (show Rel _ _; repeat (first | with_reducible exact Rel.refl _ | with_reducible refine Rel.alloc ?_ _ | with_reducible refine Rel.setCell ?_ (by first | (simp; done) | (simp; omega)) _ | with_reducible refine Rel.drew ?_ | with_reducible refine Rel.trans ?_ H3.out | with_reducible refine Rel.trans ?_ H2.out | with_reducible refine Rel.trans ?_ H1.out | with_reducible refine Rel.trans ?_ H0.out))
          · by_cases hv : N = n ∧ D = d
            · obtain ⟨rfl, rfl⟩ := hv
              by_cases hxx : X = x
              · have hB := Lib.hid (hT.out.1 ⟨rfl, rfl, rfl, hxx⟩)
                subst hxx
                clear hT
                go_wp2
                refine bodyPost_ret (v := .tuple #[.string u, .bool true]) ?_ rfl (fd_ret_yes hB.out.1 hB.out.2 ?_)
                · simp [results, Tryd.results65, go_sem]
                · (show Rel _ _; repeat (first | with_reducible exact Rel.refl _ | with_reducible refine Rel.alloc ?_ _ | with_reducible refine Rel.setCell ?_ (by first | (simp; done) | (simp; omega)) _ | with_reducible refine Rel.drew ?_ | with_reducible refine Rel.trans ?_ H3.out | with_reducible refine Rel.trans ?_ H2.out | with_reducible refine Rel.trans ?_ H1.out | with_reducible refine Rel.trans ?_ H0.out))
              · have hB := Lib.hid (hT.out.2 (fun h => hxx h.2.2.2))
                have hxb : (X != x) = true := by simpa using hxx
                clear hT
                go_wp2
                refine bodyPost_ret (v := .tuple #[.string ⟨#[]⟩, .bool false]) ?_ rfl (fd_ret_no hB.out ?_)
                · simp [results, Tryd.results65, go_sem]
                · (show Rel _ _; repeat (first | with_reducible exact Rel.refl _ | with_reducible refine Rel.alloc ?_ _ | with_reducible refine Rel.setCell ?_ (by first | (simp; done) | (simp; omega)) _ | with_reducible refine Rel.drew ?_ | with_reducible refine Rel.trans ?_ H3.out | with_reducible refine Rel.trans ?_ H2.out | with_reducible refine Rel.trans ?_ H1.out | with_reducible refine Rel.trans ?_ H0.out))
            · have hB := Lib.hid (hT.out.2 (fun h => hv ⟨h.2.1, h.2.2.1⟩))
              clear hT
              by_cases hn : N = n
              · have hd2 : ¬ D = d := fun h => hv ⟨hn, h⟩
                have hnb : (N == n) = true := by simpa using hn
                have hdb : (D == d) = false := by simpa using hd2
                clear hv
                go_wp2
                refine bodyPost_ret (v := .tuple #[.string ⟨#[]⟩, .bool false]) ?_ rfl (fd_ret_no hB.out ?_)
                · simp [results, Tryd.results65, go_sem]
                · (show Rel _ _; repeat (first | with_reducible exact Rel.refl _ | with_reducible refine Rel.alloc ?_ _ | with_reducible refine Rel.setCell ?_ (by first | (simp; done) | (simp; omega)) _ | with_reducible refine Rel.drew ?_ | with_reducible refine Rel.trans ?_ H3.out | with_reducible refine Rel.trans ?_ H2.out | with_reducible refine Rel.trans ?_ H1.out | with_reducible refine Rel.trans ?_ H0.out))
              · have hnb : (N == n) = false := by simpa using hn
                clear hv
                go_wp2
                refine bodyPost_ret (v := .tuple #[.string ⟨#[]⟩, .bool false]) ?_ rfl (fd_ret_no hB.out ?_)
                · simp [results, Tryd.results65, go_sem]
                · (show Rel _ _; repeat (first | with_reducible exact Rel.refl _ | with_reducible refine Rel.alloc ?_ _ | with_reducible refine Rel.setCell ?_ (by first | (simp; done) | (simp; omega)) _ | with_reducible refine Rel.drew ?_ | with_reducible refine Rel.trans ?_ H3.out | with_reducible refine Rel.trans ?_ H2.out | with_reducible refine Rel.trans ?_ H1.out | with_reducible refine Rel.trans ?_ H0.out))
      · have ha : 0 < a := by omega
        have ba : decide (0 < a) = true := decide_eq_true ha
        obtain ⟨c0, c1, m0, m1⟩ := dig_bounds ha a1
        have tq2 : (a * 10).tdiv d = a * 10 / d := Int.tdiv_eq_ediv_of_nonneg (by omega)
        have tr2 : (a * 10).tmod d = a * 10 % d := Int.tmod_eq_emod_of_nonneg (by omega)
        have w10 : IntKind.i64.wrap (a * 10) = a * 10 := IntWalk.i64_in _ ⟨by omega, by omega⟩
        have ww2 : IntKind.i64.wrap (a * 10 / d) = a * 10 / d := IntWalk.i64_in _ ⟨by omega, by omega⟩
        have wr2 : IntKind.i64.wrap (a * 10 % d) = a * 10 % d := IntWalk.i64_in _ ⟨by omega, by omega⟩
        have HW : Hid (Rel w wr) := by
          show Rel _ _
          (show Rel _ _; repeat (first | with_reducible exact Rel.refl _ | with_reducible refine Rel.alloc ?_ _ | with_reducible refine Rel.setCell ?_ (by first | (simp; done) | (simp; omega)) _ | with_reducible refine Rel.drew ?_ | with_reducible refine Rel.trans ?_ H2.out | with_reducible refine Rel.trans ?_ H1.out | with_reducible refine Rel.trans ?_ H0.out))
        by_cases h4 : k = 4
        · subst h4
          have hB := Lib.hid (fdB_no (x := x) (pi_no hP.out ha))
          clear hP
          go_wp2
          refine bodyPost_ret (v := .tuple #[.string ⟨#[]⟩, .bool false]) ?_ rfl (fd_ret_no hB.out ?_)
          · simp [results, Tryd.results65, go_sem]
          · exact HW.out
        · have k4 : ((k : Int) == 4) = false := by rw [beq_eq_false_iff_ne]; omega
          have hk3 : k < 4 := by omega
          by_cases hk0 : k = 0
          · subst hk0
            have P2 := Lib.hid (fun (u : ByteArray) hu => pi_step (u := u) hP.out (by decide) ha a1 hu)
            clear hP
            obtain ⟨b, hb⟩ : ∃ b, a * 10 % d = b := ⟨_, rfl⟩
            obtain ⟨c, hc⟩ : ∃ c, a * 10 / d = c := ⟨_, rfl⟩
            rw [hb] at m0 m1 tr2 wr2 P2
            rw [hc] at c0 c1 tq2 ww2 P2
            clear hb hc
            have zc := numS_size c
            have z46 : (t ++ ⟨#[46]⟩ : ByteArray).size = t.size + 1 := ByteArray.size_append
            have zs : ((t ++ ⟨#[46]⟩) ++ numS c).size = (t ++ ⟨#[46]⟩ : ByteArray).size + (numS c).size := ByteArray.size_append
            have P3 := Lib.hid (P2.out (t ++ ⟨#[46]⟩) (by simp))
            clear P2
            go_wp2_with fail
            refine (itoa_any _ _ (HT.out.rel HW.out) (by omega) (by omega)).mono ?_
            rintro e w3 ⟨rfl, h3⟩
            have q := keep2 h3 (b := w.heap.size) (by first | (simp; done) | (simp; omega) | omega)
            have kc3_0_0 := q.1
            have kc3_0_1 := q.2.1
            have kf3_0_0 := q.2.2.1
            have kf3_0_1 := q.2.2.2.1
            have kl3_0 := q.2.2.2.2.1
            have kn3_0 := q.2.2.2.2.2.1
            have km3_0 := q.2.2.2.2.2.2
            clear q
            have kz3 := h3.size
            (try simp only [World.size_alloc, World.size_setCell, World.size_drew] at kz3)
            have H3 := Lib.hid h3
            clear h3
            go_wp2
            go_roundw
            case rel => exact ⟨1, b, _, by omega, rfl, rfl, rfl, m0, m1, by rw [zs, z46]; omega, P3, H2.out.trans H3.out⟩
            case measure => simp [intOf]
          · have k0 : ((k : Int) == 0) = false := by rw [beq_eq_false_iff_ne]; omega
            have P2 := Lib.hid (pi_step (u := t) hP.out hk3 ha a1 (by rw [if_neg hk0]))
            clear hP
            obtain ⟨b, hb⟩ : ∃ b, a * 10 % d = b := ⟨_, rfl⟩
            obtain ⟨c, hc⟩ : ∃ c, a * 10 / d = c := ⟨_, rfl⟩
            rw [hb] at m0 m1 tr2 wr2 P2
            rw [hc] at c0 c1 tq2 ww2 P2
            clear hb hc
            have zc := numS_size c
            have zs : (t ++ numS c).size = t.size + (numS c).size := ByteArray.size_append
            go_wp2_with fail
            refine (itoa_any _ _ (HT.out.rel HW.out) (by omega) (by omega)).mono ?_
            rintro e w3 ⟨rfl, h3⟩
            have q := keep2 h3 (b := w.heap.size) (by first | (simp; done) | (simp; omega) | omega)
            have kc3_0_0 := q.1
            have kc3_0_1 := q.2.1
            have kf3_0_0 := q.2.2.1
            have kf3_0_1 := q.2.2.2.1
            have kl3_0 := q.2.2.2.2.1
            have kn3_0 := q.2.2.2.2.2.1
            have km3_0 := q.2.2.2.2.2.2
            clear q
            have kz3 := h3.size
            (try simp only [World.size_alloc, World.size_setCell, World.size_drew] at kz3)
            have H3 := Lib.hid h3
            clear h3
            go_wp2
            go_roundw
            case rel => exact ⟨k + 1, b, _, by omega, rfl, rfl, by go_num, m0, m1, by rw [zs]; omega, P2, H2.out.trans H3.out⟩
            case measure => simp [intOf]; omega
  · have hB := Lib.hid (fdB_no (x := x) (fdC_no hg))
    rcases (show d < 1 ∨ (1 ≤ d ∧ 10000 < d) ∨ (1 ≤ d ∧ d ≤ 10000 ∧ n < 0) ∨ (1 ≤ d ∧ d ≤ 10000 ∧ 0 ≤ n ∧ 1000000000000000 < n) by omega) with h | ⟨h, h2⟩ | ⟨h, h2, h3⟩ | ⟨h, h2, h3, h4⟩
    · have b1 : decide (d < 1) = true := decide_eq_true h
      clear hg
      go_enter Tryd.func65, Tryd.ntmps65
      go_wp2
      refine bodyPost_ret (v := .tuple #[.string ⟨#[]⟩, .bool false]) ?_ rfl (fd_ret_no hB.out ?_)
      · simp [results, Tryd.results65, go_sem]
      · (show Rel _ _; repeat (first | with_reducible exact Rel.refl _ | with_reducible refine Rel.alloc ?_ _ | with_reducible refine Rel.setCell ?_ (by first | (simp; done) | (simp; omega)) _ | with_reducible refine Rel.drew ?_ | with_reducible refine Rel.trans ?_ H0.out))
    · have b1 : decide (d < 1) = false := decide_eq_false (by omega)
      have b2 : decide (10000 < d) = true := decide_eq_true h2
      clear hg
      go_enter Tryd.func65, Tryd.ntmps65
      go_wp2
      refine bodyPost_ret (v := .tuple #[.string ⟨#[]⟩, .bool false]) ?_ rfl (fd_ret_no hB.out ?_)
      · simp [results, Tryd.results65, go_sem]
      · (show Rel _ _; repeat (first | with_reducible exact Rel.refl _ | with_reducible refine Rel.alloc ?_ _ | with_reducible refine Rel.setCell ?_ (by first | (simp; done) | (simp; omega)) _ | with_reducible refine Rel.drew ?_ | with_reducible refine Rel.trans ?_ H0.out))
    · have b1 : decide (d < 1) = false := decide_eq_false (by omega)
      have b2 : decide (10000 < d) = false := decide_eq_false (by omega)
      have b3 : decide (n < 0) = true := decide_eq_true h3
      clear hg
      go_enter Tryd.func65, Tryd.ntmps65
      go_wp2
      refine bodyPost_ret (v := .tuple #[.string ⟨#[]⟩, .bool false]) ?_ rfl (fd_ret_no hB.out ?_)
      · simp [results, Tryd.results65, go_sem]
      · (show Rel _ _; repeat (first | with_reducible exact Rel.refl _ | with_reducible refine Rel.alloc ?_ _ | with_reducible refine Rel.setCell ?_ (by first | (simp; done) | (simp; omega)) _ | with_reducible refine Rel.drew ?_ | with_reducible refine Rel.trans ?_ H0.out))
    · have b1 : decide (d < 1) = false := decide_eq_false (by omega)
      have b2 : decide (10000 < d) = false := decide_eq_false (by omega)
      have b3 : decide (n < 0) = false := decide_eq_false (by omega)
      have b4 : decide (1000000000000000 < n) = true := decide_eq_true h4
      clear hg
      go_enter Tryd.func65, Tryd.ntmps65
      go_wp2
      refine bodyPost_ret (v := .tuple #[.string ⟨#[]⟩, .bool false]) ?_ rfl (fd_ret_no hB.out ?_)
      · simp [results, Tryd.results65, go_sem]
      · (show Rel _ _; repeat (first | with_reducible exact Rel.refl _ | with_reducible refine Rel.alloc ?_ _ | with_reducible refine Rel.setCell ?_ (by first | (simp; done) | (simp; omega)) _ | with_reducible refine Rel.drew ?_ | with_reducible refine Rel.trans ?_ H0.out))

end Go.Proofs.YtnhmebhmlbofgaaDoor

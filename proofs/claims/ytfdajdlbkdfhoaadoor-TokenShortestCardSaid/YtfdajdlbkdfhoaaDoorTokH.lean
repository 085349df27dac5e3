/- Contracts of Next of the program and of the reference. No conditions but those printed. -/
import Derived.Test.YtfdajdlbkdfhoaaDoorTokG
namespace Go.Proofs.YtfdajdlbkdfhoaaDoor
open Go.RowKit Cal Str Tok Frac
attribute [local go_sem] calmUpon
set_option linter.unusedVariables false
set_option linter.unusedSimpArgs false

def NxRes (s : ByteArray) (a : Int) (w : World) (e : Ending) (w' : World) : Prop := e = .returned (.tuple #[.agg #[.int .i64 (nxK s a), .string (nxT s a), .int .i64 (nxA s a)], .int .i64 (nxN s a), .int .i64 (nxE s a)]) ∧ Rel w w'
theorem nx_ret {s t : ByteArray} {a k x n c : Int} {w w' : World} (h : nxK s a = k ∧ nxT s a = t ∧ nxA s a = x ∧ nxN s a = n ∧ nxE s a = c) (r : Rel w w') : NxRes s a w (.returned (.tuple #[.agg #[.int .i64 k, .string t, .int .i64 x], .int .i64 n, .int .i64 c])) w' := by
  unfold NxRes; rw [h.1, h.2.1, h.2.2.1, h.2.2.2.1, h.2.2.2.2]; exact ⟨rfl, r⟩

set_option maxHeartbeats 4000000 in
theorem Next_any (s : ByteArray) (a : Int) (w : World) (hs : s.size ≤ 140737488355328) (h0 : -9223372036854775808 ≤ a) (h1 : a ≤ 9223372036854775807) :
    Calls Tryd.prog 33 #[.string s, .int .i64 a] w (NxRes s a w) := by
  by_cases hin : 0 ≤ a ∧ a ≤ s.size
  · obtain ⟨k, rfl⟩ : ∃ k : Nat, a = k := ⟨a.toNat, by omega⟩
    have hk : k ≤ s.size := by omega
    clear hin h0 h1
    obtain ⟨b, hb⟩ : ∃ b, skp s k = b := ⟨_, rfl⟩
    have hbs : b ≤ s.size := by have := (skp_le hk).1; omega
    have SK : Hid (∀ w, Calls Tryd.prog 44 #[.string s, .int .i64 (k : Int)] w fun e w' => e = .returned (.int .i64 (b : Int)) ∧ w = w') := fun w => by
      have := skip_any s k w (by unfold maxLen; omega) hk; rwa [hb] at this
    by_cases he : b = s.size
    · have R := Lib.hid (nx_1 hk (hb.trans he))
      subst he
      clear hb
      go_enter Tryd.func33, Tryd.ntmps33
      go_wp2_with fail
      with_reducible refine (SK.out _).mono ?_
      rintro e w1 ⟨rfl, rfl⟩
      ((try simp only []); (repeat (first | go_values | go_skip | go_guarded | go_step | go_upon | go_in)))
      refine bodyPost_ret (v := .tuple #[.agg #[.int .i64 0, .string ⟨#[]⟩, .int .i64 s.size], .int .i64 s.size, .int .i64 0]) ?_ rfl (nx_ret R.out ?_)
      · simp [results, Tryd.results33, go_sem]
      · (show Rel _ _; repeat (first | with_reducible exact Rel.refl _ | with_reducible refine Rel.alloc ?_ _ | with_reducible refine Rel.setCell ?_ (by first | (simp; done) | (simp; omega)) _ | with_reducible refine Rel.drew ?_ | with_reducible refine Rel.trans ?_ H1.out | with_reducible refine Rel.trans ?_ H0.out))
    · have hbl : b < s.size := by omega
      have hne : ((b : Int) == (s.size : Int)) = false := by simp; omega
      obtain ⟨n, hn⟩ : ∃ n, tokN s b = n := ⟨_, rfl⟩
      obtain ⟨K, hK⟩ : ∃ K, tokK s b = K := ⟨_, rfl⟩
      have hbn : b + n ≤ s.size := by have := tok_le hbl; omega
      have EX : Hid (∀ w, Calls Tryd.prog 45 #[.string s, .int .i64 (b : Int)] w fun e w' => e = .returned (.tuple #[.int .i64 (b + n : Nat), .int .i64 K]) ∧ Rel w w') := fun w => by
        have := extent_any s b w hs hbl; unfold ExtRes at this; rwa [hn, hK] at this
      by_cases hz : K = 0
      · have R := Lib.hid (nx_2 hk hb he (hK.trans hz))
        subst hz
        clear hb hn hK he
        go_enter Tryd.func33, Tryd.ntmps33
        go_wp2_with fail
        with_reducible refine (SK.out _).mono ?_
        rintro e w1 ⟨rfl, rfl⟩
        go_wp2_with fail
        with_reducible refine (EX.out _).mono ?_
        rintro e w1 ⟨rfl, h1⟩
        have q := keep3 h1 (b := w.heap.size) (by first | (simp; done) | (simp; omega) | omega)
        have kc1_0_0 := q.1
        have kc1_0_1 := q.2.1
        have kc1_0_2 := q.2.2.1
        have kf1_0_0 := q.2.2.2.1
        have kf1_0_1 := q.2.2.2.2.1
        have kf1_0_2 := q.2.2.2.2.2.1
        have kl1_0 := q.2.2.2.2.2.2.1
        have kn1_0 := q.2.2.2.2.2.2.2.1
        have km1_0 := q.2.2.2.2.2.2.2.2
        clear q
        have kz1 := h1.size
        (try simp only [World.size_alloc, World.size_setCell, World.size_drew] at kz1)
        have H1 := Lib.hid h1
        clear h1
        ((try simp only []); (repeat (first | go_values | go_skip | go_guarded | go_step | go_upon | go_in)))
        refine bodyPost_ret (v := .tuple #[.agg #[.int .i64 0, .string ⟨#[]⟩, .int .i64 0], .int .i64 b, .int .i64 4]) ?_ rfl (nx_ret R.out ?_)
        · simp [results, Tryd.results33, go_sem, kc1_0_0, kc1_0_1, kc1_0_2]
        · (show Rel _ _; repeat (first | with_reducible exact Rel.refl _ | with_reducible refine Rel.alloc ?_ _ | with_reducible refine Rel.setCell ?_ (by first | (simp; done) | (simp; omega)) _ | with_reducible refine Rel.drew ?_ | with_reducible refine Rel.trans ?_ H1.out | with_reducible refine Rel.trans ?_ H0.out))
      · have R := Lib.hid (nx_3 hk hb he (fun h => hz (hK.symm.trans h)))
        have R2 := R.out
        rw [hn, hK] at R2
        have RR := Lib.hid R2
        have bz : (K == 0) = false := by simpa using hz
        have i1 : ((b + n : Nat) : Int).toNat = b + n := by omega
        clear hb hn hK he hz R R2
        go_enter Tryd.func33, Tryd.ntmps33
        go_wp2_with fail
        with_reducible refine (SK.out _).mono ?_
        rintro e w1 ⟨rfl, rfl⟩
        go_wp2_with fail
        with_reducible refine (EX.out _).mono ?_
        rintro e w1 ⟨rfl, h1⟩
        have q := keep3 h1 (b := w.heap.size) (by first | (simp; done) | (simp; omega) | omega)
        have kc1_0_0 := q.1
        have kc1_0_1 := q.2.1
        have kc1_0_2 := q.2.2.1
        have kf1_0_0 := q.2.2.2.1
        have kf1_0_1 := q.2.2.2.2.1
        have kf1_0_2 := q.2.2.2.2.2.1
        have kl1_0 := q.2.2.2.2.2.2.1
        have kn1_0 := q.2.2.2.2.2.2.2.1
        have km1_0 := q.2.2.2.2.2.2.2.2
        clear q
        have kz1 := h1.size
        (try simp only [World.size_alloc, World.size_setCell, World.size_drew] at kz1)
        have H1 := Lib.hid h1
        clear h1
        go_upto_region 9 with (fail)
        ((try simp only []); (repeat (first | go_values | go_skip | go_guarded | go_step | go_upon | go_in)))
        refine bodyPost_ret (v := .tuple #[.agg #[.int .i64 K, .string (s.extract b (b + n)), .int .i64 b], .int .i64 (b + n : Nat), .int .i64 0]) ?_ rfl (nx_ret RR.out ?_)
        · simp [results, Tryd.results33, go_sem, kc1_0_0, kc1_0_1, kc1_0_2]
        · (show Rel _ _; repeat (first | with_reducible exact Rel.refl _ | with_reducible refine Rel.alloc ?_ _ | with_reducible refine Rel.setCell ?_ (by first | (simp; done) | (simp; omega)) _ | with_reducible refine Rel.drew ?_ | with_reducible refine Rel.trans ?_ H1.out | with_reducible refine Rel.trans ?_ H0.out))
  · have R := Lib.hid (nx_0 (s := s) (a := a) (by omega))
    rcases (show a < 0 ∨ (¬ a < 0 ∧ (s.size : Int) < a) by omega) with hc | ⟨hc, hc2⟩
    all_goals
      clear hin
      go_enter Tryd.func33, Tryd.ntmps33
      go_upto_region 2 with (fail)
      ((try simp only []); (repeat (first | go_values | go_skip | go_guarded | go_step | go_upon | go_in)))
      refine bodyPost_ret (v := .tuple #[.agg #[.int .i64 0, .string ⟨#[]⟩, .int .i64 0], .int .i64 0, .int .i64 1]) ?_ rfl (nx_ret R.out ?_)
      · simp [results, Tryd.results33, go_sem]
      · (show Rel _ _; repeat (first | with_reducible exact Rel.refl _ | with_reducible refine Rel.alloc ?_ _ | with_reducible refine Rel.setCell ?_ (by first | (simp; done) | (simp; omega)) _ | with_reducible refine Rel.drew ?_ | with_reducible refine Rel.trans ?_ H1.out | with_reducible refine Rel.trans ?_ H0.out))

end Go.Proofs.YtfdajdlbkdfhoaaDoor

/- Contract of the reference's Decimal. No conditions but those printed. -/
import Derived.Test.YtfdajdlbkdfhoaaTokC
namespace Go.Proofs.Ytfdajdlbkdfhoaa
open Go.RowKit Cal Str Tok Frac
attribute [local go_sem] calmUpon
set_option linter.unusedVariables false
set_option linter.unusedSimpArgs false

def DecRes (s : ByteArray) (w : World) (e : Ending) (w' : World) : Prop := e = .returned (.tuple #[.agg #[.int .i64 (decN s), .int .i64 (decD s)], .int .i64 (decX s), .bool (decB s)]) ∧ Rel w w'

theorem pow_step (k n : Nat) (h : n ≤ k) : ((10 ^ (k + 1 - n) : Nat) : Int) = ((10 ^ (k - n) : Nat) : Int) * 10 := by
  rw [show k + 1 - n = k - n + 1 by omega, Nat.pow_succ]; push_cast; rfl
theorem pow_bd (k n : Nat) (h : k ≤ n + 4) : 1 ≤ ((10 ^ (k - n) : Nat) : Int) ∧ ((10 ^ (k - n) : Nat) : Int) ≤ 10000 := by
  have h1 : 1 ≤ 10 ^ (k - n) := Nat.one_le_pow _ _ (by decide)
  have h2 := Nat.pow_le_pow_right (n := 10) (by decide) (show k - n ≤ 4 by omega)
  omega
theorem val_le13 (l : List UInt8) (h : allD l = true) (hl : l.length ≤ 13) : 0 ≤ val l ∧ val l ≤ 10000000000000 := by
  have h1 := val_bd l h
  have h2 : 10 ^ l.length ≤ 10 ^ 13 := Nat.pow_le_pow_right (by omega) hl
  omega

set_option maxRecDepth 100000 in
set_option maxHeartbeats 4000000 in
theorem rDecimal_any (s : ByteArray) (w : World) (hs : s.size ≤ maxLen) :
    Calls Try.prog 20 #[.string s] w (DecRes s w) := by
  unfold DecRes
  cases hB : decB s
  · obtain ⟨r1, r2, r3⟩ := dec_no hB
    obtain ⟨r4, r5⟩ := pt_no hB
    rw [r1, r2, r3]
    have C : Hid (∀ w, Calls Try.prog 27 #[.string s] w fun e w' => e = .returned (.tuple #[.string ⟨#[]⟩, .string ⟨#[]⟩, .int .i64 0, .bool false]) ∧ w = w') := fun w => by
      have := parts_any s w hs; unfold PtRes at this; rwa [r4, r5, r3, hB] at this
    clear r1 r2 r3 r4 r5 hB
    go_enter Try.func20, Try.ntmps20
    go_wp2_with (go_at_call 27; refine (C.out _).mono ?_; rintro e w1 ⟨rfl, rfl⟩)
    refine bodyPost_ret ?_ rfl ⟨rfl, ?_⟩
    · simp [results, Try.results20, go_sem]
    (show Rel _ _; repeat (first | with_reducible exact Rel.refl _ | with_reducible refine Rel.alloc ?_ _ | with_reducible refine Rel.setCell ?_ (by first | (simp; done) | (simp; omega)) _ | with_reducible refine Rel.drew ?_ | with_reducible refine Rel.trans ?_ H1.out | with_reducible refine Rel.trans ?_ H0.out))
  · obtain ⟨r1, r2, r3⟩ := dec_yes hB
    obtain ⟨r4, r5⟩ := pt_yes hB
    obtain ⟨a, ha⟩ : ∃ a, ahS (brS s) = a := ⟨_, rfl⟩
    obtain ⟨b, hb⟩ : ∃ b, bhS (brS s) = b := ⟨_, rfl⟩
    obtain ⟨a1, a9, b4, hA, hBb, _⟩ := dec_parts ha hb rfl hB
    obtain ⟨g1, g2, _⟩ := dig_of ha hb
    rw [g1, g2] at r1 r2
    obtain ⟨d, hd⟩ : ∃ d, sufI s = d := ⟨_, rfl⟩
    have C : Hid (∀ w, Calls Try.prog 27 #[.string s] w fun e w' => e = .returned (.tuple #[.string a, .string b, .int .i64 d, .bool true]) ∧ w = w') := fun w => by
      have := parts_any s w hs; unfold PtRes at this; rwa [r4, r5, r3, ha, hb, hB, hd] at this
    rw [r1, r2, r3, hd]
    have hu : (a ++ b).size = a.size + b.size := ByteArray.size_append
    have HU := Lib.hid hu
    have hul : (a ++ b).data.toList = a.data.toList ++ b.data.toList := by simp
    have hall : allD (a ++ b).data.toList = true := by
      rw [hul]; unfold allD at *; rw [List.all_append, hA, hBb]; rfl
    have HALL := Lib.hid hall
    rw [← hul]
    obtain ⟨v0, v1⟩ := val_le13 _ hall (by rw [size_list, hu]; omega)
    obtain ⟨q1, q4⟩ := pow_bd b.size 0 (by omega)
    rw [Nat.sub_zero] at q1 q4
    obtain ⟨N, hN⟩ : ∃ N, mkN (val (a ++ b).data.toList) ((10 ^ b.size : Nat) : Int) = N := ⟨_, rfl⟩
    obtain ⟨D, hD⟩ : ∃ D, mkD (val (a ++ b).data.toList) ((10 ^ b.size : Nat) : Int) = D := ⟨_, rfl⟩
    obtain ⟨E, hE⟩ : ∃ E, mkE (val (a ++ b).data.toList) ((10 ^ b.size : Nat) : Int) = E := ⟨_, rfl⟩
    have M : Hid (∀ w, Calls Try.prog 34 #[.int .i64 (val (a ++ b).data.toList), .int .i64 ((10 ^ b.size : Nat) : Int)] w fun e w' => e = .returned (.tuple #[.agg #[.int .i64 N, .int .i64 D], .int .i64 E]) ∧ Rel w w') := fun w => by
      have := rmake_any (val (a ++ b).data.toList) ((10 ^ b.size : Nat) : Int) w (by omega) (by omega) (by omega) (by omega)
      unfold FrRes at this; rwa [hN, hD, hE] at this
    rw [hN, hD]
    clear r1 r2 r3 r4 r5 hB ha hb hA hBb g1 g2 hd hu hul hall hN hD hE v0 v1 q1 q4
    go_enter Try.func20, Try.ntmps20
    go_wp2_with (go_at_call 27; refine (C.out _).mono ?_; rintro e w1 ⟨rfl, rfl⟩)
    go_loop [9, 10, 11] (fun n q i => ∃ (k : Nat) (x y : Int), k ≤ a.size + b.size ∧ i = .int .i64 k ∧ n = .int .i64 x ∧ q = .int .i64 y ∧ Hid (x = val ((a ++ b).data.toList.take k)) ∧ Hid (y = ((10 ^ (k - a.size) : Nat) : Int))) (fun _ _ i => a.size + b.size - (intOf i).toNat)
    case atStart => exact ⟨0, 0, 1, by omega, rfl, rfl, rfl, rfl, by unfold Hid; simp⟩
    case round =>
      obtain ⟨k, x, y, hk, rfl, rfl, rfl, hx, hy⟩ := hrel
      have hl : ((a ++ b).data.toList.take k).length ≤ k := List.length_take_le _ _
      obtain ⟨v0, v1⟩ := val_le13 _ (allD_take _ k HALL.out) (by omega)
      rw [← hx.out] at v0 v1
      obtain ⟨q1, q4⟩ := pow_bd k a.size (by omega)
      rw [← hy.out] at q1 q4
      by_cases hlt : k < a.size + b.size
      · have hlu : k < (a ++ b).size := by rw [HU.out]; exact hlt
        have hts := Lib.hid (take_snoc (a ++ b) k hlu)
        obtain ⟨c0, c1⟩ := u8_bd ((a ++ b)[k]'hlu)
        have hdg : 48 ≤ (((a ++ b)[k]'hlu).toNat : Int) ∧ (((a ++ b)[k]'hlu).toNat : Int) ≤ 57 := by
          rcases Classical.em (48 ≤ (((a ++ b)[k]'hlu).toNat : Int) ∧ (((a ++ b)[k]'hlu).toNat : Int) ≤ 57) with h | h
          · exact h
          · have := allD_not _ k hlu h; rw [HALL.out] at this; cases this
        obtain ⟨d0, d1⟩ := hdg
        have hx2 : Hid (x * 10 + ((((a ++ b)[k]'hlu).toNat : Int) - 48) = val ((a ++ b).data.toList.take (k + 1))) := by
          show _ = _; rw [hts.out, val_snoc, hx.out]; omega
        by_cases hka : k < a.size
        · have hy2 : Hid (y = ((10 ^ (k + 1 - a.size) : Nat) : Int)) := by
            show _ = _; rw [hy.out, show k - a.size = 0 by omega, show k + 1 - a.size = 0 by omega]
          have ea : (a ++ b)[k]'hlu = a[k]'hka := ByteArray.getElem_append_left hka
          rw [ea] at hx2 d0 d1 c0 c1
          clear ea
          go_wp2
          go_round
          case rel => exact ⟨k + 1, _, _, by omega, by go_num, rfl, rfl, hx2, hy2⟩
          case measure => simp [intOf]; omega
        · have hy2 : Hid (y * 10 = ((10 ^ (k + 1 - a.size) : Nat) : Int)) := by
            show _ = _; rw [hy.out, pow_step k a.size (by omega)]
          go_wp2
          go_round
          case rel => exact ⟨k + 1, _, _, by omega, by go_num, rfl, rfl, hx2, hy2⟩
          case measure => simp [intOf]; omega
      · have hx2 : x = val (a ++ b).data.toList := by rw [hx.out, take_all (a ++ b) k (by rw [HU.out]; omega)]
        have hy2 : y = ((10 ^ b.size : Nat) : Int) := by rw [hy.out, show k - a.size = b.size by omega]
        have M2 : Hid (∀ w, Calls Try.prog 34 #[.int .i64 x, .int .i64 y] w fun e w' => e = .returned (.tuple #[.agg #[.int .i64 N, .int .i64 D], .int .i64 E]) ∧ Rel w w') := fun w => by rw [hx2, hy2]; exact M.out w
        clear hx2 hy2
        go_wp2_with fail
        with_reducible refine (M2.out _).mono ?_
        rintro e w1 ⟨rfl, h1⟩
        have q := keep2 h1 (b := w.heap.size) (by first | (simp; done) | (simp; omega) | omega)
        have kc1_0_0 := q.1
        have kc1_0_1 := q.2.1
        have kf1_0_0 := q.2.2.1
        have kf1_0_1 := q.2.2.2.1
        have kl1_0 := q.2.2.2.2.1
        have kn1_0 := q.2.2.2.2.2.1
        have km1_0 := q.2.2.2.2.2.2
        clear q
        have kz1 := h1.size
        (try simp only [World.size_alloc, World.size_setCell, World.size_drew] at kz1)
        have H1 := Lib.hid h1
        clear h1
        go_wp2
        refine bodyPost_ret ?_ rfl ⟨rfl, ?_⟩
        · simp [results, Try.results20, go_sem, kc1_0_0, kc1_0_1, kl1_0, kn1_0, km1_0]
        (show Rel _ _; repeat (first | with_reducible exact Rel.refl _ | with_reducible refine Rel.alloc ?_ _ | with_reducible refine Rel.setCell ?_ (by first | (simp; done) | (simp; omega)) _ | with_reducible refine Rel.drew ?_ | with_reducible refine Rel.trans ?_ H1.out | with_reducible refine Rel.trans ?_ H0.out))

end Go.Proofs.Ytfdajdlbkdfhoaa

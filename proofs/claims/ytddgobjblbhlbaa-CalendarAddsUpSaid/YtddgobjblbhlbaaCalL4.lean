/- The walks of CalendarAddsUp and CalendarComplete: for every argument the law returns true and nothing that was there has turned. No conditions but the integers' bounds. -/
import Derived.Test.YtddgobjblbhlbaaCalH
namespace Go.Proofs.Ytddgobjblbhlbaa
open Go.RowKit Cal
set_option linter.unusedVariables false

theorem add28 {d n : Int} (hok : addOkB d n = true) (h : dD d ≤ 28) : vdayB (addN d n) = true ∧ monI (addN d n) = monI d + n ∧ dD (addN d n) = dD d := by
  have ha := addN_yes hok
  simp [addOkB, addB] at hok
  obtain ⟨⟨hv, h0, h1⟩, hm⟩ := hok
  obtain ⟨_, _, _, _, t0, t1⟩ := date_bd hv
  have hm' := (vmonB_iff _).1 hm
  rw [mstN_yes hm, mdyN_yes hm] at ha
  have b := nlen_bd (monI d + n).toNat
  have b2 := msum_bd (monI d + n).toNat
  have hl := msum_lt (show (monI d + n).toNat < 2400 by omega)
  rw [msum_end] at hl
  have e := monOf_eq (addN d n) (monI d + n).toNat (by omega) (by omega) (by omega)
  have hv2 : vdayB (addN d n) = true := (vdayB_iff _).2 (by omega)
  refine ⟨hv2, ?_, ?_⟩
  · rw [monI_yes hv2, e]; omega
  · rw [dD_yes hv2, e]; omega

theorem addOk_in {d n : Int} (hv : vdayB d = true) (h0 : -2399 ≤ n) (h1 : n ≤ 2399) : addOkB d n = vmonB (monI d + n) := by
  unfold addOkB addB; simp [hv, h0, h1]
theorem addN_28 {d n : Int} (hv : vdayB d = true) (h : dD d ≤ 28) (h0 : -2399 ≤ n) (h1 : n ≤ 2399) : addN d n = if vmonB (monI d + n) = true then mstN (monI d + n) + dD d - 1 else 0 := by
  cases hm : vmonB (monI d + n)
  · rw [addN_no (by rw [addOk_in hv h0 h1, hm])]; simp
  · rw [addN_yes (by rw [addOk_in hv h0 h1, hm])]
    have := nlen_bd (monI d + n).toNat
    have e := mdyN_yes hm
    rw [if_pos rfl]; omega

theorem adds_facts {d j k : Int} (hok : addOkB d j = true) (h : dD d ≤ 28) (hj : -300 ≤ j ∧ j < 300) (hk : -300 ≤ k ∧ k < 300) :
    addOkB (addN d j) k = addOkB d (j + k) ∧ addN (addN d j) k = addN d (j + k) ∧ addOkB (addN d j) (-j) = true ∧ addN (addN d j) (-j) = d ∧ monI (addN d j) = monI d + j := by
  obtain ⟨v, m, e⟩ := add28 hok h
  have hok' := hok
  simp [addOkB, addB] at hok'
  obtain ⟨⟨hv, h0, h1⟩, hm⟩ := hok'
  have hs := monOf_spec d hv
  have hmd : vmonB (monI d) = true := (vmonB_iff _).2 (by rw [monI_yes hv]; omega)
  refine ⟨?_, ?_, ?_, ?_, m⟩
  · rw [addOk_in v (by omega) (by omega), addOk_in hv (by omega) (by omega), m, Int.add_assoc]
  · rw [addN_28 (d := addN d j) v (by omega) (by omega) (by omega), m, e, addN_28 (n := j + k) hv h (by omega) (by omega), Int.add_assoc]
  · rw [addOk_in v (by omega) (by omega), m, show monI d + j + -j = monI d by omega]; exact hmd
  · rw [addN_28 (d := addN d j) v (by omega) (by omega) (by omega), m, e, show monI d + j + -j = monI d by omega, if_pos hmd, mstN_yes hmd, dD_yes hv, monI_yes hv]
    simp; omega

set_option maxHeartbeats 1000000 in
theorem walk_CalendarAddsUp (a0 : Int) (a1 : Int) (a2 : Int) (b0 : -9223372036854775808 ≤ a0) (c0 : a0 ≤ 9223372036854775807) (b1 : -9223372036854775808 ≤ a1) (c1 : a1 ≤ 9223372036854775807) (b2 : -9223372036854775808 ≤ a2) (c2 : a2 ≤ 9223372036854775807) (w : World) :
    Calls Try.prog 14 #[.int .i64 a0, .int .i64 a1, .int .i64 a2] w fun e w' => e = .returned (.bool true) ∧ Below w.heap.size w w' := by
  clear b0 c0 b1 c1 b2 c2
  obtain ⟨d, hd⟩ : ∃ d, d = a0 % 73049 := ⟨_, rfl⟩
  obtain ⟨p, hp⟩ : ∃ x, x = a1 % 600 := ⟨_, rfl⟩
  obtain ⟨q, hq⟩ : ∃ x, x = a2 % 600 := ⟨_, rfl⟩
  have hv : vdayB d = true := (vdayB_iff d).2 (by omega)
  have k0 : 0 ≤ p ∧ p < 600 := by omega
  have k1 : 0 ≤ q ∧ q < 600 := by omega
  have hD := Lib.hid hd
  have HP := Lib.hid hp
  have HQ := Lib.hid hq
  clear hd hp hq
  obtain ⟨_, _, _, _, t0, t1⟩ := date_bd hv
  have t2 := mlen_bd (dY d) (dM d)
  by_cases h28 : 28 < dD d
  · go_enter Try.func14, Try.ntmps14
    go_wp2_with (first | (go_at_call 17; refine (Pick_any _ _ _ (by omega) (by omega)).mono ?_; (first | rw [← hD.out] | rw [← HP.out] | rw [← HQ.out]); rintro e w1 ⟨rfl, rfl⟩) | (go_at_call 25; refine (Date_any _ _).mono ?_; rintro e w1 ⟨rfl, hb1⟩) | (go_at_call 37; refine (AddMonths_any _ _ _).mono ?_; rintro e w1 ⟨rfl, hb2⟩) | (go_at_call 20; refine (awake_any _).mono ?_; rintro e w1 ⟨rfl, hb3⟩))
    go_ret
    exact ⟨ret_b (by first | rfl | (simp; omega)), below_seq (below_seq (by assumption) (by assumption)) hb3⟩
  · have h28' : dD d ≤ 28 := by omega
    cases hok : addOkB d (p - 300)
    · go_enter Try.func14, Try.ntmps14
      go_wp2_with (first | (go_at_call 17; refine (Pick_any _ _ _ (by omega) (by omega)).mono ?_; (first | rw [← hD.out] | rw [← HP.out] | rw [← HQ.out]); rintro e w1 ⟨rfl, rfl⟩) | (go_at_call 25; refine (Date_any _ _).mono ?_; rintro e w1 ⟨rfl, hb1⟩) | (go_at_call 37; refine (AddMonths_any _ _ _).mono ?_; rintro e w1 ⟨rfl, hb2⟩) | (go_at_call 20; refine (awake_any _).mono ?_; rintro e w1 ⟨rfl, hb3⟩))
      go_ret
      exact ⟨ret_b (by first | rfl | (simp; omega)), below_seq (below_seq (by assumption) (by assumption)) hb3⟩
    · obtain ⟨f1, f2, f3, f4, f5⟩ := adds_facts (k := q - 300) hok h28' (by omega) (by omega)
      have g1 : (addOkB (addN d (p - 300)) (q - 300) == addOkB d (p - 300 + (q - 300))) = true := by simpa using f1
      have g2 : (addN (addN d (p - 300)) (q - 300) == addN d (p - 300 + (q - 300))) = true := by simpa using f2
      have g4 : (addN (addN d (p - 300)) (-(p - 300)) == d) = true := by simpa using f4
      have g5 : (monI (addN d (p - 300)) == monI d + (p - 300)) = true := by simpa using f5
      clear f1 f2 f4 f5
      obtain ⟨m0, m1⟩ := monI_bd d
      go_enter Try.func14, Try.ntmps14
      go_wp2_with (first | (go_at_call 17; refine (Pick_any _ _ _ (by omega) (by omega)).mono ?_; (first | rw [← hD.out] | rw [← HP.out] | rw [← HQ.out]); rintro e w1 ⟨rfl, rfl⟩) | (go_at_call 25; refine (Date_any _ _).mono ?_; rintro e w1 ⟨rfl, hb1⟩) | (go_at_call 37; refine (AddMonths_any _ _ _).mono ?_; rintro e w1 ⟨rfl, hb2⟩) | (go_at_call 20; refine (awake_any _).mono ?_; rintro e w1 ⟨rfl, hb3⟩) | (go_at_call 31; refine (Month_any _ _).mono ?_; rintro e w1 ⟨rfl, hb4⟩))
      go_ret
      exact ⟨ret_b (by first | rfl | (simp; omega)), (by repeat (first | with_reducible exact Below.refl _ _ | with_reducible assumption | refine below_seq ?_ (by with_reducible assumption)))⟩

theorem complete_next {a b : Int} (h : ageB a b = true) (h1 : ageB a (b + 1) = true) : ageN a (b + 1) = ageN a b ∨ ageN a (b + 1) = ageN a b + 1 := by
  obtain ⟨p1, p2, p3⟩ := age_char h
  obtain ⟨q1, q2, q3⟩ := age_char h1
  obtain ⟨_, n0, _⟩ := (bdB_iff _ _).1 p1
  obtain ⟨_, n1, _⟩ := (bdB_iff _ _).1 q1
  have c1 : ageN a b ≤ ageN a (b + 1) := by
    by_cases c : ageN a b ≤ ageN a (b + 1)
    · exact c
    · have hB := bd_before p1 (show 0 ≤ ageN a (b + 1) + 1 by omega) (by omega)
      have := q3 hB
      have := bd_le hB p1 (by omega)
      omega
  have c2 : ageN a (b + 1) ≤ ageN a b + 1 := by
    by_cases c : ageN a (b + 1) ≤ ageN a b + 1
    · exact c
    · have hB := bd_before q1 (show 0 ≤ ageN a b + 1 by omega) (by omega)
      have := p3 hB
      have := bd_lt hB q1 (by omega)
      omega
  omega

theorem complete_k {a b k : Int} (h : ageB a b = true) (hk : bdB a k = true) : bdN a k ≤ b ↔ k ≤ ageN a b := by
  obtain ⟨p1, p2, p3⟩ := age_char h
  obtain ⟨_, n0, _⟩ := (bdB_iff _ _).1 p1
  constructor
  · intro hle
    by_cases c : k ≤ ageN a b
    · exact c
    · have hB := bd_before hk (show 0 ≤ ageN a b + 1 by omega) (by omega)
      have := p3 hB
      have := bd_le hB hk (by omega)
      omega
  · intro hle
    have := bd_le hk p1 hle
    omega

/-- What the law asks of two days in order, said of plain numbers. -/
theorem complete_facts {a b k : Int} (va : vdayB a = true) (vb : vdayB b = true) (hab : a ≤ b) :
    0 ≤ ageN a b ∧ ageN a b ≤ 200 ∧ bdB a (ageN a b) = true ∧ bdN a (ageN a b) ≤ b ∧ (bdB a (ageN a b + 1) = false ∨ (bdB a (ageN a b + 1) = true ∧ b < bdN a (ageN a b + 1))) ∧
    (bdB a k = false ∨ (bdB a k = true ∧ decide (bdN a k ≤ b) = true ∧ decide (k ≤ ageN a b) = true) ∨ (bdB a k = true ∧ decide (bdN a k ≤ b) = false ∧ decide (k ≤ ageN a b) = false)) ∧
    (((b == 73048) = true ∧ (ageN a (b + 1) == -1) = true) ∨ ((b == 73048) = false ∧ (ageN a (b + 1) == ageN a b) = true) ∨ ((b == 73048) = false ∧ (ageN a (b + 1) == ageN a b) = false ∧ (ageN a (b + 1) == ageN a b + 1) = true)) := by
  have h : ageB a b = true := (ageB_iff a b).2 ⟨va, vb, hab⟩
  obtain ⟨p1, p2, p3⟩ := age_char h
  obtain ⟨_, n0, n1⟩ := (bdB_iff _ _).1 p1
  have hd := date_bd va
  refine ⟨n0, by omega, p1, p2, ?_, ?_, ?_⟩
  · cases hB : bdB a (ageN a b + 1)
    · exact .inl rfl
    · exact .inr ⟨rfl, p3 hB⟩
  · cases hB : bdB a k
    · exact .inl rfl
    · have := complete_k h hB
      by_cases c : k ≤ ageN a b
      · exact .inr (.inl ⟨rfl, by simpa using this.2 c, by simpa using c⟩)
      · exact .inr (.inr ⟨rfl, by simp; omega, by simp; omega⟩)
  · have hb := (vdayB_iff b).1 vb
    by_cases e : b = 73048
    · have hn : ageB a (b + 1) = false := by
        cases h1 : ageB a (b + 1)
        · rfl
        · have := (vdayB_iff _).1 ((ageB_iff _ _).1 h1).2.1; omega
      exact .inl ⟨by simp [e], by simp [ageN_no hn]⟩
    · have h1 : ageB a (b + 1) = true := (ageB_iff _ _).2 ⟨va, (vdayB_iff _).2 (by omega), by omega⟩
      have hc := complete_next h h1
      by_cases c : ageN a (b + 1) = ageN a b
      · exact .inr (.inl ⟨by simp [e], by simp [c]⟩)
      · exact .inr (.inr ⟨by simp [e], by simp [c], by simp; omega⟩)

set_option maxHeartbeats 8000000 in
theorem walk_CalendarComplete (a0 : Int) (a1 : Int) (a2 : Int) (b0 : -9223372036854775808 ≤ a0) (c0 : a0 ≤ 9223372036854775807) (b1 : -9223372036854775808 ≤ a1) (c1 : a1 ≤ 9223372036854775807) (b2 : -9223372036854775808 ≤ a2) (c2 : a2 ≤ 9223372036854775807) (w : World) :
    Calls Try.prog 12 #[.int .i64 a0, .int .i64 a1, .int .i64 a2] w fun e w' => e = .returned (.bool true) ∧ Below w.heap.size w w' := by
  clear b0 c0 b1 c1 b2 c2
  obtain ⟨p, hp⟩ : ∃ d, d = a0 % 73049 := ⟨_, rfl⟩
  obtain ⟨q, hq⟩ : ∃ x, x = a1 % 73049 := ⟨_, rfl⟩
  obtain ⟨k, hk⟩ : ∃ x, x = a2 % 200 := ⟨_, rfl⟩
  have vp : vdayB p = true := (vdayB_iff _).2 (by omega)
  have vq : vdayB q = true := (vdayB_iff _).2 (by omega)
  have HP := Lib.hid hp
  have HQ := Lib.hid hq
  have HK := Lib.hid hk
  have p0 : 0 ≤ p ∧ p ≤ 73048 := by omega
  have q0 : 0 ≤ q ∧ q ≤ 73048 := by omega
  have r0 : 0 ≤ k ∧ k < 200 := by omega
  clear hp hq hk
  by_cases hpq : q < p
  · obtain ⟨f1, f2, f3, f4, f5, f6, f7⟩ := complete_facts (k := k) vq vp (by omega)
    rcases f5 with f5 | ⟨f5, f5'⟩
    all_goals rcases f6 with f6 | ⟨f6, f6', f6''⟩ | ⟨f6, f6', f6''⟩
    all_goals rcases f7 with ⟨f7, f7'⟩ | ⟨f7, f7'⟩ | ⟨f7, f7', f7''⟩
    all_goals
      go_enter Try.func12, Try.ntmps12
      go_wp2_with (first | (go_at_call 17; refine (Pick_any _ _ _ (by omega) (by omega)).mono ?_; (first | rw [← HP.out] | rw [← HQ.out] | rw [← HK.out]); rintro e w1 ⟨rfl, rfl⟩) | (go_at_call 35; refine (Age_any _ _ _).mono ?_; rintro e w1 ⟨rfl, hb1⟩) | (go_at_call 27; refine (Birthday_any _ _ _ (by omega) (by omega)).mono ?_; rintro e w1 ⟨rfl, hb2⟩) | (go_at_call 20; refine (awake_any _).mono ?_; rintro e w1 ⟨rfl, hb3⟩))
      go_ret
      exact ⟨ret_b (by first | rfl | (simp; omega)), (by repeat (first | with_reducible exact Below.refl _ _ | with_reducible assumption | refine below_seq ?_ (by with_reducible assumption)))⟩
  · obtain ⟨f1, f2, f3, f4, f5, f6, f7⟩ := complete_facts (k := k) vp vq (by omega)
    rcases f5 with f5 | ⟨f5, f5'⟩
    all_goals rcases f6 with f6 | ⟨f6, f6', f6''⟩ | ⟨f6, f6', f6''⟩
    all_goals rcases f7 with ⟨f7, f7'⟩ | ⟨f7, f7'⟩ | ⟨f7, f7', f7''⟩
    all_goals
      go_enter Try.func12, Try.ntmps12
      go_wp2_with (first | (go_at_call 17; refine (Pick_any _ _ _ (by omega) (by omega)).mono ?_; (first | rw [← HP.out] | rw [← HQ.out] | rw [← HK.out]); rintro e w1 ⟨rfl, rfl⟩) | (go_at_call 35; refine (Age_any _ _ _).mono ?_; rintro e w1 ⟨rfl, hb1⟩) | (go_at_call 27; refine (Birthday_any _ _ _ (by omega) (by omega)).mono ?_; rintro e w1 ⟨rfl, hb2⟩) | (go_at_call 20; refine (awake_any _).mono ?_; rintro e w1 ⟨rfl, hb3⟩))
      go_ret
      exact ⟨ret_b (by first | rfl | (simp; omega)), (by repeat (first | with_reducible exact Below.refl _ _ | with_reducible assumption | refine below_seq ?_ (by with_reducible assumption)))⟩

end Go.Proofs.Ytddgobjblbhlbaa

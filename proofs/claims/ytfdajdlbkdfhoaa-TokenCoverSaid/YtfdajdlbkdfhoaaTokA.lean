/- Contracts of the small functions of token and of the reference: bytes, words, blanks. No conditions but those printed. -/
import Derived.Test.YtfdajdlbkdfhoaaCalT
import Derived.Test.YtfdajdlbkdfhoaaTokPlain
namespace Go.Proofs.Ytfdajdlbkdfhoaa
open Go.RowKit Cal Str Tok
set_option linter.unusedVariables false

theorem u8_bd (c : UInt8) : 0 ≤ (c.toNat : Int) ∧ (c.toNat : Int) ≤ 255 := ⟨by omega, by have := c.toNat_lt; omega⟩

theorem lower_any (c : UInt8) (w : World) :
    Calls Try.prog 30 #[.int .u8 (c.toNat : Int)] w fun e w' => e = .returned (.bool (low c)) ∧ w = w' := by
  obtain ⟨c0, c1⟩ := u8_bd c
  by_cases h1 : 97 ≤ (c.toNat : Int) <;> by_cases h2 : (c.toNat : Int) ≤ 122
  all_goals
    go_enter Try.func30, Try.ntmps30
    go_wp2
    go_ret
    exact ⟨ret_b (by simp [low]; omega), rfl⟩
theorem letter_any (c : UInt8) (w : World) :
    Calls Try.prog 24 #[.int .u8 (c.toNat : Int)] w fun e w' => e = .returned (.bool (low c)) ∧ w = w' := by
  obtain ⟨c0, c1⟩ := u8_bd c
  by_cases h1 : 97 ≤ (c.toNat : Int) <;> by_cases h2 : (c.toNat : Int) ≤ 122
  all_goals
    go_enter Try.func24, Try.ntmps24
    go_wp2
    go_ret
    exact ⟨ret_b (by simp [low]; omega), rfl⟩
theorem digit_any (c : UInt8) (w : World) :
    Calls Try.prog 35 #[.int .u8 (c.toNat : Int)] w fun e w' => e = .returned (.bool (dgb c)) ∧ w = w' := by
  obtain ⟨c0, c1⟩ := u8_bd c
  by_cases h1 : 48 ≤ (c.toNat : Int) <;> by_cases h2 : (c.toNat : Int) ≤ 57
  all_goals
    go_enter Try.func35, Try.ntmps35
    go_wp2
    go_ret
    exact ⟨ret_b (by simp [dgb]; omega), rfl⟩
theorem rdigit_any (c : UInt8) (w : World) :
    Calls Try.prog 26 #[.int .u8 (c.toNat : Int)] w fun e w' => e = .returned (.bool (dgb c)) ∧ w = w' := by
  obtain ⟨c0, c1⟩ := u8_bd c
  by_cases h1 : 48 ≤ (c.toNat : Int) <;> by_cases h2 : (c.toNat : Int) ≤ 57
  all_goals
    go_enter Try.func26, Try.ntmps26
    go_wp2
    go_ret
    exact ⟨ret_b (by simp [dgb]; omega), rfl⟩
theorem inWord_any (c : UInt8) (w : World) :
    Calls Try.prog 31 #[.int .u8 (c.toNat : Int)] w fun e w' => e = .returned (.bool (inw c)) ∧ w = w' := by
  obtain ⟨c0, c1⟩ := u8_bd c
  have hi : Hid (inw c = (low c || (dgb c || ((c.toNat : Int) == 95)))) := rfl
  cases hl : low c <;> cases hd : dgb c
  all_goals
    go_enter Try.func31, Try.ntmps31
    go_wp2_with (first | (go_at_call 30; refine (lower_any _ _).mono ?_; rintro e w1 ⟨rfl, rfl⟩) | (go_at_call 35; refine (digit_any _ _).mono ?_; rintro e w1 ⟨rfl, rfl⟩))
    go_ret
    exact ⟨ret_b (by rw [hi.out, hl, hd]; rfl), rfl⟩

set_option maxHeartbeats 1000000 in
theorem IsWord_any (s : ByteArray) (w : World) (hs : s.size ≤ maxLen) :
    Calls Try.prog 17 #[.string s] w fun e w' => e = .returned (.bool (wordB s)) ∧ w = w' := by
  unfold maxLen at hs
  by_cases h0 : s.size < 1
  · have hn : Hid (wordB s = false) := wordB_short h0
    go_enter Try.func17, Try.ntmps17
    go_wp2
    go_ret
    exact ⟨ret_b hn.out.symm, rfl⟩
  · by_cases h12 : 12 < s.size
    · have hn : Hid (wordB s = false) := wordB_long h12
      go_enter Try.func17, Try.ntmps17
      go_wp2
      go_ret
      exact ⟨ret_b hn.out.symm, rfl⟩
    · have hp : 0 < s.size := by omega
      have hlen : (s.size : Int) ≤ 12 := by omega
      cases hl : low (s[0]'hp)
      · have hn : Hid (wordB s = false) := wordB_head hp hl
        go_enter Try.func17, Try.ntmps17
        go_wp2_with (go_at_call 30; refine (lower_any _ _).mono ?_; rintro e w1 ⟨rfl, rfl⟩)
        go_ret
        exact ⟨ret_b hn.out.symm, rfl⟩
      · have hh := Lib.hid hl
        go_enter Try.func17, Try.ntmps17
        go_wp2_with (go_at_call 30; refine (lower_any _ _).mono ?_; rintro e w1 ⟨rfl, rfl⟩)
        go_loop [3] (fun i => ∃ k : Nat, k ≤ s.size ∧ i = .int .i64 k ∧ Hid ((s.data.toList.take k).all inw = true)) (fun i => s.size - (intOf i).toNat)
        case atStart => exact ⟨0, by omega, rfl, rfl⟩
        case round =>
          obtain ⟨k, hk, rfl, hA⟩ := hrel
          clear hl
          by_cases hlt : k < s.size
          · have hts := Lib.hid (take_snoc s k hlt)
            cases hi : inw s[k]
            · have hn : Hid (wordB s = false) := wordB_byte hlt hi
              go_wp2_with (go_at_call 31; refine (inWord_any _ _).mono ?_; rintro e w1 ⟨rfl, rfl⟩)
              go_ret
              exact ⟨ret_b hn.out.symm, rfl⟩
            · have hA2 : Hid ((s.data.toList.take (k + 1)).all inw = true) := by
                show _ = _; rw [hts.out, List.all_append, hA.out]; simp [hi]
              go_wp2_with (go_at_call 31; refine (inWord_any _ _).mono ?_; rintro e w1 ⟨rfl, rfl⟩)
              go_round
              case rel => exact ⟨k + 1, by omega, by go_num, hA2⟩
              case measure => simp [intOf]; omega
          · have hn : Hid (wordB s = true) := wordB_all hp (by omega) hh.out (by have := hA.out; rwa [take_all s k (by omega)] at this)
            go_wp2
            go_ret
            exact ⟨ret_b hn.out.symm, rfl⟩

set_option maxHeartbeats 1000000 in
theorem rIsWord_any (s : ByteArray) (w : World) (hs : s.size ≤ maxLen) :
    Calls Try.prog 18 #[.string s] w fun e w' => e = .returned (.bool (wordB s)) ∧ w = w' := by
  unfold maxLen at hs
  go_enter Try.func18, Try.ntmps18
  go_wp2
  go_loop [3] (fun i => ∃ k : Nat, k ≤ s.size ∧ i = .int .i64 k ∧ Hid (okL (s.data.toList.take k) = true)) (fun i => s.size - (intOf i).toNat)
  case atStart => exact ⟨0, by omega, rfl, rfl⟩
  case round =>
    obtain ⟨k, hk, rfl, hA⟩ := hrel
    by_cases hlt : k < s.size
    · obtain ⟨c0, c1⟩ := u8_bd s[k]
      cases hl : low s[k]
      · by_cases hk0 : k = 0
        · have hn : Hid (wordB s = false) := by subst hk0; exact wordB_head hlt hl
          subst hk0
          go_wp2_with (go_at_call 24; refine (letter_any _ _).mono ?_; rintro e w1 ⟨rfl, rfl⟩)
          go_ret
          exact ⟨ret_b hn.out.symm, rfl⟩
        · have k0 : ((k : Int) == 0) = false := by simpa using hk0
          cases hd : dgb s[k]
          · by_cases h95 : (s[k].toNat : Int) = 95
            · have hA2 : Hid (okL (s.data.toList.take (k + 1)) = true) := okL_step hlt hA.out (by simp [inw, h95]) (by omega)
              have e1 : ((s[k].toNat : Int) != 95) = false := by simpa using h95
              clear h95
              go_wp2_with (first | (go_at_call 24; refine (letter_any _ _).mono ?_; rintro e w1 ⟨rfl, rfl⟩) | (go_at_call 26; refine (rdigit_any _ _).mono ?_; rintro e w1 ⟨rfl, rfl⟩))
              go_round
              case rel => exact ⟨k + 1, by omega, by go_num, hA2⟩
              case measure => simp [intOf]; omega
            · have hn : Hid (wordB s = false) := wordB_byte hlt (by simp [inw, hl, hd, h95])
              have e1 : ((s[k].toNat : Int) != 95) = true := by simpa using h95
              go_wp2_with (first | (go_at_call 24; refine (letter_any _ _).mono ?_; rintro e w1 ⟨rfl, rfl⟩) | (go_at_call 26; refine (rdigit_any _ _).mono ?_; rintro e w1 ⟨rfl, rfl⟩))
              go_ret
              exact ⟨ret_b hn.out.symm, rfl⟩
          · have hA2 : Hid (okL (s.data.toList.take (k + 1)) = true) := okL_step hlt hA.out (by simp [inw, hd]) (by omega)
            go_wp2_with (first | (go_at_call 24; refine (letter_any _ _).mono ?_; rintro e w1 ⟨rfl, rfl⟩) | (go_at_call 26; refine (rdigit_any _ _).mono ?_; rintro e w1 ⟨rfl, rfl⟩))
            go_round
            case rel => exact ⟨k + 1, by omega, by go_num, hA2⟩
            case measure => simp [intOf]; omega
      · have hA2 : Hid (okL (s.data.toList.take (k + 1)) = true) := okL_low hlt hA.out hl
        go_wp2_with (go_at_call 24; refine (letter_any _ _).mono ?_; rintro e w1 ⟨rfl, rfl⟩)
        go_round
        case rel => exact ⟨k + 1, by omega, by go_num, hA2⟩
        case measure => simp [intOf]; omega
    · have hok : okL s.data.toList = true := by have := hA.out; rwa [take_all s k (by omega)] at this
      have hn := Lib.hid (wordB_ok hok)
      clear hok
      rcases (show (1 ≤ s.size ∧ s.size ≤ 12) ∨ ¬ 1 ≤ s.size ∨ (1 ≤ s.size ∧ ¬ s.size ≤ 12) by omega) with ⟨h1, h12⟩ | h1 | ⟨h1, h12⟩
      all_goals
        go_wp2
        go_ret
        exact ⟨ret_b (by rw [hn.out]; first | rfl | (rw [Bool.eq_iff_iff]; simp; omega) | (rw [Bool.eq_iff_iff]; simp [*]; done) | (rw [Bool.eq_iff_iff]; simp [*]; omega)), rfl⟩

set_option maxHeartbeats 1000000 in
theorem rskip_any (s : ByteArray) (a : Nat) (w : World) (hs : s.size ≤ maxLen) (ha : a ≤ s.size) :
    Calls Try.prog 23 #[.string s, .int .i64 (a : Int)] w fun e w' => e = .returned (.int .i64 (skp s a : Nat)) ∧ w = w' := by
  unfold maxLen at hs
  go_enter Try.func23, Try.ntmps23
  go_wp2
  go_loop [1, 5] (fun i c => ∃ (k : Nat) (b : Bool), k ≤ s.size ∧ i = .int .i64 k ∧ c = .bool b ∧ Hid (k + skl b (s.data.toList.drop k) = skp s a)) (fun i _ => s.size - (intOf i).toNat)
  case atStart => exact ⟨a, false, ha, rfl, rfl, rfl⟩
  case round =>
    obtain ⟨k, b, hk, rfl, rfl, hA⟩ := hrel
    by_cases hlt : k < s.size
    · obtain ⟨c0, c1⟩ := u8_bd s[k]
      have hdr := Lib.hid (drop_cons s k hlt)
      by_cases h10 : (s[k].toNat : Int) = 10
      · have hA2 : Hid (k + 1 + skl false (s.data.toList.drop (k + 1)) = skp s a) := by
          have := hA.out; rw [hdr.out, skl_10 _ _ h10] at this; show _ = _; omega
        go_wp2
        go_round
        case rel => exact ⟨k + 1, false, by omega, by go_num, rfl, hA2⟩
        case measure => simp [intOf]; omega
      · by_cases h35 : (s[k].toNat : Int) = 35
        · have hA2 : Hid (k + 1 + skl true (s.data.toList.drop (k + 1)) = skp s a) := by
            have := hA.out; rw [hdr.out, skl_35 _ _ h35] at this; show _ = _; omega
          go_wp2
          go_round
          case rel => exact ⟨k + 1, true, by omega, by go_num, rfl, hA2⟩
          case measure => simp [intOf]; omega
        · cases b
          · by_cases hb : (s[k].toNat : Int) = 9 ∨ (s[k].toNat : Int) = 13 ∨ (s[k].toNat : Int) = 32
            · have hA2 : Hid (k + 1 + skl false (s.data.toList.drop (k + 1)) = skp s a) := by
                have := hA.out; rw [hdr.out, skl_bl _ _ hb] at this; show _ = _; omega
              rcases hb with hb | hb | hb
              all_goals
                go_wp2
                go_round
                case rel => exact ⟨k + 1, false, by omega, by go_num, rfl, hA2⟩
                case measure => simp [intOf]; omega
            · have hz : Hid (k = skp s a) := by
                have := hA.out; rw [hdr.out, skl_no _ h10 h35 hb] at this; exact this
              have n9 : ((s[k].toNat : Int) != 9) = true := by simp; omega
              have n13 : ((s[k].toNat : Int) != 13) = true := by simp; omega
              have n32 : ((s[k].toNat : Int) != 32) = true := by simp; omega
              go_wp2
              go_ret
              exact ⟨ret_i (by rw [← hz.out]), rfl⟩
          · have hA2 : Hid (k + 1 + skl true (s.data.toList.drop (k + 1)) = skp s a) := by
              have := hA.out; rw [hdr.out, skl_in _ h10] at this; show _ = _; omega
            go_wp2
            go_round
            case rel => exact ⟨k + 1, true, by omega, by go_num, rfl, hA2⟩
            case measure => simp [intOf]; omega
    · have hz : Hid (k = skp s a) := by
        have := hA.out; rw [drop_end s k (by omega), skl_nil] at this; exact this
      go_wp2
      go_ret
      exact ⟨ret_i (by rw [← hz.out]), rfl⟩

set_option maxHeartbeats 1000000 in
theorem skip_any (s : ByteArray) (a : Nat) (w : World) (hs : s.size ≤ maxLen) (ha : a ≤ s.size) :
    Calls Try.prog 21 #[.string s, .int .i64 (a : Int)] w fun e w' => e = .returned (.int .i64 (skp s a : Nat)) ∧ w = w' := by
  unfold maxLen at hs
  go_enter Try.func21, Try.ntmps21
  go_wp2
  go_step3
  go_wp2
  go_step3
  go_wp2
  go_loop [1] (fun i => ∃ (k : Nat), k ≤ s.size ∧ i = .int .i64 k ∧ Hid (k + skl false (s.data.toList.drop k) = skp s a)) (fun i => s.size - (intOf i).toNat)
  case atStart => exact ⟨a, ha, rfl, rfl⟩
  case round =>
    obtain ⟨k, hk, rfl, hA⟩ := hrel
    by_cases hlt : k < s.size
    · obtain ⟨c0, c1⟩ := u8_bd s[k]
      have hdr := Lib.hid (drop_cons s k hlt)
      by_cases hb : (s[k].toNat : Int) = 32 ∨ (s[k].toNat : Int) = 9 ∨ (s[k].toNat : Int) = 10 ∨ (s[k].toNat : Int) = 13
      · have hA2 : Hid (k + 1 + skl false (s.data.toList.drop (k + 1)) = skp s a) := by
          have h := hA.out
          rw [hdr.out] at h
          rcases hb with hb | hb | hb | hb
          · rw [skl_bl _ _ (by omega)] at h; show _ = _; omega
          · rw [skl_bl _ _ (by omega)] at h; show _ = _; omega
          · rw [skl_10 _ _ hb] at h; show _ = _; omega
          · rw [skl_bl _ _ (by omega)] at h; show _ = _; omega
        rcases hb with hb | hb | hb | hb
        all_goals
          go_wp2
          go_round
          case rel => exact ⟨k + 1, by omega, by go_num, hA2⟩
          case measure => simp [intOf]; omega
      · have n9 : ((s[k].toNat : Int) == 9) = false := by simp; omega
        have n10 : ((s[k].toNat : Int) == 10) = false := by simp; omega
        have n13 : ((s[k].toNat : Int) == 13) = false := by simp; omega
        have n32 : ((s[k].toNat : Int) == 32) = false := by simp; omega
        by_cases h35 : (s[k].toNat : Int) = 35
        · have hA3 : Hid (k + skl true (s.data.toList.drop k) = skp s a) := by
            have h := hA.out
            rw [hdr.out, skl_35 _ _ h35] at h
            show _ = _
            rw [hdr.out, skl_35 _ _ h35]; exact h
          have h35' := Lib.hid h35
          go_wp2
          go_loop [1] (fun i => ∃ (j : Nat), k ≤ j ∧ j ≤ s.size ∧ i = .int .i64 j ∧ Hid (j + skl true (s.data.toList.drop j) = skp s a)) (fun i => s.size - (intOf i).toNat)
          case atStart => exact ⟨k, by omega, by omega, rfl, hA3⟩
          case round =>
            obtain ⟨j, hkj, hj, rfl, hB⟩ := hrel
            clear h35
            by_cases hjl : j < s.size
            · obtain ⟨e0, e1⟩ := u8_bd s[j]
              have hdj := Lib.hid (drop_cons s j hjl)
              by_cases h10 : (s[j].toNat : Int) = 10
              · have hA2 : Hid (j + skl false (s.data.toList.drop j) = skp s a) := by
                  have h := hB.out
                  rw [hdj.out, skl_10 _ _ h10] at h
                  show _ = _
                  rw [hdj.out, skl_10 _ _ h10]; exact h
                have hne : k ≠ j := fun h => by subst h; have := h35'.out; omega
                go_wp2
                go_round
                case rel => exact ⟨j, by omega, rfl, hA2⟩
                case measure => simp [intOf]; omega
              · have hB2 : Hid (j + 1 + skl true (s.data.toList.drop (j + 1)) = skp s a) := by
                  have h := hB.out
                  rw [hdj.out, skl_in _ h10] at h
                  show _ = _; omega
                have m10 : ((s[j].toNat : Int) != 10) = true := by simp; omega
                go_wp2
                go_round
                case rel => exact ⟨j + 1, by omega, by omega, by go_num, hB2⟩
                case measure => simp [intOf]; omega
            · have hA2 : Hid (j + skl false (s.data.toList.drop j) = skp s a) := by
                have h := hB.out
                rw [drop_end s j (by omega), skl_nil] at h
                show _ = _
                rw [drop_end s j (by omega), skl_nil]; exact h
              go_wp2
              go_round
              case rel => exact ⟨j, by omega, rfl, hA2⟩
              case measure => simp [intOf]; omega
        · have n35 : ((s[k].toNat : Int) == 35) = false := by simp; omega
          have hz : Hid (k = skp s a) := by
            have := hA.out; rw [hdr.out, skl_no _ (by omega) h35 (by omega)] at this; exact this
          go_wp2
          (try rw [Exit.noGoto_ret])
          go_ret
          exact ⟨ret_i (by rw [← hz.out]), rfl⟩
    · have hz : Hid (k = skp s a) := by
        have := hA.out; rw [drop_end s k (by omega), skl_nil] at this; exact this
      go_wp2
      (try rw [Exit.noGoto_ret])
      go_ret
      exact ⟨ret_i (by rw [← hz.out]), rfl⟩

end Go.Proofs.Ytfdajdlbkdfhoaa

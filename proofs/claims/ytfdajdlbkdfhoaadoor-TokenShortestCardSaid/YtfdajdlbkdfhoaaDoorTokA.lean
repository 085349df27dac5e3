/- Contracts of the small functions of token and of the reference: bytes, words, blanks. No conditions but those printed. -/
import Derived.Test.YtfdajdlbkdfhoaaDoorCalT
import Derived.Test.YtfdajdlbkdfhoaaDoorTokPlain
namespace Go.Proofs.YtfdajdlbkdfhoaaDoor
open Go.RowKit Cal Str Tok
set_option linter.unusedVariables false

theorem u8_bd (c : UInt8) : 0 ≤ (c.toNat : Int) ∧ (c.toNat : Int) ≤ 255 := ⟨by omega, by have := c.toNat_lt; omega⟩

theorem lower_any (c : UInt8) (w : World) :
    Calls Tryd.prog 57 #[.int .u8 (c.toNat : Int)] w fun e w' => e = .returned (.bool (low c)) ∧ w = w' := by
  obtain ⟨c0, c1⟩ := u8_bd c
  by_cases h1 : 97 ≤ (c.toNat : Int) <;> by_cases h2 : (c.toNat : Int) ≤ 122
  all_goals
    go_enter Tryd.func57, Tryd.ntmps57
    go_wp2
    go_ret
    exact ⟨ret_b (by simp [low]; omega), rfl⟩
theorem digit_any (c : UInt8) (w : World) :
    Calls Tryd.prog 35 #[.int .u8 (c.toNat : Int)] w fun e w' => e = .returned (.bool (dgb c)) ∧ w = w' := by
  obtain ⟨c0, c1⟩ := u8_bd c
  by_cases h1 : 48 ≤ (c.toNat : Int) <;> by_cases h2 : (c.toNat : Int) ≤ 57
  all_goals
    go_enter Tryd.func35, Tryd.ntmps35
    go_wp2
    go_ret
    exact ⟨ret_b (by simp [dgb]; omega), rfl⟩
theorem inWord_any (c : UInt8) (w : World) :
    Calls Tryd.prog 58 #[.int .u8 (c.toNat : Int)] w fun e w' => e = .returned (.bool (inw c)) ∧ w = w' := by
  obtain ⟨c0, c1⟩ := u8_bd c
  have hi : Hid (inw c = (low c || (dgb c || ((c.toNat : Int) == 95)))) := rfl
  cases hl : low c <;> cases hd : dgb c
  all_goals
    go_enter Tryd.func58, Tryd.ntmps58
    go_wp2_with (first | (go_at_call 57; refine (lower_any _ _).mono ?_; rintro e w1 ⟨rfl, rfl⟩) | (go_at_call 35; refine (digit_any _ _).mono ?_; rintro e w1 ⟨rfl, rfl⟩))
    go_ret
    exact ⟨ret_b (by rw [hi.out, hl, hd]; rfl), rfl⟩

set_option maxHeartbeats 1000000 in
theorem skip_any (s : ByteArray) (a : Nat) (w : World) (hs : s.size ≤ maxLen) (ha : a ≤ s.size) :
    Calls Tryd.prog 44 #[.string s, .int .i64 (a : Int)] w fun e w' => e = .returned (.int .i64 (skp s a : Nat)) ∧ w = w' := by
  unfold maxLen at hs
  go_enter Tryd.func44, Tryd.ntmps44
  go_wp2
  go_step3
  go_wp2
  go_step3
  go_wp2
  go_loop [1] (fun i => ∃ (k : Nat), k ≤ s.size ∧ i = .int .i64 k ∧ Hid (k + skl false (s.data.toList.drop k) = skp s a)) (fun i => s.size - (intOf i).toNat)
  case atStart => exact ⟨a, ha, rfl, rfl⟩
  case round =>
    obtain ⟨k, hk, rfl, hA⟩ := hrel
    by_cases hlt : k < s.size
    · obtain ⟨c0, c1⟩ := u8_bd s[k]
      have hdr := Lib.hid (drop_cons s k hlt)
      by_cases hb : (s[k].toNat : Int) = 32 ∨ (s[k].toNat : Int) = 9 ∨ (s[k].toNat : Int) = 10 ∨ (s[k].toNat : Int) = 13
      · have hA2 : Hid (k + 1 + skl false (s.data.toList.drop (k + 1)) = skp s a) := by
          have h := hA.out
          rw [hdr.out] at h
          rcases hb with hb | hb | hb | hb
          · rw [skl_bl _ _ (by omega)] at h; show _ = _; omega
          · rw [skl_bl _ _ (by omega)] at h; show _ = _; omega
          · rw [skl_10 _ _ hb] at h; show _ = _; omega
          · rw [skl_bl _ _ (by omega)] at h; show _ = _; omega
        rcases hb with hb | hb | hb | hb
        all_goals
          go_wp2
          go_round
          case rel => exact ⟨k + 1, by omega, by go_num, hA2⟩
          case measure => simp [intOf]; omega
      · have n9 : ((s[k].toNat : Int) == 9) = false := by simp; omega
        have n10 : ((s[k].toNat : Int) == 10) = false := by simp; omega
        have n13 : ((s[k].toNat : Int) == 13) = false := by simp; omega
        have n32 : ((s[k].toNat : Int) == 32) = false := by simp; omega
        by_cases h35 : (s[k].toNat : Int) = 35
        · have hA3 : Hid (k + skl true (s.data.toList.drop k) = skp s a) := by
            have h := hA.out
            rw [hdr.out, skl_35 _ _ h35] at h
            show _ = _
            rw [hdr.out, skl_35 _ _ h35]; exact h
          have h35' := Lib.hid h35
          go_wp2
          go_loop [1] (fun i => ∃ (j : Nat), k ≤ j ∧ j ≤ s.size ∧ i = .int .i64 j ∧ Hid (j + skl true (s.data.toList.drop j) = skp s a)) (fun i => s.size - (intOf i).toNat)
          case atStart => exact ⟨k, by omega, by omega, rfl, hA3⟩
          case round =>
            obtain ⟨j, hkj, hj, rfl, hB⟩ := hrel
            clear h35
            by_cases hjl : j < s.size
            · obtain ⟨e0, e1⟩ := u8_bd s[j]
              have hdj := Lib.hid (drop_cons s j hjl)
              by_cases h10 : (s[j].toNat : Int) = 10
              · have hA2 : Hid (j + skl false (s.data.toList.drop j) = skp s a) := by
                  have h := hB.out
                  rw [hdj.out, skl_10 _ _ h10] at h
                  show _ = _
                  rw [hdj.out, skl_10 _ _ h10]; exact h
                have hne : k ≠ j := fun h => by subst h; have := h35'.out; omega
                go_wp2
                go_round
                case rel => exact ⟨j, by omega, rfl, hA2⟩
                case measure => simp [intOf]; omega
              · have hB2 : Hid (j + 1 + skl true (s.data.toList.drop (j + 1)) = skp s a) := by
                  have h := hB.out
                  rw [hdj.out, skl_in _ h10] at h
                  show _ = _; omega
                have m10 : ((s[j].toNat : Int) != 10) = true := by simp; omega
                go_wp2
                go_round
                case rel => exact ⟨j + 1, by omega, by omega, by go_num, hB2⟩
                case measure => simp [intOf]; omega
            · have hA2 : Hid (j + skl false (s.data.toList.drop j) = skp s a) := by
                have h := hB.out
                rw [drop_end s j (by omega), skl_nil] at h
                show _ = _
                rw [drop_end s j (by omega), skl_nil]; exact h
              go_wp2
              go_round
              case rel => exact ⟨j, by omega, rfl, hA2⟩
              case measure => simp [intOf]; omega
        · have n35 : ((s[k].toNat : Int) == 35) = false := by simp; omega
          have hz : Hid (k = skp s a) := by
            have := hA.out; rw [hdr.out, skl_no _ (by omega) h35 (by omega)] at this; exact this
          go_wp2
          (try rw [Exit.noGoto_ret])
          go_ret
          exact ⟨ret_i (by rw [← hz.out]), rfl⟩
    · have hz : Hid (k = skp s a) := by
        have := hA.out; rw [drop_end s k (by omega), skl_nil] at this; exact this
      go_wp2
      (try rw [Exit.noGoto_ret])
      go_ret
      exact ⟨ret_i (by rw [← hz.out]), rfl⟩

end Go.Proofs.YtfdajdlbkdfhoaaDoor

/- Contracts of the small functions of token and of the reference: bytes, words, blanks. No conditions but those printed. -/
import Derived.Test.YtnhmebhmlbofgaaDoorCalT
import Derived.Test.YtnhmebhmlbofgaaDoorTokPlain
namespace Go.Proofs.YtnhmebhmlbofgaaDoor
open Go.RowKit Cal Str Tok
set_option linter.unusedVariables false

theorem u8_bd (c : UInt8) : 0 ≤ (c.toNat : Int) ∧ (c.toNat : Int) ≤ 255 := ⟨by omega, by have := c.toNat_lt; omega⟩

theorem lower_any (c : UInt8) (w : World) :
    Calls Tryd.prog 81 #[.int .u8 (c.toNat : Int)] w fun e w' => e = .returned (.bool (low c)) ∧ w = w' := by
  obtain ⟨c0, c1⟩ := u8_bd c
  by_cases h1 : 97 ≤ (c.toNat : Int) <;> by_cases h2 : (c.toNat : Int) ≤ 122
  all_goals
    go_enter Tryd.func81, Tryd.ntmps81
    go_wp2
    go_ret
    exact ⟨ret_b (by simp [low]; omega), rfl⟩
theorem letter_any (c : UInt8) (w : World) :
    Calls Tryd.prog 62 #[.int .u8 (c.toNat : Int)] w fun e w' => e = .returned (.bool (low c)) ∧ w = w' := by
  obtain ⟨c0, c1⟩ := u8_bd c
  by_cases h1 : 97 ≤ (c.toNat : Int) <;> by_cases h2 : (c.toNat : Int) ≤ 122
  all_goals
    go_enter Tryd.func62, Tryd.ntmps62
    go_wp2
    go_ret
    exact ⟨ret_b (by simp [low]; omega), rfl⟩
theorem digit_any (c : UInt8) (w : World) :
    Calls Tryd.prog 86 #[.int .u8 (c.toNat : Int)] w fun e w' => e = .returned (.bool (dgb c)) ∧ w = w' := by
  obtain ⟨c0, c1⟩ := u8_bd c
  by_cases h1 : 48 ≤ (c.toNat : Int) <;> by_cases h2 : (c.toNat : Int) ≤ 57
  all_goals
    go_enter Tryd.func86, Tryd.ntmps86
    go_wp2
    go_ret
    exact ⟨ret_b (by simp [dgb]; omega), rfl⟩
theorem rdigit_any (c : UInt8) (w : World) :
    Calls Tryd.prog 63 #[.int .u8 (c.toNat : Int)] w fun e w' => e = .returned (.bool (dgb c)) ∧ w = w' := by
  obtain ⟨c0, c1⟩ := u8_bd c
  by_cases h1 : 48 ≤ (c.toNat : Int) <;> by_cases h2 : (c.toNat : Int) ≤ 57
  all_goals
    go_enter Tryd.func63, Tryd.ntmps63
    go_wp2
    go_ret
    exact ⟨ret_b (by simp [dgb]; omega), rfl⟩
theorem inWord_any (c : UInt8) (w : World) :
    Calls Tryd.prog 82 #[.int .u8 (c.toNat : Int)] w fun e w' => e = .returned (.bool (inw c)) ∧ w = w' := by
  obtain ⟨c0, c1⟩ := u8_bd c
  have hi : Hid (inw c = (low c || (dgb c || ((c.toNat : Int) == 95)))) := rfl
  cases hl : low c <;> cases hd : dgb c
  all_goals
    go_enter Tryd.func82, Tryd.ntmps82
    go_wp2_with (first | (go_at_call 81; refine (lower_any _ _).mono ?_; rintro e w1 ⟨rfl, rfl⟩) | (go_at_call 86; refine (digit_any _ _).mono ?_; rintro e w1 ⟨rfl, rfl⟩))
    go_ret
    exact ⟨ret_b (by rw [hi.out, hl, hd]; rfl), rfl⟩

set_option maxHeartbeats 1000000 in
theorem IsWord_any (s : ByteArray) (w : World) (hs : s.size ≤ maxLen) :
    Calls Tryd.prog 74 #[.string s] w fun e w' => e = .returned (.bool (wordB s)) ∧ w = w' := by
  unfold maxLen at hs
  by_cases h0 : s.size < 1
  · have hn : Hid (wordB s = false) := wordB_short h0
    go_enter Tryd.func74, Tryd.ntmps74
    go_wp2
    go_ret
    exact ⟨ret_b hn.out.symm, rfl⟩
  · by_cases h12 : 12 < s.size
    · have hn : Hid (wordB s = false) := wordB_long h12
      go_enter Tryd.func74, Tryd.ntmps74
      go_wp2
      go_ret
      exact ⟨ret_b hn.out.symm, rfl⟩
    · have hp : 0 < s.size := by omega
      have hlen : (s.size : Int) ≤ 12 := by omega
      cases hl : low (s[0]'hp)
      · have hn : Hid (wordB s = false) := wordB_head hp hl
        go_enter Tryd.func74, Tryd.ntmps74
        go_wp2_with (go_at_call 81; refine (lower_any _ _).mono ?_; rintro e w1 ⟨rfl, rfl⟩)
        go_ret
        exact ⟨ret_b hn.out.symm, rfl⟩
      · have hh := Lib.hid hl
        go_enter Tryd.func74, Tryd.ntmps74
        go_wp2_with (go_at_call 81; refine (lower_any _ _).mono ?_; rintro e w1 ⟨rfl, rfl⟩)
        go_loop [3] (fun i => ∃ k : Nat, k ≤ s.size ∧ i = .int .i64 k ∧ Hid ((s.data.toList.take k).all inw = true)) (fun i => s.size - (intOf i).toNat)
        case atStart => exact ⟨0, by omega, rfl, rfl⟩
        case round =>
          obtain ⟨k, hk, rfl, hA⟩ := hrel
          clear hl
          by_cases hlt : k < s.size
          · have hts := Lib.hid (take_snoc s k hlt)
            cases hi : inw s[k]
            · have hn : Hid (wordB s = false) := wordB_byte hlt hi
              go_wp2_with (go_at_call 82; refine (inWord_any _ _).mono ?_; rintro e w1 ⟨rfl, rfl⟩)
              go_ret
              exact ⟨ret_b hn.out.symm, rfl⟩
            · have hA2 : Hid ((s.data.toList.take (k + 1)).all inw = true) := by
                show _ = _; rw [hts.out, List.all_append, hA.out]; simp [hi]
              go_wp2_with (go_at_call 82; refine (inWord_any _ _).mono ?_; rintro e w1 ⟨rfl, rfl⟩)
              go_round
              case rel => exact ⟨k + 1, by omega, by go_num, hA2⟩
              case measure => simp [intOf]; omega
          · have hn : Hid (wordB s = true) := wordB_all hp (by omega) hh.out (by have := hA.out; rwa [take_all s k (by omega)] at this)
            go_wp2
            go_ret
            exact ⟨ret_b hn.out.symm, rfl⟩

set_option maxHeartbeats 1000000 in
theorem rIsWord_any (s : ByteArray) (w : World) (hs : s.size ≤ maxLen) :
    Calls Tryd.prog 52 #[.string s] w fun e w' => e = .returned (.bool (wordB s)) ∧ w = w' := by
  unfold maxLen at hs
  go_enter Tryd.func52, Tryd.ntmps52
  go_wp2
  go_loop [3] (fun i => ∃ k : Nat, k ≤ s.size ∧ i = .int .i64 k ∧ Hid (okL (s.data.toList.take k) = true)) (fun i => s.size - (intOf i).toNat)
  case atStart => exact ⟨0, by omega, rfl, rfl⟩
  case round =>
    obtain ⟨k, hk, rfl, hA⟩ := hrel
    by_cases hlt : k < s.size
    · obtain ⟨c0, c1⟩ := u8_bd s[k]
      cases hl : low s[k]
      · by_cases hk0 : k = 0
        · have hn : Hid (wordB s = false) := by subst hk0; exact wordB_head hlt hl
          subst hk0
          go_wp2_with (go_at_call 62; refine (letter_any _ _).mono ?_; rintro e w1 ⟨rfl, rfl⟩)
          go_ret
          exact ⟨ret_b hn.out.symm, rfl⟩
        · have k0 : ((k : Int) == 0) = false := by simpa using hk0
          cases hd : dgb s[k]
          · by_cases h95 : (s[k].toNat : Int) = 95
            · have hA2 : Hid (okL (s.data.toList.take (k + 1)) = true) := okL_step hlt hA.out (by simp [inw, h95]) (by omega)
              have e1 : ((s[k].toNat : Int) != 95) = false := by simpa using h95
              clear h95
              go_wp2_with (first | (go_at_call 62; refine (letter_any _ _).mono ?_; rintro e w1 ⟨rfl, rfl⟩) | (go_at_call 63; refine (rdigit_any _ _).mono ?_; rintro e w1 ⟨rfl, rfl⟩))
              go_round
              case rel => exact ⟨k + 1, by omega, by go_num, hA2⟩
              case measure => simp [intOf]; omega
            · have hn : Hid (wordB s = false) := wordB_byte hlt (by simp [inw, hl, hd, h95])
              have e1 : ((s[k].toNat : Int) != 95) = true := by simpa using h95
              go_wp2_with (first | (go_at_call 62; refine (letter_any _ _).mono ?_; rintro e w1 ⟨rfl, rfl⟩) | (go_at_call 63; refine (rdigit_any _ _).mono ?_; rintro e w1 ⟨rfl, rfl⟩))
              go_ret
              exact ⟨ret_b hn.out.symm, rfl⟩
          · have hA2 : Hid (okL (s.data.toList.take (k + 1)) = true) := okL_step hlt hA.out (by simp [inw, hd]) (by omega)
            go_wp2_with (first | (go_at_call 62; refine (letter_any _ _).mono ?_; rintro e w1 ⟨rfl, rfl⟩) | (go_at_call 63; refine (rdigit_any _ _).mono ?_; rintro e w1 ⟨rfl, rfl⟩))
            go_round
            case rel => exact ⟨k + 1, by omega, by go_num, hA2⟩
            case measure => simp [intOf]; omega
      · have hA2 : Hid (okL (s.data.toList.take (k + 1)) = true) := okL_low hlt hA.out hl
        go_wp2_with (go_at_call 62; refine (letter_any _ _).mono ?_; rintro e w1 ⟨rfl, rfl⟩)
        go_round
        case rel => exact ⟨k + 1, by omega, by go_num, hA2⟩
        case measure => simp [intOf]; omega
    · have hok : okL s.data.toList = true := by have := hA.out; rwa [take_all s k (by omega)] at this
      have hn := Lib.hid (wordB_ok hok)
      clear hok
      rcases (show (1 ≤ s.size ∧ s.size ≤ 12) ∨ ¬ 1 ≤ s.size ∨ (1 ≤ s.size ∧ ¬ s.size ≤ 12) by omega) with ⟨h1, h12⟩ | h1 | ⟨h1, h12⟩
      all_goals
        go_wp2
        go_ret
        exact ⟨ret_b (by rw [hn.out]; first | rfl | (rw [Bool.eq_iff_iff]; simp; omega) | (rw [Bool.eq_iff_iff]; simp [*]; done) | (rw [Bool.eq_iff_iff]; simp [*]; omega)), rfl⟩

end Go.Proofs.YtnhmebhmlbofgaaDoor

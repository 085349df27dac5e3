/- Contracts of run, sign and extent. No conditions but those printed. -/
import Derived.Test.YtfdajdlbkdfhoaaTokE
import Derived.Test.YtfdajdlbkdfhoaaTokSpec
namespace Go.Proofs.Ytfdajdlbkdfhoaa
open Go.RowKit Cal Str Tok Frac
attribute [local go_sem] calmUpon
set_option linter.unusedVariables false
set_option linter.unusedSimpArgs false

def clsB (p : Bool) (c : UInt8) : Bool := if p = true then inn c else inw c
theorem clsB_low {p : Bool} {c : UInt8} (h : low c = true) : clsB p c = true := by unfold clsB inn inw; rw [h]; simp
theorem clsB_dgb {p : Bool} {c : UInt8} (h : dgb c = true) : clsB p c = true := by unfold clsB inn inw; rw [h]; simp
theorem clsB_95 {p : Bool} {c : UInt8} (h : ((c.toNat : Int) == 95) = true) : clsB p c = true := by unfold clsB inn inw; rw [h]; simp
theorem clsB_no {c : UInt8} (h1 : low c = false) (h2 : dgb c = false) (h3 : ((c.toNat : Int) == 95) = false) : clsB false c = false ∧ clsB true c = ((c.toNat : Int) == 46) := by unfold clsB inn inw; rw [h1, h2, h3]; simp

set_option maxHeartbeats 2000000 in
theorem run_any (s : ByteArray) (a : Nat) (p : Bool) (w : World) (hs : s.size ≤ 140737488355328) (ha : a ≤ s.size) :
    Calls Try.prog 25 #[.string s, .int .i64 (a : Int), .bool p] w fun e w' => e = .returned (.int .i64 (rn (clsB p) (s.data.toList.drop a) : Nat)) ∧ w = w' := by
  go_enter Try.func25, Try.ntmps25
  go_wp2
  go_loop [7] (fun n => ∃ k : Nat, a + k ≤ s.size ∧ n = .int .i64 k ∧ Hid (k + rn (clsB p) (s.data.toList.drop (a + k)) = rn (clsB p) (s.data.toList.drop a))) (fun n => s.size - (a + (intOf n).toNat))
  case atStart => exact ⟨0, by omega, rfl, by show _ = _; rw [Nat.zero_add]; rfl⟩
  case round =>
    obtain ⟨k, hk, rfl, hA⟩ := hrel
    have i2 : ((a : Int) + (k : Int)).toNat = a + k := by omega
    by_cases hlt : a + k < s.size
    · have hdr := Lib.hid (drop_cons s (a + k) hlt)
      have hlt' : (a : Int) + (k : Int) < (s.size : Int) := by omega
      have hst : ∀ c, Hid (clsB p s[a + k] = c) → (c = true → Hid (k + 1 + rn (clsB p) (s.data.toList.drop (a + (k + 1))) = rn (clsB p) (s.data.toList.drop a))) ∧ (c = false → Hid (k = rn (clsB p) (s.data.toList.drop a))) := fun c hc => ⟨fun h => by
          have h2 := hA.out
          rw [hdr.out, rn_yes _ (hc.out.trans h)] at h2
          show _ = _
          rw [← Nat.add_assoc a k 1]; omega, fun h => by
          have h2 := hA.out
          rw [hdr.out, rn_no _ (hc.out.trans h)] at h2
          exact h2⟩
      have HST := Lib.hid hst
      clear hst
      cases hl : low s[a + k]
      · cases hd : dgb s[a + k]
        · cases h95 : ((s[a + k].toNat : Int) == 95)
          · obtain ⟨z1, z2⟩ := clsB_no hl hd h95
            cases p
            · have hz := (HST.out false z1).2 rfl
              clear z1 z2
              go_wp2_with (first | (go_at_call 24; refine (letter_any _ _).mono ?_; rintro e w1 ⟨rfl, rfl⟩) | (go_at_call 26; refine (rdigit_any _ _).mono ?_; rintro e w1 ⟨rfl, rfl⟩))
              go_ret
              exact ⟨ret_i (by rw [← hz.out]), rfl⟩
            · cases h46 : ((s[a + k].toNat : Int) == 46)
              · have hz := (HST.out false (z2.trans h46)).2 rfl
                clear z1 z2
                go_wp2_with (first | (go_at_call 24; refine (letter_any _ _).mono ?_; rintro e w1 ⟨rfl, rfl⟩) | (go_at_call 26; refine (rdigit_any _ _).mono ?_; rintro e w1 ⟨rfl, rfl⟩))
                go_ret
                exact ⟨ret_i (by rw [← hz.out]), rfl⟩
              · have hz := (HST.out true (z2.trans h46)).1 rfl
                clear z1 z2
                go_wp2_with (first | (go_at_call 24; refine (letter_any _ _).mono ?_; rintro e w1 ⟨rfl, rfl⟩) | (go_at_call 26; refine (rdigit_any _ _).mono ?_; rintro e w1 ⟨rfl, rfl⟩))
                go_round
                case rel => exact ⟨k + 1, by omega, by go_num, hz⟩
                case measure => simp [intOf]; omega
          · have hz := (HST.out true (clsB_95 h95)).1 rfl
            go_wp2_with (first | (go_at_call 24; refine (letter_any _ _).mono ?_; rintro e w1 ⟨rfl, rfl⟩) | (go_at_call 26; refine (rdigit_any _ _).mono ?_; rintro e w1 ⟨rfl, rfl⟩))
            go_round
            case rel => exact ⟨k + 1, by omega, by go_num, hz⟩
            case measure => simp [intOf]; omega
        · have hz := (HST.out true (clsB_dgb hd)).1 rfl
          go_wp2_with (first | (go_at_call 24; refine (letter_any _ _).mono ?_; rintro e w1 ⟨rfl, rfl⟩) | (go_at_call 26; refine (rdigit_any _ _).mono ?_; rintro e w1 ⟨rfl, rfl⟩))
          go_round
          case rel => exact ⟨k + 1, by omega, by go_num, hz⟩
          case measure => simp [intOf]; omega
      · have hz := (HST.out true (clsB_low hl)).1 rfl
        go_wp2_with (first | (go_at_call 24; refine (letter_any _ _).mono ?_; rintro e w1 ⟨rfl, rfl⟩) | (go_at_call 26; refine (rdigit_any _ _).mono ?_; rintro e w1 ⟨rfl, rfl⟩))
        go_round
        case rel => exact ⟨k + 1, by omega, by go_num, hz⟩
        case measure => simp [intOf]; omega
    · have hz : Hid (k = rn (clsB p) (s.data.toList.drop a)) := by
        have h2 := hA.out
        rw [drop_end s (a + k) (by omega), rn_nil] at h2; exact h2
      go_wp2
      go_ret
      exact ⟨ret_i (by rw [← hz.out]), rfl⟩

theorem sgl_two (s : ByteArray) (a : Nat) (h : a + 1 < s.size) : sgl (s.data.toList.drop a) = if sg2 (s[a]'(by omega)) s[a + 1] = true then 2 else if sg1 (s[a]'(by omega)) = true then 1 else 0 := by
  rw [drop_cons s a (by omega), drop_cons s (a + 1) h]; rfl
theorem sgl_one (s : ByteArray) (a : Nat) (ha : a < s.size) (h : ¬ a + 1 < s.size) : sgl (s.data.toList.drop a) = if sg1 s[a] = true then 1 else 0 := by
  rw [drop_cons s a ha, drop_end s (a + 1) (by omega)]; rfl
theorem two_list (s : ByteArray) (a : Nat) (h : a + 1 < s.size) : (s.extract a (a + 2)).toList = [s[a]'(by omega), s[a + 1]] := by
  rw [Lib.toList_data, ext_data, drop_cons s a (by omega), drop_cons s (a + 1) h]; simp
theorem sg2_ways (c d : UInt8) : (sg2 c d = true ∧ ((c = 60 ∧ d = 61) ∨ (c = 62 ∧ d = 61) ∨ (c = 60 ∧ d = 62))) ∨ (sg2 c d = false ∧ ¬ [c, d] = [60, 61] ∧ ¬ [c, d] = [62, 61] ∧ ¬ [c, d] = [60, 62]) := by
  have kc := fun n h => (u8_iff c n h)
  have kd := fun n h => (u8_iff d n h)
  cases hx : sg2 c d
  · refine .inr ⟨rfl, ?_, ?_, ?_⟩ <;> intro h <;> simp at h <;> obtain ⟨rfl, rfl⟩ := h <;> revert hx <;> decide
  · refine .inl ⟨rfl, ?_⟩
    simp only [sg2, Bool.or_eq_true, Bool.and_eq_true, beq_iff_eq] at hx
    rcases hx with ⟨a, b⟩ | ⟨a, b⟩ | ⟨a, b⟩
    · exact .inl ⟨(kc 60 (by decide)).1 a, (kd 61 (by decide)).1 b⟩
    · exact .inr (.inl ⟨(kc 62 (by decide)).1 a, (kd 61 (by decide)).1 b⟩)
    · exact .inr (.inr ⟨(kc 60 (by decide)).1 a, (kd 62 (by decide)).1 b⟩)
theorem beq_no {l m : List UInt8} (h : ¬ l = m) : (l == m) = false := by rw [beq_eq_false_iff_ne]; exact h

set_option maxHeartbeats 4000000 in
theorem sign_any (s : ByteArray) (a : Nat) (w : World) (hs : s.size ≤ 140737488355328) (ha : a < s.size) :
    Calls Try.prog 29 #[.string s, .int .i64 (a : Int)] w fun e w' => e = .returned (.int .i64 (sgl (s.data.toList.drop a) : Nat)) ∧ w = w' := by
  by_cases h2 : a + 1 < s.size
  · have q1 : ((a : Int) + 2).toNat = a + 2 := by omega
    have q2 : (a : Int) + 1 < (s.size : Int) := by omega
    have hv := sgl_two s a h2
    have hl := two_list s a h2
    rcases sg2_ways (s[a]'ha) (s[a + 1]'h2) with ⟨e, hw⟩ | ⟨e, n1, n2, n3⟩
    · rw [if_pos e] at hv
      have HV := Lib.hid hv
      rcases hw with ⟨e1, e2⟩ | ⟨e1, e2⟩ | ⟨e1, e2⟩
      all_goals
        rw [e1, e2] at hl
        clear e e1 e2 hv
        go_enter Try.func29, Try.ntmps29
        go_wp2
        go_ret
        exact ⟨ret_i (by rw [HV.out]; rfl), rfl⟩
    · rw [if_neg (by simp [e])] at hv
      rw [← hl] at n1 n2 n3
      have m1 := beq_no n1
      have m2 := beq_no n2
      have m3 := beq_no n3
      have HV := Lib.hid hv
      clear hl hv e
      go_enter Try.func29, Try.ntmps29
      go_wp2
      all_goals
        go_ret
        exact ⟨ret_i (by rw [HV.out]; simp only [sg1, *]; rfl), rfl⟩
  · have hv := sgl_one s a ha h2
    have q2 : ¬ (a : Int) + 1 < (s.size : Int) := by omega
    have HV := Lib.hid hv
    clear hv
    go_enter Try.func29, Try.ntmps29
    go_wp2
    all_goals
      go_ret
      exact ⟨ret_i (by rw [HV.out]; simp only [sg1, *]; rfl), rfl⟩

end Go.Proofs.Ytfdajdlbkdfhoaa

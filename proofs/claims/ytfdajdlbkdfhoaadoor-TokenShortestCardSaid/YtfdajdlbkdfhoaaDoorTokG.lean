/- Contract of extent. No conditions but those printed. -/
import Derived.Test.YtfdajdlbkdfhoaaDoorTokF
namespace Go.Proofs.YtfdajdlbkdfhoaaDoor
open Go.RowKit Cal Str Tok Frac
attribute [local go_sem] calmUpon
set_option linter.unusedVariables false
set_option linter.unusedSimpArgs false

def ExtRes (s : ByteArray) (a : Nat) (w : World) (e : Ending) (w' : World) : Prop := e = .returned (.tuple #[.int .i64 (a + tokN s a : Nat), .int .i64 (tokK s a)]) ∧ Rel w w'
theorem ext_ret {s : ByteArray} {a n : Nat} {k : Int} {w w' : World} (h : tokN s a = n ∧ tokK s a = k) {x y : Int} (hx : x = (a + n : Nat)) (hy : y = k) (r : Rel w w') : ExtRes s a w (.returned (.tuple #[.int .i64 x, .int .i64 y])) w' := by
  unfold ExtRes; rw [h.1, h.2, hx, hy]; exact ⟨rfl, r⟩

set_option maxRecDepth 100000 in
set_option maxHeartbeats 4000000 in
theorem extent_w (s : ByteArray) (a : Nat) (w : World) (hs : s.size ≤ 140737488355328) (ha : a < s.size) (hl : low s[a] = true) :
    Calls Tryd.prog 45 #[.string s, .int .i64 (a : Int)] w (ExtRes s a w) := by
  obtain ⟨n, hn⟩ : ∃ n, rn inw (s.data.toList.drop a) = n := ⟨_, rfl⟩
  have hnb : a + n ≤ s.size := by have := rn_le inw (s.data.toList.drop a); rw [drop_len, hn] at this; omega
  have T1 := fun h => tok_w1 ha hl h
  have T0 := fun h => tok_w0 ha hl h
  rw [hn] at T1 T0
  have HT1 := Lib.hid T1
  have HT0 := Lib.hid T0
  have HN := Lib.hid hn
  clear T1 T0 hn
  go_enter Tryd.func45, Tryd.ntmps45
  go_wp2_with (go_at_call 57; refine (lower_any _ _).mono ?_; rintro e w1 ⟨rfl, rfl⟩)
  clear hl
  go_loop [4] (fun v => ∃ k : Nat, v = .int .i64 k ∧ a ≤ k ∧ k ≤ s.size ∧ Hid (k + rn inw (s.data.toList.drop k) = a + n)) (fun v => s.size - (intOf v).toNat)
  case atStart => exact ⟨a, rfl, by omega, by omega, by show _ = _; rw [HN.out]⟩
  case round =>
    obtain ⟨k, rfl, hak, hk, hA⟩ := hrel
    by_cases hlt : k < s.size
    · have hdr := Lib.hid (drop_cons s k hlt)
      cases hi : inw s[k]
      · have hz : Hid (k = a + n) := by
          have h2 := hA.out; rw [hdr.out, rn_no _ hi] at h2; exact h2
        by_cases h12 : n ≤ 12
        · have c12 : (k : Int) - (a : Int) ≤ 12 := by have := hz.out; omega
          go_wp2_with (go_at_call 58; refine (inWord_any _ _).mono ?_; rintro e w1 ⟨rfl, rfl⟩)
          go_ret2
          exact ext_ret (HT1.out h12) (by rw [hz.out]) rfl (Rel.refl _)
        · have c12 : ¬ (k : Int) - (a : Int) ≤ 12 := by have := hz.out; omega
          go_wp2_with (go_at_call 58; refine (inWord_any _ _).mono ?_; rintro e w1 ⟨rfl, rfl⟩)
          go_ret2
          exact ext_ret (HT0.out h12) rfl rfl (Rel.refl _)
      · have hA2 : Hid (k + 1 + rn inw (s.data.toList.drop (k + 1)) = a + n) := by
          have h2 := hA.out; rw [hdr.out, rn_yes _ hi] at h2; show _ = _; omega
        go_wp2_with (go_at_call 58; refine (inWord_any _ _).mono ?_; rintro e w1 ⟨rfl, rfl⟩)
        go_round
        case rel => exact ⟨k + 1, by go_num, by omega, by omega, hA2⟩
        case measure => simp [intOf]; omega
    · have hz : Hid (k = a + n) := by
        have h2 := hA.out; rw [drop_end s k (by omega), rn_nil] at h2; exact h2
      by_cases h12 : n ≤ 12
      · have c12 : (k : Int) - (a : Int) ≤ 12 := by have := hz.out; omega
        go_wp2
        go_ret2
        exact ext_ret (HT1.out h12) (by rw [hz.out]) rfl (Rel.refl _)
      · have c12 : ¬ (k : Int) - (a : Int) ≤ 12 := by have := hz.out; omega
        go_wp2
        go_ret2
        exact ext_ret (HT0.out h12) rfl rfl (Rel.refl _)

theorem inn_no {c : UInt8} (h1 : inw c = false) (h2 : ((c.toNat : Int) == 46) = false) : inn c = false := by unfold inn; rw [h1, h2]; rfl
theorem inn_w {c : UInt8} (h1 : inw c = true) : inn c = true := by unfold inn; rw [h1]; rfl
theorem inn_p {c : UInt8} (h1 : inw c = false) (h2 : ((c.toNat : Int) == 46) = true) : inn c = true := by unfold inn; rw [h1, h2]; rfl

set_option maxRecDepth 100000 in
set_option maxHeartbeats 4000000 in
theorem extent_n (s : ByteArray) (a : Nat) (w : World) (hs : s.size ≤ 140737488355328) (ha : a < s.size) (hl : low s[a] = false) (hd : dgb s[a] = true) :
    Calls Tryd.prog 45 #[.string s, .int .i64 (a : Int)] w (ExtRes s a w) := by
  obtain ⟨n, hn⟩ : ∃ n, rn inn (s.data.toList.drop a) = n := ⟨_, rfl⟩
  have hnb : a + n ≤ s.size := by have := rn_le inn (s.data.toList.drop a); rw [drop_len, hn] at this; omega
  have T1 := fun h => tok_n1 ha hl hd h
  have T0 := fun h => tok_n0 ha hl hd h
  rw [hn] at T1 T0
  obtain ⟨B, hB⟩ : ∃ B, decB (s.extract a (a + n)) = B := ⟨_, rfl⟩
  rw [hB] at T1 T0
  have DC : Hid (∀ k w, k = a + n → Calls Tryd.prog 11 #[.string (s.extract a k)] w fun e w' => e = .returned (.tuple #[.agg #[.int .i64 (decN (s.extract a (a + n))), .int .i64 (decD (s.extract a (a + n)))], .int .i64 (decX (s.extract a (a + n))), .bool B]) ∧ Rel w w') := fun k w hk => by
    have := Decimal_any (s.extract a (a + n)) w (by rw [ByteArray.size_extract]; unfold maxLen; omega)
    unfold DecRes at this; rw [hB] at this; rw [hk]; exact this
  have HT1 := Lib.hid T1
  have HT0 := Lib.hid T0
  have HN := Lib.hid hn
  clear T1 T0 hn hB
  go_enter Tryd.func45, Tryd.ntmps45
  go_wp2_with (first | (go_at_call 57; refine (lower_any _ _).mono ?_; rintro e w1 ⟨rfl, rfl⟩) | (go_at_call 35; refine (digit_any _ _).mono ?_; rintro e w1 ⟨rfl, rfl⟩))
  clear hl hd
  go_loop [4] (fun v => ∃ k : Nat, v = .int .i64 k ∧ a ≤ k ∧ k ≤ s.size ∧ Hid (k + rn inn (s.data.toList.drop k) = a + n)) (fun v => s.size - (intOf v).toNat)
  case atStart => exact ⟨a, rfl, by omega, by omega, by show _ = _; rw [HN.out]⟩
  case round =>
    obtain ⟨k, rfl, hak, hk, hA⟩ := hrel
    by_cases hlt : k < s.size
    · have hdr := Lib.hid (drop_cons s k hlt)
      cases hi : inw s[k]
      · cases h46 : ((s[k].toNat : Int) == 46)
        · have hz : Hid (k = a + n) := by
            have h2 := hA.out; rw [hdr.out, rn_no _ (inn_no hi h46)] at h2; exact h2
          go_wp2_with (go_at_call 58; refine (inWord_any _ _).mono ?_; rintro e w1 ⟨rfl, rfl⟩)
          with_reducible refine (DC.out k _ hz.out).mono ?_
          rintro e w1 ⟨rfl, h1⟩
          have kz1 := h1.size
          (try simp only [World.size_alloc, World.size_setCell, World.size_drew] at kz1)
          have H1 := Lib.hid h1
          clear h1
          cases B
          · go_wp2
            go_ret2
            exact ext_ret (HT0.out (by first | rfl | trivial | (simp; done))) rfl rfl (by (show Rel _ _; repeat (first | with_reducible exact Rel.refl _ | with_reducible refine Rel.alloc ?_ _ | with_reducible refine Rel.setCell ?_ (by first | (simp; done) | (simp; omega)) _ | with_reducible refine Rel.drew ?_ | with_reducible refine Rel.trans ?_ H1.out | with_reducible refine Rel.trans ?_ H0.out)))
          · go_wp2
            go_ret2
            exact ext_ret (HT1.out (by first | rfl | trivial | (simp; done))) (by rw [hz.out]) rfl (by (show Rel _ _; repeat (first | with_reducible exact Rel.refl _ | with_reducible refine Rel.alloc ?_ _ | with_reducible refine Rel.setCell ?_ (by first | (simp; done) | (simp; omega)) _ | with_reducible refine Rel.drew ?_ | with_reducible refine Rel.trans ?_ H1.out | with_reducible refine Rel.trans ?_ H0.out)))
        · have hA2 : Hid (k + 1 + rn inn (s.data.toList.drop (k + 1)) = a + n) := by
            have h2 := hA.out; rw [hdr.out, rn_yes _ (inn_p hi h46)] at h2; show _ = _; omega
          go_wp2_with (go_at_call 58; refine (inWord_any _ _).mono ?_; rintro e w1 ⟨rfl, rfl⟩)
          go_round
          case rel => exact ⟨k + 1, by go_num, by omega, by omega, hA2⟩
          case measure => simp [intOf]; omega
      · have hA2 : Hid (k + 1 + rn inn (s.data.toList.drop (k + 1)) = a + n) := by
          have h2 := hA.out; rw [hdr.out, rn_yes _ (inn_w hi)] at h2; show _ = _; omega
        go_wp2_with (go_at_call 58; refine (inWord_any _ _).mono ?_; rintro e w1 ⟨rfl, rfl⟩)
        go_round
        case rel => exact ⟨k + 1, by go_num, by omega, by omega, hA2⟩
        case measure => simp [intOf]; omega
    · have hz : Hid (k = a + n) := by
        have h2 := hA.out; rw [drop_end s k (by omega), rn_nil] at h2; exact h2
      go_wp2_with fail
      with_reducible refine (DC.out k _ hz.out).mono ?_
      rintro e w1 ⟨rfl, h1⟩
      have kz1 := h1.size
      (try simp only [World.size_alloc, World.size_setCell, World.size_drew] at kz1)
      have H1 := Lib.hid h1
      clear h1
      cases B
      · go_wp2
        go_ret2
        exact ext_ret (HT0.out (by first | rfl | trivial | (simp; done))) rfl rfl (by (show Rel _ _; repeat (first | with_reducible exact Rel.refl _ | with_reducible refine Rel.alloc ?_ _ | with_reducible refine Rel.setCell ?_ (by first | (simp; done) | (simp; omega)) _ | with_reducible refine Rel.drew ?_ | with_reducible refine Rel.trans ?_ H1.out | with_reducible refine Rel.trans ?_ H0.out)))
      · go_wp2
        go_ret2
        exact ext_ret (HT1.out (by first | rfl | trivial | (simp; done))) (by rw [hz.out]) rfl (by (show Rel _ _; repeat (first | with_reducible exact Rel.refl _ | with_reducible refine Rel.alloc ?_ _ | with_reducible refine Rel.setCell ?_ (by first | (simp; done) | (simp; omega)) _ | with_reducible refine Rel.drew ?_ | with_reducible refine Rel.trans ?_ H1.out | with_reducible refine Rel.trans ?_ H0.out)))

set_option maxRecDepth 100000 in
set_option maxHeartbeats 4000000 in
theorem extent_d (s : ByteArray) (a : Nat) (w : World) (hs : s.size ≤ 140737488355328) (ha : a < s.size) (hl : low s[a] = false) (hd : dgb s[a] = false) (h64 : (s[a].toNat : Int) = 64) :
    Calls Tryd.prog 45 #[.string s, .int .i64 (a : Int)] w (ExtRes s a w) := by
  have b64 : ((s[a].toNat : Int) == 64) = true := by simpa using h64
  by_cases h11 : a + 11 ≤ s.size
  · have T1 := fun h => tok_d1 ha hl hd h64 h11 h
    have T0 := fun (h : ¬ prsB (s.extract (a + 1) (a + 11)) = true) => tok_d0 ha hl hd h64 (fun h' => h h'.2)
    obtain ⟨B, hB⟩ : ∃ B, prsB (s.extract (a + 1) (a + 11)) = B := ⟨_, rfl⟩
    rw [hB] at T1 T0
    have DC : Hid (∀ w, Calls Tryd.prog 59 #[.string (s.extract (a + 1) (a + 11))] w fun e w' => e = .returned (.tuple #[.int .i64 (prsN (s.extract (a + 1) (a + 11))), .bool B]) ∧ Rel w w') := fun w => by
      have := Parse_any (s.extract (a + 1) (a + 11)) w (by rw [ByteArray.size_extract]; unfold maxLen; omega)
      rw [hB] at this; exact this
    have HT1 := Lib.hid T1
    have HT0 := Lib.hid T0
    have c11 : (a : Int) + 11 ≤ (s.size : Int) := by omega
    have q1 : ((a : Int) + 11).toNat = a + 11 := by omega
    have q2 : ((a : Int) + 1).toNat = a + 1 := by omega
    clear T1 T0 hB h64
    go_enter Tryd.func45, Tryd.ntmps45
    go_wp2_with (first | (go_at_call 57; refine (lower_any _ _).mono ?_; rintro e w1 ⟨rfl, rfl⟩) | (go_at_call 35; refine (digit_any _ _).mono ?_; rintro e w1 ⟨rfl, rfl⟩))
    with_reducible refine (DC.out _).mono ?_
    rintro e w1 ⟨rfl, h1⟩
    have kz1 := h1.size
    (try simp only [World.size_alloc, World.size_setCell, World.size_drew] at kz1)
    have H1 := Lib.hid h1
    clear h1
    cases B
    · go_wp2
      go_ret2
      exact ext_ret (HT0.out (by first | rfl | trivial | (simp; done))) rfl rfl (by (show Rel _ _; repeat (first | with_reducible exact Rel.refl _ | with_reducible refine Rel.alloc ?_ _ | with_reducible refine Rel.setCell ?_ (by first | (simp; done) | (simp; omega)) _ | with_reducible refine Rel.drew ?_ | with_reducible refine Rel.trans ?_ H1.out | with_reducible refine Rel.trans ?_ H0.out)))
    · go_wp2
      go_ret2
      exact ext_ret (HT1.out (by first | rfl | trivial | (simp; done))) (by omega) rfl (by (show Rel _ _; repeat (first | with_reducible exact Rel.refl _ | with_reducible refine Rel.alloc ?_ _ | with_reducible refine Rel.setCell ?_ (by first | (simp; done) | (simp; omega)) _ | with_reducible refine Rel.drew ?_ | with_reducible refine Rel.trans ?_ H1.out | with_reducible refine Rel.trans ?_ H0.out)))
  · have T0 := Lib.hid (tok_d0 ha hl hd h64 (fun h' => h11 h'.1))
    have c11 : ¬ (a : Int) + 11 ≤ (s.size : Int) := by omega
    clear h64
    go_enter Tryd.func45, Tryd.ntmps45
    go_wp2_with (first | (go_at_call 57; refine (lower_any _ _).mono ?_; rintro e w1 ⟨rfl, rfl⟩) | (go_at_call 35; refine (digit_any _ _).mono ?_; rintro e w1 ⟨rfl, rfl⟩))
    go_ret2
    exact ext_ret T0.out rfl rfl (Rel.refl _)

theorem HasPrefix_any (s p : ByteArray) (w : World) : Calls Tryd.prog 60 #[.string s, .string p] w fun e w' => e = .returned (.bool (Lib.hasPrefix s.data.toList p.data.toList)) ∧ w = w' :=
  (Tryd.strings_HasPrefix s p w).mono fun e w' ⟨a, b⟩ => ⟨a, b.symm⟩
theorem tail_list (s : ByteArray) (a : Nat) : (s.extract a s.size).data.toList = s.data.toList.drop a := by
  rw [ext_data]; apply List.take_of_length_le; rw [drop_len]; exact Nat.le_refl _
theorem pfx_any (s : ByteArray) (a i : Nat) (p : ByteArray) (b : Bool) (hp : p.data.toList = sig i) (hb : pfx (s.data.toList.drop a) i = b) (w : World) : Calls Tryd.prog 60 #[.string (s.extract a s.size), .string p] w fun e w' => e = .returned (.bool b) ∧ w = w' := by
  have := HasPrefix_any (s.extract a s.size) p w
  rw [tail_list, hp] at this
  unfold pfx at hb
  rw [hb] at this; exact this
theorem pfx_room {l : List UInt8} {i : Nat} (h : pfx l i = true) : (sig i).length ≤ l.length := Lib.hasPrefix_le h

set_option maxRecDepth 100000 in
set_option maxHeartbeats 16000000 in
theorem extent_s (s : ByteArray) (a : Nat) (w : World) (hs : s.size ≤ 140737488355328) (ha : a < s.size) (hl : low s[a] = false) (hd : dgb s[a] = false) (h64 : ¬ (s[a].toNat : Int) = 64) :
    Calls Tryd.prog 45 #[.string s, .int .i64 (a : Int)] w (ExtRes s a w) := by
  have b64 : ((s[a].toNat : Int) == 64) = false := by simpa using h64
  have T := Lib.hid (tok_s ha hl hd h64)
  clear h64
  go_enter Tryd.func45, Tryd.ntmps45
  go_wp2_with (first | (go_at_call 57; refine (lower_any _ _).mono ?_; rintro e w1 ⟨rfl, rfl⟩) | (go_at_call 35; refine (digit_any _ _).mono ?_; rintro e w1 ⟨rfl, rfl⟩))
  clear hl hd b64
  go_loop [19] (fun v => ∃ i : Nat, i ≤ 16 ∧ v = .int .i64 i ∧ Hid (∀ j, j < i → pfx (s.data.toList.drop a) j = false)) (fun v => 16 - (intOf v).toNat)
  case atStart => exact ⟨0, by omega, rfl, by intro j hj; omega⟩
  case round =>
    obtain ⟨i, hi, rfl, hno⟩ := hrel
    rcases (show i = 16 ∨ i = 0 ∨ i = 1 ∨ i = 2 ∨ i = 3 ∨ i = 4 ∨ i = 5 ∨ i = 6 ∨ i = 7 ∨ i = 8 ∨ i = 9 ∨ i = 10 ∨ i = 11 ∨ i = 12 ∨ i = 13 ∨ i = 14 ∨ i = 15 by omega) with rfl | rfl | rfl | rfl | rfl | rfl | rfl | rfl | rfl | rfl | rfl | rfl | rfl | rfl | rfl | rfl | rfl
    · have HR := Lib.hid (sgl_none _ hno.out)
      go_wp2
      go_ret2
      exact ext_ret T.out (by rw [HR.out]; rfl) (by rw [HR.out]; rfl) (Rel.refl _)
    · cases hp : pfx (s.data.toList.drop a) 0
      · have HP2 : Hid (∀ j, j < 1 → pfx (s.data.toList.drop a) j = false) := fun j hj => by
          rcases (show j < 0 ∨ j = 0 by omega) with h | rfl
          · exact hno.out j h
          · exact hp
        have PX : Hid (∀ w, Calls Tryd.prog 60 #[.string (s.extract a s.size), .string ⟨#[60, 61]⟩] w fun e w' => e = .returned (.bool false) ∧ w = w') := fun w => pfx_any s a 0 _ _ rfl hp w
        clear hp
        have ix : ∀ w, (Instr.index 94 (.agg #[.string ⟨#[60, 61]⟩, .string ⟨#[62, 61]⟩, .string ⟨#[60, 62]⟩, .string ⟨#[60]⟩, .string ⟨#[62]⟩, .string ⟨#[61]⟩, .string ⟨#[43]⟩, .string ⟨#[45]⟩, .string ⟨#[42]⟩, .string ⟨#[47]⟩, .string ⟨#[40]⟩, .string ⟨#[41]⟩, .string ⟨#[123]⟩, .string ⟨#[125]⟩, .string ⟨#[44]⟩, .string ⟨#[59]⟩]) (.int .i64 0)).run Tryd.prog w = .ok (.string ⟨#[60, 61]⟩) w := fun _ => by kernel_rfl
        go_wp2_with (go_at_call 60; refine (PX.out _).mono ?_; rintro e w1 ⟨rfl, rfl⟩)
        go_round
        case rel => exact ⟨1, by omega, rfl, HP2⟩
        case measure => simp [intOf]
      · have HR := Lib.hid (sgl_hit _ 0 (by decide) hp hno.out)
        have PX : Hid (∀ w, Calls Tryd.prog 60 #[.string (s.extract a s.size), .string ⟨#[60, 61]⟩] w fun e w' => e = .returned (.bool true) ∧ w = w') := fun w => pfx_any s a 0 _ _ rfl hp w
        have HL := Lib.hid (pfx_room hp)
        clear hp
        have ix : ∀ w, (Instr.index 94 (.agg #[.string ⟨#[60, 61]⟩, .string ⟨#[62, 61]⟩, .string ⟨#[60, 62]⟩, .string ⟨#[60]⟩, .string ⟨#[62]⟩, .string ⟨#[61]⟩, .string ⟨#[43]⟩, .string ⟨#[45]⟩, .string ⟨#[42]⟩, .string ⟨#[47]⟩, .string ⟨#[40]⟩, .string ⟨#[41]⟩, .string ⟨#[123]⟩, .string ⟨#[125]⟩, .string ⟨#[44]⟩, .string ⟨#[59]⟩]) (.int .i64 0)).run Tryd.prog w = .ok (.string ⟨#[60, 61]⟩) w := fun _ => by kernel_rfl
        go_wp2_with (go_at_call 60; refine (PX.out _).mono ?_; rintro e w1 ⟨rfl, rfl⟩)
        go_ret2
        exact ext_ret T.out (by rw [HR.out]; rfl) (by rw [HR.out]; rfl) (Rel.refl _)
    · cases hp : pfx (s.data.toList.drop a) 1
      · have HP2 : Hid (∀ j, j < 2 → pfx (s.data.toList.drop a) j = false) := fun j hj => by
          rcases (show j < 1 ∨ j = 1 by omega) with h | rfl
          · exact hno.out j h
          · exact hp
        have PX : Hid (∀ w, Calls Tryd.prog 60 #[.string (s.extract a s.size), .string ⟨#[62, 61]⟩] w fun e w' => e = .returned (.bool false) ∧ w = w') := fun w => pfx_any s a 1 _ _ rfl hp w
        clear hp
        have ix : ∀ w, (Instr.index 94 (.agg #[.string ⟨#[60, 61]⟩, .string ⟨#[62, 61]⟩, .string ⟨#[60, 62]⟩, .string ⟨#[60]⟩, .string ⟨#[62]⟩, .string ⟨#[61]⟩, .string ⟨#[43]⟩, .string ⟨#[45]⟩, .string ⟨#[42]⟩, .string ⟨#[47]⟩, .string ⟨#[40]⟩, .string ⟨#[41]⟩, .string ⟨#[123]⟩, .string ⟨#[125]⟩, .string ⟨#[44]⟩, .string ⟨#[59]⟩]) (.int .i64 1)).run Tryd.prog w = .ok (.string ⟨#[62, 61]⟩) w := fun _ => by kernel_rfl
        go_wp2_with (go_at_call 60; refine (PX.out _).mono ?_; rintro e w1 ⟨rfl, rfl⟩)
        go_round
        case rel => exact ⟨2, by omega, rfl, HP2⟩
        case measure => simp [intOf]
      · have HR := Lib.hid (sgl_hit _ 1 (by decide) hp hno.out)
        have PX : Hid (∀ w, Calls Tryd.prog 60 #[.string (s.extract a s.size), .string ⟨#[62, 61]⟩] w fun e w' => e = .returned (.bool true) ∧ w = w') := fun w => pfx_any s a 1 _ _ rfl hp w
        have HL := Lib.hid (pfx_room hp)
        clear hp
        have ix : ∀ w, (Instr.index 94 (.agg #[.string ⟨#[60, 61]⟩, .string ⟨#[62, 61]⟩, .string ⟨#[60, 62]⟩, .string ⟨#[60]⟩, .string ⟨#[62]⟩, .string ⟨#[61]⟩, .string ⟨#[43]⟩, .string ⟨#[45]⟩, .string ⟨#[42]⟩, .string ⟨#[47]⟩, .string ⟨#[40]⟩, .string ⟨#[41]⟩, .string ⟨#[123]⟩, .string ⟨#[125]⟩, .string ⟨#[44]⟩, .string ⟨#[59]⟩]) (.int .i64 1)).run Tryd.prog w = .ok (.string ⟨#[62, 61]⟩) w := fun _ => by kernel_rfl
        go_wp2_with (go_at_call 60; refine (PX.out _).mono ?_; rintro e w1 ⟨rfl, rfl⟩)
        go_ret2
        exact ext_ret T.out (by rw [HR.out]; rfl) (by rw [HR.out]; rfl) (Rel.refl _)
    · cases hp : pfx (s.data.toList.drop a) 2
      · have HP2 : Hid (∀ j, j < 3 → pfx (s.data.toList.drop a) j = false) := fun j hj => by
          rcases (show j < 2 ∨ j = 2 by omega) with h | rfl
          · exact hno.out j h
          · exact hp
        have PX : Hid (∀ w, Calls Tryd.prog 60 #[.string (s.extract a s.size), .string ⟨#[60, 62]⟩] w fun e w' => e = .returned (.bool false) ∧ w = w') := fun w => pfx_any s a 2 _ _ rfl hp w
        clear hp
        have ix : ∀ w, (Instr.index 94 (.agg #[.string ⟨#[60, 61]⟩, .string ⟨#[62, 61]⟩, .string ⟨#[60, 62]⟩, .string ⟨#[60]⟩, .string ⟨#[62]⟩, .string ⟨#[61]⟩, .string ⟨#[43]⟩, .string ⟨#[45]⟩, .string ⟨#[42]⟩, .string ⟨#[47]⟩, .string ⟨#[40]⟩, .string ⟨#[41]⟩, .string ⟨#[123]⟩, .string ⟨#[125]⟩, .string ⟨#[44]⟩, .string ⟨#[59]⟩]) (.int .i64 2)).run Tryd.prog w = .ok (.string ⟨#[60, 62]⟩) w := fun _ => by kernel_rfl
        go_wp2_with (go_at_call 60; refine (PX.out _).mono ?_; rintro e w1 ⟨rfl, rfl⟩)
        go_round
        case rel => exact ⟨3, by omega, rfl, HP2⟩
        case measure => simp [intOf]
      · have HR := Lib.hid (sgl_hit _ 2 (by decide) hp hno.out)
        have PX : Hid (∀ w, Calls Tryd.prog 60 #[.string (s.extract a s.size), .string ⟨#[60, 62]⟩] w fun e w' => e = .returned (.bool true) ∧ w = w') := fun w => pfx_any s a 2 _ _ rfl hp w
        have HL := Lib.hid (pfx_room hp)
        clear hp
        have ix : ∀ w, (Instr.index 94 (.agg #[.string ⟨#[60, 61]⟩, .string ⟨#[62, 61]⟩, .string ⟨#[60, 62]⟩, .string ⟨#[60]⟩, .string ⟨#[62]⟩, .string ⟨#[61]⟩, .string ⟨#[43]⟩, .string ⟨#[45]⟩, .string ⟨#[42]⟩, .string ⟨#[47]⟩, .string ⟨#[40]⟩, .string ⟨#[41]⟩, .string ⟨#[123]⟩, .string ⟨#[125]⟩, .string ⟨#[44]⟩, .string ⟨#[59]⟩]) (.int .i64 2)).run Tryd.prog w = .ok (.string ⟨#[60, 62]⟩) w := fun _ => by kernel_rfl
        go_wp2_with (go_at_call 60; refine (PX.out _).mono ?_; rintro e w1 ⟨rfl, rfl⟩)
        go_ret2
        exact ext_ret T.out (by rw [HR.out]; rfl) (by rw [HR.out]; rfl) (Rel.refl _)
    · cases hp : pfx (s.data.toList.drop a) 3
      · have HP2 : Hid (∀ j, j < 4 → pfx (s.data.toList.drop a) j = false) := fun j hj => by
          rcases (show j < 3 ∨ j = 3 by omega) with h | rfl
          · exact hno.out j h
          · exact hp
        have PX : Hid (∀ w, Calls Tryd.prog 60 #[.string (s.extract a s.size), .string ⟨#[60]⟩] w fun e w' => e = .returned (.bool false) ∧ w = w') := fun w => pfx_any s a 3 _ _ rfl hp w
        clear hp
        have ix : ∀ w, (Instr.index 94 (.agg #[.string ⟨#[60, 61]⟩, .string ⟨#[62, 61]⟩, .string ⟨#[60, 62]⟩, .string ⟨#[60]⟩, .string ⟨#[62]⟩, .string ⟨#[61]⟩, .string ⟨#[43]⟩, .string ⟨#[45]⟩, .string ⟨#[42]⟩, .string ⟨#[47]⟩, .string ⟨#[40]⟩, .string ⟨#[41]⟩, .string ⟨#[123]⟩, .string ⟨#[125]⟩, .string ⟨#[44]⟩, .string ⟨#[59]⟩]) (.int .i64 3)).run Tryd.prog w = .ok (.string ⟨#[60]⟩) w := fun _ => by kernel_rfl
        go_wp2_with (go_at_call 60; refine (PX.out _).mono ?_; rintro e w1 ⟨rfl, rfl⟩)
        go_round
        case rel => exact ⟨4, by omega, rfl, HP2⟩
        case measure => simp [intOf]
      · have HR := Lib.hid (sgl_hit _ 3 (by decide) hp hno.out)
        have PX : Hid (∀ w, Calls Tryd.prog 60 #[.string (s.extract a s.size), .string ⟨#[60]⟩] w fun e w' => e = .returned (.bool true) ∧ w = w') := fun w => pfx_any s a 3 _ _ rfl hp w
        have HL := Lib.hid (pfx_room hp)
        clear hp
        have ix : ∀ w, (Instr.index 94 (.agg #[.string ⟨#[60, 61]⟩, .string ⟨#[62, 61]⟩, .string ⟨#[60, 62]⟩, .string ⟨#[60]⟩, .string ⟨#[62]⟩, .string ⟨#[61]⟩, .string ⟨#[43]⟩, .string ⟨#[45]⟩, .string ⟨#[42]⟩, .string ⟨#[47]⟩, .string ⟨#[40]⟩, .string ⟨#[41]⟩, .string ⟨#[123]⟩, .string ⟨#[125]⟩, .string ⟨#[44]⟩, .string ⟨#[59]⟩]) (.int .i64 3)).run Tryd.prog w = .ok (.string ⟨#[60]⟩) w := fun _ => by kernel_rfl
        go_wp2_with (go_at_call 60; refine (PX.out _).mono ?_; rintro e w1 ⟨rfl, rfl⟩)
        go_ret2
        exact ext_ret T.out (by rw [HR.out]; rfl) (by rw [HR.out]; rfl) (Rel.refl _)
    · cases hp : pfx (s.data.toList.drop a) 4
      · have HP2 : Hid (∀ j, j < 5 → pfx (s.data.toList.drop a) j = false) := fun j hj => by
          rcases (show j < 4 ∨ j = 4 by omega) with h | rfl
          · exact hno.out j h
          · exact hp
        have PX : Hid (∀ w, Calls Tryd.prog 60 #[.string (s.extract a s.size), .string ⟨#[62]⟩] w fun e w' => e = .returned (.bool false) ∧ w = w') := fun w => pfx_any s a 4 _ _ rfl hp w
        clear hp
        have ix : ∀ w, (Instr.index 94 (.agg #[.string ⟨#[60, 61]⟩, .string ⟨#[62, 61]⟩, .string ⟨#[60, 62]⟩, .string ⟨#[60]⟩, .string ⟨#[62]⟩, .string ⟨#[61]⟩, .string ⟨#[43]⟩, .string ⟨#[45]⟩, .string ⟨#[42]⟩, .string ⟨#[47]⟩, .string ⟨#[40]⟩, .string ⟨#[41]⟩, .string ⟨#[123]⟩, .string ⟨#[125]⟩, .string ⟨#[44]⟩, .string ⟨#[59]⟩]) (.int .i64 4)).run Tryd.prog w = .ok (.string ⟨#[62]⟩) w := fun _ => by kernel_rfl
        go_wp2_with (go_at_call 60; refine (PX.out _).mono ?_; rintro e w1 ⟨rfl, rfl⟩)
        go_round
        case rel => exact ⟨5, by omega, rfl, HP2⟩
        case measure => simp [intOf]
      · have HR := Lib.hid (sgl_hit _ 4 (by decide) hp hno.out)
        have PX : Hid (∀ w, Calls Tryd.prog 60 #[.string (s.extract a s.size), .string ⟨#[62]⟩] w fun e w' => e = .returned (.bool true) ∧ w = w') := fun w => pfx_any s a 4 _ _ rfl hp w
        have HL := Lib.hid (pfx_room hp)
        clear hp
        have ix : ∀ w, (Instr.index 94 (.agg #[.string ⟨#[60, 61]⟩, .string ⟨#[62, 61]⟩, .string ⟨#[60, 62]⟩, .string ⟨#[60]⟩, .string ⟨#[62]⟩, .string ⟨#[61]⟩, .string ⟨#[43]⟩, .string ⟨#[45]⟩, .string ⟨#[42]⟩, .string ⟨#[47]⟩, .string ⟨#[40]⟩, .string ⟨#[41]⟩, .string ⟨#[123]⟩, .string ⟨#[125]⟩, .string ⟨#[44]⟩, .string ⟨#[59]⟩]) (.int .i64 4)).run Tryd.prog w = .ok (.string ⟨#[62]⟩) w := fun _ => by kernel_rfl
        go_wp2_with (go_at_call 60; refine (PX.out _).mono ?_; rintro e w1 ⟨rfl, rfl⟩)
        go_ret2
        exact ext_ret T.out (by rw [HR.out]; rfl) (by rw [HR.out]; rfl) (Rel.refl _)
    · cases hp : pfx (s.data.toList.drop a) 5
      · have HP2 : Hid (∀ j, j < 6 → pfx (s.data.toList.drop a) j = false) := fun j hj => by
          rcases (show j < 5 ∨ j = 5 by omega) with h | rfl
          · exact hno.out j h
          · exact hp
        have PX : Hid (∀ w, Calls Tryd.prog 60 #[.string (s.extract a s.size), .string ⟨#[61]⟩] w fun e w' => e = .returned (.bool false) ∧ w = w') := fun w => pfx_any s a 5 _ _ rfl hp w
        clear hp
        have ix : ∀ w, (Instr.index 94 (.agg #[.string ⟨#[60, 61]⟩, .string ⟨#[62, 61]⟩, .string ⟨#[60, 62]⟩, .string ⟨#[60]⟩, .string ⟨#[62]⟩, .string ⟨#[61]⟩, .string ⟨#[43]⟩, .string ⟨#[45]⟩, .string ⟨#[42]⟩, .string ⟨#[47]⟩, .string ⟨#[40]⟩, .string ⟨#[41]⟩, .string ⟨#[123]⟩, .string ⟨#[125]⟩, .string ⟨#[44]⟩, .string ⟨#[59]⟩]) (.int .i64 5)).run Tryd.prog w = .ok (.string ⟨#[61]⟩) w := fun _ => by kernel_rfl
        go_wp2_with (go_at_call 60; refine (PX.out _).mono ?_; rintro e w1 ⟨rfl, rfl⟩)
        go_round
        case rel => exact ⟨6, by omega, rfl, HP2⟩
        case measure => simp [intOf]
      · have HR := Lib.hid (sgl_hit _ 5 (by decide) hp hno.out)
        have PX : Hid (∀ w, Calls Tryd.prog 60 #[.string (s.extract a s.size), .string ⟨#[61]⟩] w fun e w' => e = .returned (.bool true) ∧ w = w') := fun w => pfx_any s a 5 _ _ rfl hp w
        have HL := Lib.hid (pfx_room hp)
        clear hp
        have ix : ∀ w, (Instr.index 94 (.agg #[.string ⟨#[60, 61]⟩, .string ⟨#[62, 61]⟩, .string ⟨#[60, 62]⟩, .string ⟨#[60]⟩, .string ⟨#[62]⟩, .string ⟨#[61]⟩, .string ⟨#[43]⟩, .string ⟨#[45]⟩, .string ⟨#[42]⟩, .string ⟨#[47]⟩, .string ⟨#[40]⟩, .string ⟨#[41]⟩, .string ⟨#[123]⟩, .string ⟨#[125]⟩, .string ⟨#[44]⟩, .string ⟨#[59]⟩]) (.int .i64 5)).run Tryd.prog w = .ok (.string ⟨#[61]⟩) w := fun _ => by kernel_rfl
        go_wp2_with (go_at_call 60; refine (PX.out _).mono ?_; rintro e w1 ⟨rfl, rfl⟩)
        go_ret2
        exact ext_ret T.out (by rw [HR.out]; rfl) (by rw [HR.out]; rfl) (Rel.refl _)
    · cases hp : pfx (s.data.toList.drop a) 6
      · have HP2 : Hid (∀ j, j < 7 → pfx (s.data.toList.drop a) j = false) := fun j hj => by
          rcases (show j < 6 ∨ j = 6 by omega) with h | rfl
          · exact hno.out j h
          · exact hp
        have PX : Hid (∀ w, Calls Tryd.prog 60 #[.string (s.extract a s.size), .string ⟨#[43]⟩] w fun e w' => e = .returned (.bool false) ∧ w = w') := fun w => pfx_any s a 6 _ _ rfl hp w
        clear hp
        have ix : ∀ w, (Instr.index 94 (.agg #[.string ⟨#[60, 61]⟩, .string ⟨#[62, 61]⟩, .string ⟨#[60, 62]⟩, .string ⟨#[60]⟩, .string ⟨#[62]⟩, .string ⟨#[61]⟩, .string ⟨#[43]⟩, .string ⟨#[45]⟩, .string ⟨#[42]⟩, .string ⟨#[47]⟩, .string ⟨#[40]⟩, .string ⟨#[41]⟩, .string ⟨#[123]⟩, .string ⟨#[125]⟩, .string ⟨#[44]⟩, .string ⟨#[59]⟩]) (.int .i64 6)).run Tryd.prog w = .ok (.string ⟨#[43]⟩) w := fun _ => by kernel_rfl
        go_wp2_with (go_at_call 60; refine (PX.out _).mono ?_; rintro e w1 ⟨rfl, rfl⟩)
        go_round
        case rel => exact ⟨7, by omega, rfl, HP2⟩
        case measure => simp [intOf]
      · have HR := Lib.hid (sgl_hit _ 6 (by decide) hp hno.out)
        have PX : Hid (∀ w, Calls Tryd.prog 60 #[.string (s.extract a s.size), .string ⟨#[43]⟩] w fun e w' => e = .returned (.bool true) ∧ w = w') := fun w => pfx_any s a 6 _ _ rfl hp w
        have HL := Lib.hid (pfx_room hp)
        clear hp
        have ix : ∀ w, (Instr.index 94 (.agg #[.string ⟨#[60, 61]⟩, .string ⟨#[62, 61]⟩, .string ⟨#[60, 62]⟩, .string ⟨#[60]⟩, .string ⟨#[62]⟩, .string ⟨#[61]⟩, .string ⟨#[43]⟩, .string ⟨#[45]⟩, .string ⟨#[42]⟩, .string ⟨#[47]⟩, .string ⟨#[40]⟩, .string ⟨#[41]⟩, .string ⟨#[123]⟩, .string ⟨#[125]⟩, .string ⟨#[44]⟩, .string ⟨#[59]⟩]) (.int .i64 6)).run Tryd.prog w = .ok (.string ⟨#[43]⟩) w := fun _ => by kernel_rfl
        go_wp2_with (go_at_call 60; refine (PX.out _).mono ?_; rintro e w1 ⟨rfl, rfl⟩)
        go_ret2
        exact ext_ret T.out (by rw [HR.out]; rfl) (by rw [HR.out]; rfl) (Rel.refl _)
    · cases hp : pfx (s.data.toList.drop a) 7
      · have HP2 : Hid (∀ j, j < 8 → pfx (s.data.toList.drop a) j = false) := fun j hj => by
          rcases (show j < 7 ∨ j = 7 by omega) with h | rfl
          · exact hno.out j h
          · exact hp
        have PX : Hid (∀ w, Calls Tryd.prog 60 #[.string (s.extract a s.size), .string ⟨#[45]⟩] w fun e w' => e = .returned (.bool false) ∧ w = w') := fun w => pfx_any s a 7 _ _ rfl hp w
        clear hp
        have ix : ∀ w, (Instr.index 94 (.agg #[.string ⟨#[60, 61]⟩, .string ⟨#[62, 61]⟩, .string ⟨#[60, 62]⟩, .string ⟨#[60]⟩, .string ⟨#[62]⟩, .string ⟨#[61]⟩, .string ⟨#[43]⟩, .string ⟨#[45]⟩, .string ⟨#[42]⟩, .string ⟨#[47]⟩, .string ⟨#[40]⟩, .string ⟨#[41]⟩, .string ⟨#[123]⟩, .string ⟨#[125]⟩, .string ⟨#[44]⟩, .string ⟨#[59]⟩]) (.int .i64 7)).run Tryd.prog w = .ok (.string ⟨#[45]⟩) w := fun _ => by kernel_rfl
        go_wp2_with (go_at_call 60; refine (PX.out _).mono ?_; rintro e w1 ⟨rfl, rfl⟩)
        go_round
        case rel => exact ⟨8, by omega, rfl, HP2⟩
        case measure => simp [intOf]
      · have HR := Lib.hid (sgl_hit _ 7 (by decide) hp hno.out)
        have PX : Hid (∀ w, Calls Tryd.prog 60 #[.string (s.extract a s.size), .string ⟨#[45]⟩] w fun e w' => e = .returned (.bool true) ∧ w = w') := fun w => pfx_any s a 7 _ _ rfl hp w
        have HL := Lib.hid (pfx_room hp)
        clear hp
        have ix : ∀ w, (Instr.index 94 (.agg #[.string ⟨#[60, 61]⟩, .string ⟨#[62, 61]⟩, .string ⟨#[60, 62]⟩, .string ⟨#[60]⟩, .string ⟨#[62]⟩, .string ⟨#[61]⟩, .string ⟨#[43]⟩, .string ⟨#[45]⟩, .string ⟨#[42]⟩, .string ⟨#[47]⟩, .string ⟨#[40]⟩, .string ⟨#[41]⟩, .string ⟨#[123]⟩, .string ⟨#[125]⟩, .string ⟨#[44]⟩, .string ⟨#[59]⟩]) (.int .i64 7)).run Tryd.prog w = .ok (.string ⟨#[45]⟩) w := fun _ => by kernel_rfl
        go_wp2_with (go_at_call 60; refine (PX.out _).mono ?_; rintro e w1 ⟨rfl, rfl⟩)
        go_ret2
        exact ext_ret T.out (by rw [HR.out]; rfl) (by rw [HR.out]; rfl) (Rel.refl _)
    · cases hp : pfx (s.data.toList.drop a) 8
      · have HP2 : Hid (∀ j, j < 9 → pfx (s.data.toList.drop a) j = false) := fun j hj => by
          rcases (show j < 8 ∨ j = 8 by omega) with h | rfl
          · exact hno.out j h
          · exact hp
        have PX : Hid (∀ w, Calls Tryd.prog 60 #[.string (s.extract a s.size), .string ⟨#[42]⟩] w fun e w' => e = .returned (.bool false) ∧ w = w') := fun w => pfx_any s a 8 _ _ rfl hp w
        clear hp
        have ix : ∀ w, (Instr.index 94 (.agg #[.string ⟨#[60, 61]⟩, .string ⟨#[62, 61]⟩, .string ⟨#[60, 62]⟩, .string ⟨#[60]⟩, .string ⟨#[62]⟩, .string ⟨#[61]⟩, .string ⟨#[43]⟩, .string ⟨#[45]⟩, .string ⟨#[42]⟩, .string ⟨#[47]⟩, .string ⟨#[40]⟩, .string ⟨#[41]⟩, .string ⟨#[123]⟩, .string ⟨#[125]⟩, .string ⟨#[44]⟩, .string ⟨#[59]⟩]) (.int .i64 8)).run Tryd.prog w = .ok (.string ⟨#[42]⟩) w := fun _ => by kernel_rfl
        go_wp2_with (go_at_call 60; refine (PX.out _).mono ?_; rintro e w1 ⟨rfl, rfl⟩)
        go_round
        case rel => exact ⟨9, by omega, rfl, HP2⟩
        case measure => simp [intOf]
      · have HR := Lib.hid (sgl_hit _ 8 (by decide) hp hno.out)
        have PX : Hid (∀ w, Calls Tryd.prog 60 #[.string (s.extract a s.size), .string ⟨#[42]⟩] w fun e w' => e = .returned (.bool true) ∧ w = w') := fun w => pfx_any s a 8 _ _ rfl hp w
        have HL := Lib.hid (pfx_room hp)
        clear hp
        have ix : ∀ w, (Instr.index 94 (.agg #[.string ⟨#[60, 61]⟩, .string ⟨#[62, 61]⟩, .string ⟨#[60, 62]⟩, .string ⟨#[60]⟩, .string ⟨#[62]⟩, .string ⟨#[61]⟩, .string ⟨#[43]⟩, .string ⟨#[45]⟩, .string ⟨#[42]⟩, .string ⟨#[47]⟩, .string ⟨#[40]⟩, .string ⟨#[41]⟩, .string ⟨#[123]⟩, .string ⟨#[125]⟩, .string ⟨#[44]⟩, .string ⟨#[59]⟩]) (.int .i64 8)).run Tryd.prog w = .ok (.string ⟨#[42]⟩) w := fun _ => by kernel_rfl
        go_wp2_with (go_at_call 60; refine (PX.out _).mono ?_; rintro e w1 ⟨rfl, rfl⟩)
        go_ret2
        exact ext_ret T.out (by rw [HR.out]; rfl) (by rw [HR.out]; rfl) (Rel.refl _)
    · cases hp : pfx (s.data.toList.drop a) 9
      · have HP2 : Hid (∀ j, j < 10 → pfx (s.data.toList.drop a) j = false) := fun j hj => by
          rcases (show j < 9 ∨ j = 9 by omega) with h | rfl
          · exact hno.out j h
          · exact hp
        have PX : Hid (∀ w, Calls Tryd.prog 60 #[.string (s.extract a s.size), .string ⟨#[47]⟩] w fun e w' => e = .returned (.bool false) ∧ w = w') := fun w => pfx_any s a 9 _ _ rfl hp w
        clear hp
        have ix : ∀ w, (Instr.index 94 (.agg #[.string ⟨#[60, 61]⟩, .string ⟨#[62, 61]⟩, .string ⟨#[60, 62]⟩, .string ⟨#[60]⟩, .string ⟨#[62]⟩, .string ⟨#[61]⟩, .string ⟨#[43]⟩, .string ⟨#[45]⟩, .string ⟨#[42]⟩, .string ⟨#[47]⟩, .string ⟨#[40]⟩, .string ⟨#[41]⟩, .string ⟨#[123]⟩, .string ⟨#[125]⟩, .string ⟨#[44]⟩, .string ⟨#[59]⟩]) (.int .i64 9)).run Tryd.prog w = .ok (.string ⟨#[47]⟩) w := fun _ => by kernel_rfl
        go_wp2_with (go_at_call 60; refine (PX.out _).mono ?_; rintro e w1 ⟨rfl, rfl⟩)
        go_round
        case rel => exact ⟨10, by omega, rfl, HP2⟩
        case measure => simp [intOf]
      · have HR := Lib.hid (sgl_hit _ 9 (by decide) hp hno.out)
        have PX : Hid (∀ w, Calls Tryd.prog 60 #[.string (s.extract a s.size), .string ⟨#[47]⟩] w fun e w' => e = .returned (.bool true) ∧ w = w') := fun w => pfx_any s a 9 _ _ rfl hp w
        have HL := Lib.hid (pfx_room hp)
        clear hp
        have ix : ∀ w, (Instr.index 94 (.agg #[.string ⟨#[60, 61]⟩, .string ⟨#[62, 61]⟩, .string ⟨#[60, 62]⟩, .string ⟨#[60]⟩, .string ⟨#[62]⟩, .string ⟨#[61]⟩, .string ⟨#[43]⟩, .string ⟨#[45]⟩, .string ⟨#[42]⟩, .string ⟨#[47]⟩, .string ⟨#[40]⟩, .string ⟨#[41]⟩, .string ⟨#[123]⟩, .string ⟨#[125]⟩, .string ⟨#[44]⟩, .string ⟨#[59]⟩]) (.int .i64 9)).run Tryd.prog w = .ok (.string ⟨#[47]⟩) w := fun _ => by kernel_rfl
        go_wp2_with (go_at_call 60; refine (PX.out _).mono ?_; rintro e w1 ⟨rfl, rfl⟩)
        go_ret2
        exact ext_ret T.out (by rw [HR.out]; rfl) (by rw [HR.out]; rfl) (Rel.refl _)
    · cases hp : pfx (s.data.toList.drop a) 10
      · have HP2 : Hid (∀ j, j < 11 → pfx (s.data.toList.drop a) j = false) := fun j hj => by
          rcases (show j < 10 ∨ j = 10 by omega) with h | rfl
          · exact hno.out j h
          · exact hp
        have PX : Hid (∀ w, Calls Tryd.prog 60 #[.string (s.extract a s.size), .string ⟨#[40]⟩] w fun e w' => e = .returned (.bool false) ∧ w = w') := fun w => pfx_any s a 10 _ _ rfl hp w
        clear hp
        have ix : ∀ w, (Instr.index 94 (.agg #[.string ⟨#[60, 61]⟩, .string ⟨#[62, 61]⟩, .string ⟨#[60, 62]⟩, .string ⟨#[60]⟩, .string ⟨#[62]⟩, .string ⟨#[61]⟩, .string ⟨#[43]⟩, .string ⟨#[45]⟩, .string ⟨#[42]⟩, .string ⟨#[47]⟩, .string ⟨#[40]⟩, .string ⟨#[41]⟩, .string ⟨#[123]⟩, .string ⟨#[125]⟩, .string ⟨#[44]⟩, .string ⟨#[59]⟩]) (.int .i64 10)).run Tryd.prog w = .ok (.string ⟨#[40]⟩) w := fun _ => by kernel_rfl
        go_wp2_with (go_at_call 60; refine (PX.out _).mono ?_; rintro e w1 ⟨rfl, rfl⟩)
        go_round
        case rel => exact ⟨11, by omega, rfl, HP2⟩
        case measure => simp [intOf]
      · have HR := Lib.hid (sgl_hit _ 10 (by decide) hp hno.out)
        have PX : Hid (∀ w, Calls Tryd.prog 60 #[.string (s.extract a s.size), .string ⟨#[40]⟩] w fun e w' => e = .returned (.bool true) ∧ w = w') := fun w => pfx_any s a 10 _ _ rfl hp w
        have HL := Lib.hid (pfx_room hp)
        clear hp
        have ix : ∀ w, (Instr.index 94 (.agg #[.string ⟨#[60, 61]⟩, .string ⟨#[62, 61]⟩, .string ⟨#[60, 62]⟩, .string ⟨#[60]⟩, .string ⟨#[62]⟩, .string ⟨#[61]⟩, .string ⟨#[43]⟩, .string ⟨#[45]⟩, .string ⟨#[42]⟩, .string ⟨#[47]⟩, .string ⟨#[40]⟩, .string ⟨#[41]⟩, .string ⟨#[123]⟩, .string ⟨#[125]⟩, .string ⟨#[44]⟩, .string ⟨#[59]⟩]) (.int .i64 10)).run Tryd.prog w = .ok (.string ⟨#[40]⟩) w := fun _ => by kernel_rfl
        go_wp2_with (go_at_call 60; refine (PX.out _).mono ?_; rintro e w1 ⟨rfl, rfl⟩)
        go_ret2
        exact ext_ret T.out (by rw [HR.out]; rfl) (by rw [HR.out]; rfl) (Rel.refl _)
    · cases hp : pfx (s.data.toList.drop a) 11
      · have HP2 : Hid (∀ j, j < 12 → pfx (s.data.toList.drop a) j = false) := fun j hj => by
          rcases (show j < 11 ∨ j = 11 by omega) with h | rfl
          · exact hno.out j h
          · exact hp
        have PX : Hid (∀ w, Calls Tryd.prog 60 #[.string (s.extract a s.size), .string ⟨#[41]⟩] w fun e w' => e = .returned (.bool false) ∧ w = w') := fun w => pfx_any s a 11 _ _ rfl hp w
        clear hp
        have ix : ∀ w, (Instr.index 94 (.agg #[.string ⟨#[60, 61]⟩, .string ⟨#[62, 61]⟩, .string ⟨#[60, 62]⟩, .string ⟨#[60]⟩, .string ⟨#[62]⟩, .string ⟨#[61]⟩, .string ⟨#[43]⟩, .string ⟨#[45]⟩, .string ⟨#[42]⟩, .string ⟨#[47]⟩, .string ⟨#[40]⟩, .string ⟨#[41]⟩, .string ⟨#[123]⟩, .string ⟨#[125]⟩, .string ⟨#[44]⟩, .string ⟨#[59]⟩]) (.int .i64 11)).run Tryd.prog w = .ok (.string ⟨#[41]⟩) w := fun _ => by kernel_rfl
        go_wp2_with (go_at_call 60; refine (PX.out _).mono ?_; rintro e w1 ⟨rfl, rfl⟩)
        go_round
        case rel => exact ⟨12, by omega, rfl, HP2⟩
        case measure => simp [intOf]
      · have HR := Lib.hid (sgl_hit _ 11 (by decide) hp hno.out)
        have PX : Hid (∀ w, Calls Tryd.prog 60 #[.string (s.extract a s.size), .string ⟨#[41]⟩] w fun e w' => e = .returned (.bool true) ∧ w = w') := fun w => pfx_any s a 11 _ _ rfl hp w
        have HL := Lib.hid (pfx_room hp)
        clear hp
        have ix : ∀ w, (Instr.index 94 (.agg #[.string ⟨#[60, 61]⟩, .string ⟨#[62, 61]⟩, .string ⟨#[60, 62]⟩, .string ⟨#[60]⟩, .string ⟨#[62]⟩, .string ⟨#[61]⟩, .string ⟨#[43]⟩, .string ⟨#[45]⟩, .string ⟨#[42]⟩, .string ⟨#[47]⟩, .string ⟨#[40]⟩, .string ⟨#[41]⟩, .string ⟨#[123]⟩, .string ⟨#[125]⟩, .string ⟨#[44]⟩, .string ⟨#[59]⟩]) (.int .i64 11)).run Tryd.prog w = .ok (.string ⟨#[41]⟩) w := fun _ => by kernel_rfl
        go_wp2_with (go_at_call 60; refine (PX.out _).mono ?_; rintro e w1 ⟨rfl, rfl⟩)
        go_ret2
        exact ext_ret T.out (by rw [HR.out]; rfl) (by rw [HR.out]; rfl) (Rel.refl _)
    · cases hp : pfx (s.data.toList.drop a) 12
      · have HP2 : Hid (∀ j, j < 13 → pfx (s.data.toList.drop a) j = false) := fun j hj => by
          rcases (show j < 12 ∨ j = 12 by omega) with h | rfl
          · exact hno.out j h
          · exact hp
        have PX : Hid (∀ w, Calls Tryd.prog 60 #[.string (s.extract a s.size), .string ⟨#[123]⟩] w fun e w' => e = .returned (.bool false) ∧ w = w') := fun w => pfx_any s a 12 _ _ rfl hp w
        clear hp
        have ix : ∀ w, (Instr.index 94 (.agg #[.string ⟨#[60, 61]⟩, .string ⟨#[62, 61]⟩, .string ⟨#[60, 62]⟩, .string ⟨#[60]⟩, .string ⟨#[62]⟩, .string ⟨#[61]⟩, .string ⟨#[43]⟩, .string ⟨#[45]⟩, .string ⟨#[42]⟩, .string ⟨#[47]⟩, .string ⟨#[40]⟩, .string ⟨#[41]⟩, .string ⟨#[123]⟩, .string ⟨#[125]⟩, .string ⟨#[44]⟩, .string ⟨#[59]⟩]) (.int .i64 12)).run Tryd.prog w = .ok (.string ⟨#[123]⟩) w := fun _ => by kernel_rfl
        go_wp2_with (go_at_call 60; refine (PX.out _).mono ?_; rintro e w1 ⟨rfl, rfl⟩)
        go_round
        case rel => exact ⟨13, by omega, rfl, HP2⟩
        case measure => simp [intOf]
      · have HR := Lib.hid (sgl_hit _ 12 (by decide) hp hno.out)
        have PX : Hid (∀ w, Calls Tryd.prog 60 #[.string (s.extract a s.size), .string ⟨#[123]⟩] w fun e w' => e = .returned (.bool true) ∧ w = w') := fun w => pfx_any s a 12 _ _ rfl hp w
        have HL := Lib.hid (pfx_room hp)
        clear hp
        have ix : ∀ w, (Instr.index 94 (.agg #[.string ⟨#[60, 61]⟩, .string ⟨#[62, 61]⟩, .string ⟨#[60, 62]⟩, .string ⟨#[60]⟩, .string ⟨#[62]⟩, .string ⟨#[61]⟩, .string ⟨#[43]⟩, .string ⟨#[45]⟩, .string ⟨#[42]⟩, .string ⟨#[47]⟩, .string ⟨#[40]⟩, .string ⟨#[41]⟩, .string ⟨#[123]⟩, .string ⟨#[125]⟩, .string ⟨#[44]⟩, .string ⟨#[59]⟩]) (.int .i64 12)).run Tryd.prog w = .ok (.string ⟨#[123]⟩) w := fun _ => by kernel_rfl
        go_wp2_with (go_at_call 60; refine (PX.out _).mono ?_; rintro e w1 ⟨rfl, rfl⟩)
        go_ret2
        exact ext_ret T.out (by rw [HR.out]; rfl) (by rw [HR.out]; rfl) (Rel.refl _)
    · cases hp : pfx (s.data.toList.drop a) 13
      · have HP2 : Hid (∀ j, j < 14 → pfx (s.data.toList.drop a) j = false) := fun j hj => by
          rcases (show j < 13 ∨ j = 13 by omega) with h | rfl
          · exact hno.out j h
          · exact hp
        have PX : Hid (∀ w, Calls Tryd.prog 60 #[.string (s.extract a s.size), .string ⟨#[125]⟩] w fun e w' => e = .returned (.bool false) ∧ w = w') := fun w => pfx_any s a 13 _ _ rfl hp w
        clear hp
        have ix : ∀ w, (Instr.index 94 (.agg #[.string ⟨#[60, 61]⟩, .string ⟨#[62, 61]⟩, .string ⟨#[60, 62]⟩, .string ⟨#[60]⟩, .string ⟨#[62]⟩, .string ⟨#[61]⟩, .string ⟨#[43]⟩, .string ⟨#[45]⟩, .string ⟨#[42]⟩, .string ⟨#[47]⟩, .string ⟨#[40]⟩, .string ⟨#[41]⟩, .string ⟨#[123]⟩, .string ⟨#[125]⟩, .string ⟨#[44]⟩, .string ⟨#[59]⟩]) (.int .i64 13)).run Tryd.prog w = .ok (.string ⟨#[125]⟩) w := fun _ => by kernel_rfl
        go_wp2_with (go_at_call 60; refine (PX.out _).mono ?_; rintro e w1 ⟨rfl, rfl⟩)
        go_round
        case rel => exact ⟨14, by omega, rfl, HP2⟩
        case measure => simp [intOf]
      · have HR := Lib.hid (sgl_hit _ 13 (by decide) hp hno.out)
        have PX : Hid (∀ w, Calls Tryd.prog 60 #[.string (s.extract a s.size), .string ⟨#[125]⟩] w fun e w' => e = .returned (.bool true) ∧ w = w') := fun w => pfx_any s a 13 _ _ rfl hp w
        have HL := Lib.hid (pfx_room hp)
        clear hp
        have ix : ∀ w, (Instr.index 94 (.agg #[.string ⟨#[60, 61]⟩, .string ⟨#[62, 61]⟩, .string ⟨#[60, 62]⟩, .string ⟨#[60]⟩, .string ⟨#[62]⟩, .string ⟨#[61]⟩, .string ⟨#[43]⟩, .string ⟨#[45]⟩, .string ⟨#[42]⟩, .string ⟨#[47]⟩, .string ⟨#[40]⟩, .string ⟨#[41]⟩, .string ⟨#[123]⟩, .string ⟨#[125]⟩, .string ⟨#[44]⟩, .string ⟨#[59]⟩]) (.int .i64 13)).run Tryd.prog w = .ok (.string ⟨#[125]⟩) w := fun _ => by kernel_rfl
        go_wp2_with (go_at_call 60; refine (PX.out _).mono ?_; rintro e w1 ⟨rfl, rfl⟩)
        go_ret2
        exact ext_ret T.out (by rw [HR.out]; rfl) (by rw [HR.out]; rfl) (Rel.refl _)
    · cases hp : pfx (s.data.toList.drop a) 14
      · have HP2 : Hid (∀ j, j < 15 → pfx (s.data.toList.drop a) j = false) := fun j hj => by
          rcases (show j < 14 ∨ j = 14 by omega) with h | rfl
          · exact hno.out j h
          · exact hp
        have PX : Hid (∀ w, Calls Tryd.prog 60 #[.string (s.extract a s.size), .string ⟨#[44]⟩] w fun e w' => e = .returned (.bool false) ∧ w = w') := fun w => pfx_any s a 14 _ _ rfl hp w
        clear hp
        have ix : ∀ w, (Instr.index 94 (.agg #[.string ⟨#[60, 61]⟩, .string ⟨#[62, 61]⟩, .string ⟨#[60, 62]⟩, .string ⟨#[60]⟩, .string ⟨#[62]⟩, .string ⟨#[61]⟩, .string ⟨#[43]⟩, .string ⟨#[45]⟩, .string ⟨#[42]⟩, .string ⟨#[47]⟩, .string ⟨#[40]⟩, .string ⟨#[41]⟩, .string ⟨#[123]⟩, .string ⟨#[125]⟩, .string ⟨#[44]⟩, .string ⟨#[59]⟩]) (.int .i64 14)).run Tryd.prog w = .ok (.string ⟨#[44]⟩) w := fun _ => by kernel_rfl
        go_wp2_with (go_at_call 60; refine (PX.out _).mono ?_; rintro e w1 ⟨rfl, rfl⟩)
        go_round
        case rel => exact ⟨15, by omega, rfl, HP2⟩
        case measure => simp [intOf]
      · have HR := Lib.hid (sgl_hit _ 14 (by decide) hp hno.out)
        have PX : Hid (∀ w, Calls Tryd.prog 60 #[.string (s.extract a s.size), .string ⟨#[44]⟩] w fun e w' => e = .returned (.bool true) ∧ w = w') := fun w => pfx_any s a 14 _ _ rfl hp w
        have HL := Lib.hid (pfx_room hp)
        clear hp
        have ix : ∀ w, (Instr.index 94 (.agg #[.string ⟨#[60, 61]⟩, .string ⟨#[62, 61]⟩, .string ⟨#[60, 62]⟩, .string ⟨#[60]⟩, .string ⟨#[62]⟩, .string ⟨#[61]⟩, .string ⟨#[43]⟩, .string ⟨#[45]⟩, .string ⟨#[42]⟩, .string ⟨#[47]⟩, .string ⟨#[40]⟩, .string ⟨#[41]⟩, .string ⟨#[123]⟩, .string ⟨#[125]⟩, .string ⟨#[44]⟩, .string ⟨#[59]⟩]) (.int .i64 14)).run Tryd.prog w = .ok (.string ⟨#[44]⟩) w := fun _ => by kernel_rfl
        go_wp2_with (go_at_call 60; refine (PX.out _).mono ?_; rintro e w1 ⟨rfl, rfl⟩)
        go_ret2
        exact ext_ret T.out (by rw [HR.out]; rfl) (by rw [HR.out]; rfl) (Rel.refl _)
    · cases hp : pfx (s.data.toList.drop a) 15
      · have HP2 : Hid (∀ j, j < 16 → pfx (s.data.toList.drop a) j = false) := fun j hj => by
          rcases (show j < 15 ∨ j = 15 by omega) with h | rfl
          · exact hno.out j h
          · exact hp
        have PX : Hid (∀ w, Calls Tryd.prog 60 #[.string (s.extract a s.size), .string ⟨#[59]⟩] w fun e w' => e = .returned (.bool false) ∧ w = w') := fun w => pfx_any s a 15 _ _ rfl hp w
        clear hp
        have ix : ∀ w, (Instr.index 94 (.agg #[.string ⟨#[60, 61]⟩, .string ⟨#[62, 61]⟩, .string ⟨#[60, 62]⟩, .string ⟨#[60]⟩, .string ⟨#[62]⟩, .string ⟨#[61]⟩, .string ⟨#[43]⟩, .string ⟨#[45]⟩, .string ⟨#[42]⟩, .string ⟨#[47]⟩, .string ⟨#[40]⟩, .string ⟨#[41]⟩, .string ⟨#[123]⟩, .string ⟨#[125]⟩, .string ⟨#[44]⟩, .string ⟨#[59]⟩]) (.int .i64 15)).run Tryd.prog w = .ok (.string ⟨#[59]⟩) w := fun _ => by kernel_rfl
        go_wp2_with (go_at_call 60; refine (PX.out _).mono ?_; rintro e w1 ⟨rfl, rfl⟩)
        go_round
        case rel => exact ⟨16, by omega, rfl, HP2⟩
        case measure => simp [intOf]
      · have HR := Lib.hid (sgl_hit _ 15 (by decide) hp hno.out)
        have PX : Hid (∀ w, Calls Tryd.prog 60 #[.string (s.extract a s.size), .string ⟨#[59]⟩] w fun e w' => e = .returned (.bool true) ∧ w = w') := fun w => pfx_any s a 15 _ _ rfl hp w
        have HL := Lib.hid (pfx_room hp)
        clear hp
        have ix : ∀ w, (Instr.index 94 (.agg #[.string ⟨#[60, 61]⟩, .string ⟨#[62, 61]⟩, .string ⟨#[60, 62]⟩, .string ⟨#[60]⟩, .string ⟨#[62]⟩, .string ⟨#[61]⟩, .string ⟨#[43]⟩, .string ⟨#[45]⟩, .string ⟨#[42]⟩, .string ⟨#[47]⟩, .string ⟨#[40]⟩, .string ⟨#[41]⟩, .string ⟨#[123]⟩, .string ⟨#[125]⟩, .string ⟨#[44]⟩, .string ⟨#[59]⟩]) (.int .i64 15)).run Tryd.prog w = .ok (.string ⟨#[59]⟩) w := fun _ => by kernel_rfl
        go_wp2_with (go_at_call 60; refine (PX.out _).mono ?_; rintro e w1 ⟨rfl, rfl⟩)
        go_ret2
        exact ext_ret T.out (by rw [HR.out]; rfl) (by rw [HR.out]; rfl) (Rel.refl _)

theorem extent_any (s : ByteArray) (a : Nat) (w : World) (hs : s.size ≤ 140737488355328) (ha : a < s.size) :
    Calls Tryd.prog 45 #[.string s, .int .i64 (a : Int)] w (ExtRes s a w) := by
  cases hl : low s[a]
  · cases hd : dgb s[a]
    · by_cases h64 : (s[a].toNat : Int) = 64
      · exact extent_d s a w hs ha hl hd h64
      · exact extent_s s a w hs ha hl hd h64
    · exact extent_n s a w hs ha hl hd
  · exact extent_w s a w hs ha hl

end Go.Proofs.YtfdajdlbkdfhoaaDoor

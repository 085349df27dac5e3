/- Contracts of Format, number and Parse of the calendar and of the reference. No conditions but those printed. -/
import Derived.Test.YtfdajdlbkdfhoaaDoorCalS
namespace Go.Proofs.YtfdajdlbkdfhoaaDoor
open Go.RowKit Cal Str

/-- The value of a text of digits; 0 where it is none. -/
def numV (l : List UInt8) : Int := if allD l = true then val l else 0
theorem numV_no {l : List UInt8} (h : allD l = false) : numV l = 0 := by unfold numV; rw [if_neg (by simp [h])]
theorem numV_yes {l : List UInt8} (h : allD l = true) : numV l = val l := by unfold numV; rw [if_pos h]
/-- The same of a string. -/
def strV (s : ByteArray) : Int := numV s.data.toList
def strB (s : ByteArray) : Bool := allD s.data.toList
def strB1 (s : ByteArray) : Bool := allD s.data.toList && decide (0 < s.size)

set_option maxHeartbeats 1000000 in
theorem number_any (s : ByteArray) (w : World) (hs : s.size ≤ 16) :
    Calls Tryd.prog 73 #[.string s] w fun e w' => e = .returned (.tuple #[.int .i64 (strV s), .bool (strB s)]) ∧ w = w' := by
  go_enter Tryd.func73, Tryd.ntmps73
  go_wp2
  go_loop [4, 5] (fun x i => ∃ k : Nat, k ≤ s.size ∧ i = .int .i64 k ∧ x = .int .i64 (val (s.data.toList.take k)) ∧ Hid (allD (s.data.toList.take k) = true)) (fun _ i => s.size - (intOf i).toNat)
  case atStart => exact ⟨0, by omega, rfl, rfl, rfl⟩
  case round =>
    obtain ⟨k, hk, rfl, rfl, hA⟩ := hrel
    have hl : (s.data.toList.take k).length ≤ k := List.length_take_le _ _
    obtain ⟨v0, v1⟩ := val_le16 _ hA.out (by omega)
    by_cases hlt : k < s.size
    · have hts := Lib.hid (take_snoc s k hlt)
      have c0 : 0 ≤ (s[k].toNat : Int) := by omega
      have c1 : (s[k].toNat : Int) ≤ 255 := by have := s[k].toNat_lt; omega
      by_cases hd : 48 ≤ (s[k].toNat : Int) ∧ (s[k].toNat : Int) ≤ 57
      · obtain ⟨d0, d1⟩ := hd
        have e1 : val (s.data.toList.take (k + 1)) = 10 * val (s.data.toList.take k) + ((s[k].toNat : Int) - 48) := by rw [hts.out, val_snoc]
        have e2 : allD (s.data.toList.take (k + 1)) = true := by rw [hts.out, allD_snoc, hA.out]; simp; omega
        have E1 := Lib.hid e1
        have E2 := Lib.hid e2
        clear e1 e2
        go_wp2
        go_round
        case rel => exact ⟨k + 1, by omega, by go_num, by rw [E1.out], E2⟩
        case measure => simp [intOf]; omega
      · have hno := allD_not s k hlt hd
        have hn0 := Lib.hid (numV_no hno)
        have hN := Lib.hid hno
        clear hno
        go_wp2
        all_goals
          go_ret2
          exact ⟨ret_ib hn0.out.symm hN.out.symm, rfl⟩
    · have ht := take_all s k (by omega)
      have hv : val (s.data.toList.take k) = numV s.data.toList := by
        have := hA.out; rw [ht] at this; rw [numV_yes this, ht]
      have hT : allD s.data.toList = true := by rw [← ht]; exact hA.out
      have HV := Lib.hid hv
      have HT := Lib.hid hT
      clear ht hv hT
      go_wp2
      go_ret2
      exact ⟨ret_ib HV.out HT.out.symm, rfl⟩

set_option maxHeartbeats 1000000 in
theorem whole_any (s : ByteArray) (w : World) (hs : s.size ≤ 16) :
    Calls Tryd.prog 41 #[.string s] w fun e w' => e = .returned (.tuple #[.int .i64 (strV s), .bool (strB1 s)]) ∧ w = w' := by
  go_enter Tryd.func41, Tryd.ntmps41
  go_wp2
  go_loop [4, 5] (fun x i => ∃ k : Nat, k ≤ s.size ∧ i = .int .i64 k ∧ x = .int .i64 (val (s.data.toList.take k)) ∧ Hid (allD (s.data.toList.take k) = true)) (fun _ i => s.size - (intOf i).toNat)
  case atStart => exact ⟨0, by omega, rfl, rfl, rfl⟩
  case round =>
    obtain ⟨k, hk, rfl, rfl, hA⟩ := hrel
    have hl : (s.data.toList.take k).length ≤ k := List.length_take_le _ _
    obtain ⟨v0, v1⟩ := val_le16 _ hA.out (by omega)
    by_cases hlt : k < s.size
    · have hts := Lib.hid (take_snoc s k hlt)
      have c0 : 0 ≤ (s[k].toNat : Int) := by omega
      have c1 : (s[k].toNat : Int) ≤ 255 := by have := s[k].toNat_lt; omega
      by_cases hd : 48 ≤ (s[k].toNat : Int) ∧ (s[k].toNat : Int) ≤ 57
      · obtain ⟨d0, d1⟩ := hd
        have e1 : val (s.data.toList.take (k + 1)) = 10 * val (s.data.toList.take k) + ((s[k].toNat : Int) - 48) := by rw [hts.out, val_snoc]
        have e2 : allD (s.data.toList.take (k + 1)) = true := by rw [hts.out, allD_snoc, hA.out]; simp; omega
        have E1 := Lib.hid e1
        have E2 := Lib.hid e2
        clear e1 e2
        go_wp2
        go_round
        case rel => exact ⟨k + 1, by omega, by go_num, by rw [E1.out, Int.mul_comm], E2⟩
        case measure => simp [intOf]; omega
      · have hno := allD_not s k hlt hd
        have hn0 := Lib.hid (numV_no hno)
        have hN := Lib.hid hno
        clear hno
        go_wp2
        all_goals
          go_ret2
          exact ⟨ret_ib hn0.out.symm (by rw [strB1, hN.out]; rfl), rfl⟩
    · have ht := take_all s k (by omega)
      have hv : val (s.data.toList.take k) = numV s.data.toList := by
        have := hA.out; rw [ht] at this; rw [numV_yes this, ht]
      have hT : allD s.data.toList = true := by rw [← ht]; exact hA.out
      have HV := Lib.hid hv
      have HT := Lib.hid hT
      clear ht hv hT
      go_wp2
      go_ret2
      exact ⟨ret_ib HV.out (by rw [strB1, HT.out]; rfl), rfl⟩

/-- The byte at a place; 0 behind the end. -/
def byteAt (s : ByteArray) (k : Nat) : Int := if h : k < s.size then ((s[k]'h).toNat : Int) else 0
/-- Has the text a date's form? -/
def formB (s : ByteArray) : Bool := decide (s.size = 10) && (byteAt s 4 == 45 && byteAt s 7 == 45)
def digsB (s : ByteArray) : Bool := strB (s.extract 0 4) && (strB (s.extract 5 7) && strB (s.extract 8 s.size))
/-- Is it the text of a day, and of which? -/
def prsB (s : ByteArray) : Bool := formB s && (digsB s && dateB (strV (s.extract 0 4)) (strV (s.extract 5 7)) (strV (s.extract 8 s.size)))
def prsN (s : ByteArray) : Int := if formB s = true ∧ digsB s = true then dayN (strV (s.extract 0 4)) (strV (s.extract 5 7)) (strV (s.extract 8 s.size)) else 0

theorem form_cases {s : ByteArray} (h : formB s = false) : ¬ s.size = 10 ∨ (∃ (h4 : 4 < s.size), 7 < s.size ∧ s.size ≤ 10 ∧ 10 ≤ s.size ∧ ¬ (s[4].toNat : Int) = 45) ∨ (∃ (h4 : 4 < s.size) (h7 : 7 < s.size), s.size ≤ 10 ∧ 10 ≤ s.size ∧ (s[4].toNat : Int) = 45 ∧ ¬ (s[7].toNat : Int) = 45) := by
  by_cases h1 : s.size = 10
  · have h4 : 4 < s.size := by omega
    have h7 : 7 < s.size := by omega
    have g4 : byteAt s 4 = (s[4].toNat : Int) := by unfold byteAt; rw [dif_pos h4]
    have g7 : byteAt s 7 = (s[7].toNat : Int) := by unfold byteAt; rw [dif_pos h7]
    by_cases e4 : (s[4].toNat : Int) = 45
    · refine .inr (.inr ⟨h4, h7, by omega, by omega, e4, fun e7 => ?_⟩)
      simp [formB, h1, g4, e4, g7, e7] at h
    · exact .inr (.inl ⟨h4, h7, by omega, by omega, e4⟩)
  · exact .inl h1
theorem form_yes {s : ByteArray} (h : formB s = true) : ∃ (h4 : 4 < s.size) (h7 : 7 < s.size), s.size ≤ 10 ∧ 10 ≤ s.size ∧ (s[4].toNat : Int) = 45 ∧ (s[7].toNat : Int) = 45 := by
  simp [formB] at h
  obtain ⟨h1, e4, e7⟩ := h
  have h4 : 4 < s.size := by omega
  have h7 : 7 < s.size := by omega
  have g4 : byteAt s 4 = (s[4].toNat : Int) := by unfold byteAt; rw [dif_pos h4]
  have g7 : byteAt s 7 = (s[7].toNat : Int) := by unfold byteAt; rw [dif_pos h7]
  exact ⟨h4, h7, by omega, by omega, by omega, by omega⟩

set_option maxHeartbeats 1000000 in
theorem Parse_form (s : ByteArray) (w : World) (hs : s.size ≤ maxLen) (h : formB s = false) :
    Calls Tryd.prog 59 #[.string s] w fun e w' => e = .returned (.tuple #[.int .i64 0, .bool false]) ∧ Below w.heap.size w w' := by
  unfold maxLen at hs
  rcases form_cases h with h1 | ⟨h4, h7, h9, h10, e4⟩ | ⟨h4, h7, h9, h10, e4, e7⟩
  · have hb : ((s.size : Int) != 10) = true := by simp; omega
    clear h h1
    go_enter Tryd.func59, Tryd.ntmps59
    go_wp2
    go_ret2
    exact ⟨rfl, Below.refl _ _⟩
  · have hb : ((s.size : Int) != 10) = false := by simp; omega
    have e4' : ((s[4].toNat : Int) != 45) = true := by simpa using e4
    clear h e4
    go_enter Tryd.func59, Tryd.ntmps59
    go_wp2
    go_ret2
    exact ⟨rfl, Below.refl _ _⟩
  · have hb : ((s.size : Int) != 10) = false := by simp; omega
    have e4' : ((s[4].toNat : Int) != 45) = false := by simpa using e4
    have e7' : ((s[7].toNat : Int) != 45) = true := by simpa using e7
    clear h e4 e7
    go_enter Tryd.func59, Tryd.ntmps59
    go_wp2
    go_ret2
    exact ⟨rfl, Below.refl _ _⟩

theorem pc_size (s : ByteArray) (h : s.size ≤ 10) (a b : Nat) : (s.extract a b).size ≤ 10 := by
  rw [ByteArray.size_extract]; omega
set_option maxHeartbeats 1000000 in
theorem Parse_yes (s : ByteArray) (w : World) (h : formB s = true) :
    Calls Tryd.prog 59 #[.string s] w fun e w' => e = .returned (.tuple #[.int .i64 (prsN s), .bool (prsB s)]) ∧ Below w.heap.size w w' := by
  obtain ⟨h4, h7, h9, h10, e4, e7⟩ := form_yes h
  have hb : ((s.size : Int) != 10) = false := by simp; omega
  have e4' : ((s[4].toNat : Int) != 45) = false := by simpa using e4
  have e7' : ((s[7].toNat : Int) != 45) = false := by simpa using e7
  have p1 := pc_size s h9 0 4
  have p2 := pc_size s h9 5 7
  have p3 := pc_size s h9 8 s.size
  clear e4 e7
  cases k1 : strB (s.extract 0 4)
  · have hF := Lib.hid (show prsN s = 0 ∧ prsB s = false by simp [prsN, prsB, digsB, h, k1])
    clear h
    go_enter Tryd.func59, Tryd.ntmps59
    go_wp2_with (go_at_call 73; refine (number_any _ _ (by omega)).mono ?_; rintro e w1 ⟨rfl, rfl⟩)
    go_ret2
    exact ⟨ret_ib hF.out.1.symm hF.out.2.symm, (by repeat (first | with_reducible exact Below.refl _ _ | with_reducible assumption | refine below_seq ?_ (by with_reducible assumption)))⟩
  · cases k2 : strB (s.extract 5 7)
    · have hF := Lib.hid (show prsN s = 0 ∧ prsB s = false by simp [prsN, prsB, digsB, h, k1, k2])
      clear h
      go_enter Tryd.func59, Tryd.ntmps59
      go_wp2_with (go_at_call 73; refine (number_any _ _ (by omega)).mono ?_; rintro e w1 ⟨rfl, rfl⟩)
      go_ret2
      exact ⟨ret_ib hF.out.1.symm hF.out.2.symm, (by repeat (first | with_reducible exact Below.refl _ _ | with_reducible assumption | refine below_seq ?_ (by with_reducible assumption)))⟩
    · cases k3 : strB (s.extract 8 s.size)
      · have hF := Lib.hid (show prsN s = 0 ∧ prsB s = false by simp [prsN, prsB, digsB, h, k1, k2, k3])
        clear h
        go_enter Tryd.func59, Tryd.ntmps59
        go_wp2_with (go_at_call 73; refine (number_any _ _ (by omega)).mono ?_; rintro e w1 ⟨rfl, rfl⟩)
        go_ret2
        exact ⟨ret_ib hF.out.1.symm hF.out.2.symm, (by repeat (first | with_reducible exact Below.refl _ _ | with_reducible assumption | refine below_seq ?_ (by with_reducible assumption)))⟩
      · have hF := Lib.hid (show prsN s = dayN (strV (s.extract 0 4)) (strV (s.extract 5 7)) (strV (s.extract 8 s.size)) ∧ prsB s = dateB (strV (s.extract 0 4)) (strV (s.extract 5 7)) (strV (s.extract 8 s.size)) by simp [prsN, prsB, digsB, h, k1, k2, k3])
        clear h
        go_enter Tryd.func59, Tryd.ntmps59
        go_wp2_with (first | (go_at_call 73; refine (number_any _ _ (by omega)).mono ?_; rintro e w1 ⟨rfl, rfl⟩) | (go_at_call 74; refine (Day_any _ _ _ _).mono ?_; rintro e w1 ⟨rfl, hb1⟩))
        go_ret2
        exact ⟨ret_ib hF.out.1.symm hF.out.2.symm, (by repeat (first | with_reducible exact Below.refl _ _ | with_reducible assumption | refine below_seq ?_ (by with_reducible assumption)))⟩

theorem Parse_any (s : ByteArray) (w : World) (hs : s.size ≤ maxLen) :
    Calls Tryd.prog 59 #[.string s] w fun e w' => e = .returned (.tuple #[.int .i64 (prsN s), .bool (prsB s)]) ∧ Below w.heap.size w w' := by
  cases h : formB s
  · refine (Parse_form s w hs h).mono ?_
    rintro e w' ⟨rfl, hb⟩
    exact ⟨by simp [prsN, prsB, h], hb⟩
  · exact Parse_yes s w h

end Go.Proofs.YtfdajdlbkdfhoaaDoor

/- Contracts of strings.Cut at one byte, of token.natural and of the reference's parts. No conditions but those printed. -/
import Derived.Test.YtnhmebhmlbofgaaDoorTokA
import Derived.Test.YtnhmebhmlbofgaaDoorTokDec
import Derived.Test.YtnhmebhmlbofgaaDoorRatJ
import Derived.Deep.CutRange
import Derived.Deep.DeepCutAuto
namespace Go.Proofs.YtnhmebhmlbofgaaDoor
open Go.RowKit Cal Str Tok Frac
set_option linter.unusedVariables false

theorem index1_any (s : ByteArray) (w : World) : Calls Tryd.prog 91 #[.string s, .string ⟨#[46]⟩] w fun e w' => e = .returned (.int .i64 (Lib.indexByte s.data.toList 46)) ∧ w = w' :=
  (Tryd.stringslite_Index_one s 46 w).mono fun e w' ⟨a, b⟩ => ⟨a, b.symm⟩

set_option maxHeartbeats 1000000 in
theorem cut1_any (s : ByteArray) (w : World) (hs : s.size ≤ maxLen) :
    Calls Tryd.prog 85 #[.string s, .string ⟨#[46]⟩] w fun e w' => e = .returned (.tuple #[.string (ahS s), .string (bhS s), .bool (pnS s)]) ∧ Rel w w' := by
  unfold maxLen at hs
  rcases idx_pnt s.data.toList with ⟨hp, hi⟩ | ⟨hp, hi, hl⟩
  · have hr := Lib.hid (noS s hp)
    have hP : Hid (pnS s = false) := hp
    have hI := Lib.hid hi
    clear hp hi
    go_enter Tryd.func85, Tryd.ntmps85
    go_wp2_with (go_at_call 91; refine (index1_any _ _).mono ?_; rw [hI.out]; rintro e w1 ⟨rfl, rfl⟩)
    refine bodyPost_ret ?_ rfl ⟨rfl, Rel.refl _⟩
    rw [hr.out.1, hr.out.2, hP.out]
    simp [results, Tryd.results85, go_sem]
  · obtain ⟨n, hn⟩ : ∃ n, (ahd s.data.toList).length = n := ⟨_, rfl⟩
    have hlen := size_list s
    rw [hn] at hi hl
    rw [hlen] at hl
    have e1 := Lib.hid (ahS_take s hn)
    have e2 := Lib.hid (bhS_drop s hp hn)
    have hP : Hid (pnS s = true) := hp
    have hI := Lib.hid hi
    clear hp hi hn hlen
    have q1 : IntKind.i64.wrap ((n : Int) + 1) = (n : Int) + 1 := IntWalk.i64_in _ ⟨by omega, by omega⟩
    have q2 : ((n : Int) + 1).toNat = n + 1 := by omega
    have q3 : (0 : Int) ≤ (n : Int) + 1 := by omega
    have q4 : (n : Int) + 1 ≤ (s.size : Int) := by omega
    have q5 : (n : Int) ≤ (s.size : Int) := by omega
    go_enter Tryd.func85, Tryd.ntmps85
    go_wp2_with (go_at_call 91; refine (index1_any _ _).mono ?_; rw [hI.out]; rintro e w1 ⟨rfl, rfl⟩)
    refine wp_region_calm (fun _ _ => True) (fun _ => false) [0, 1, 2, 3, 4, 5, 6, 7, 8, 9, 10, 11] 0 (by kernel_rfl) (by kernel_rfl) (fun _ _ _ _ _ => trivial) trivial (fun w0 h0 => ?_)
    iterate 12
      refine wpCalm_go rfl (by kernel_rfl) (fun K hK => ?_)
      apply Exists.intro
      refine ⟨fun M w hM hS => ?_, hK _ ?_⟩
      · unfold calmAt
        go_simp
        exact ⟨rfl, Rel.refl _⟩
      clear hK K
    refine wpCalm_nil (wpAnyR_end (by kernel_rfl) (fun w1 h1 => ?_))
    simp only [Act.put, List.setIfInBounds_toArray, List.set_cons_zero, List.set_cons_succ]
    go_wp2
    refine bodyPost_ret ?_ rfl ⟨rfl, h0.trans h1⟩
    rw [← e1.out, ← e2.out, hP.out]
    simp [results, Tryd.results85, go_sem]

theorem cut_any (s : ByteArray) (w : World) (hs : s.size ≤ maxLen) :
    Calls Tryd.prog 79 #[.string s, .string ⟨#[46]⟩] w fun e w' => e = .returned (.tuple #[.string (ahS s), .string (bhS s), .bool (pnS s)]) ∧ Rel w w' := by
  go_enter Tryd.func79, Tryd.ntmps79
  go_wp2_with (go_at_call 85; refine (cut1_any _ _ hs).mono ?_; rintro e w1 ⟨rfl, hb⟩)
  refine bodyPost_ret ?_ rfl ⟨rfl, hb⟩
  simp [results, Tryd.results79, go_sem]

theorem dgb_bd {c : UInt8} (h : dgb c = true) : 48 ≤ (c.toNat : Int) ∧ (c.toNat : Int) ≤ 57 := by unfold dgb at h; simpa using h
theorem dgb_no {c : UInt8} (h : dgb c = false) : ¬ (48 ≤ (c.toNat : Int) ∧ (c.toNat : Int) ≤ 57) := by unfold dgb at h; simp at h; omega

set_option maxHeartbeats 1000000 in
theorem natural_any (s : ByteArray) (w : World) (hs : s.size ≤ 16) :
    Calls Tryd.prog 80 #[.string s] w fun e w' => e = .returned (.tuple #[.int .i64 (strV s), .bool (strB s)]) ∧ w = w' := by
  go_enter Tryd.func80, Tryd.ntmps80
  go_wp2
  go_loop [2, 4] (fun x i => ∃ k : Nat, k ≤ s.size ∧ i = .int .i64 k ∧ x = .int .i64 (val (s.data.toList.take k)) ∧ Hid (allD (s.data.toList.take k) = true)) (fun _ i => s.size - (intOf i).toNat)
  case atStart => exact ⟨0, by omega, rfl, rfl, rfl⟩
  case round =>
    obtain ⟨k, hk, rfl, rfl, hA⟩ := hrel
    have hl : (s.data.toList.take k).length ≤ k := List.length_take_le _ _
    obtain ⟨v0, v1⟩ := val_le16 _ hA.out (by omega)
    by_cases hlt : k < s.size
    · have hts := Lib.hid (take_snoc s k hlt)
      have c0 : 0 ≤ (s[k].toNat : Int) := by omega
      have c1 : (s[k].toNat : Int) ≤ 255 := by have := s[k].toNat_lt; omega
      cases hd : dgb s[k]
      · have hno := allD_not s k hlt (dgb_no hd)
        have hn0 := Lib.hid (numV_no hno)
        have hN := Lib.hid hno
        clear hno
        go_wp2_with (go_at_call 86; refine (digit_any _ _).mono ?_; rintro e w1 ⟨rfl, rfl⟩)
        go_ret2
        exact ⟨ret_ib hn0.out.symm hN.out.symm, rfl⟩
      · obtain ⟨d0, d1⟩ := dgb_bd hd
        have e1 : val (s.data.toList.take (k + 1)) = 10 * val (s.data.toList.take k) + ((s[k].toNat : Int) - 48) := by rw [hts.out, val_snoc]
        have e2 : allD (s.data.toList.take (k + 1)) = true := by rw [hts.out, allD_snoc, hA.out]; simp; omega
        have E1 := Lib.hid e1
        have E2 := Lib.hid e2
        clear e1 e2
        go_wp2_with (go_at_call 86; refine (digit_any _ _).mono ?_; rintro e w1 ⟨rfl, rfl⟩)
        go_round
        case rel => exact ⟨k + 1, by omega, by go_num, by rw [E1.out], E2⟩
        case measure => simp [intOf]; omega
    · have ht := take_all s k (by omega)
      have hv : val (s.data.toList.take k) = numV s.data.toList := by
        have := hA.out; rw [ht] at this; rw [numV_yes this, ht]
      have hT : allD s.data.toList = true := by rw [← ht]; exact hA.out
      have HV := Lib.hid hv
      have HT := Lib.hid hT
      clear ht hv hT
      go_wp2
      go_ret2
      exact ⟨ret_ib HV.out HT.out.symm, rfl⟩

end Go.Proofs.YtnhmebhmlbofgaaDoor

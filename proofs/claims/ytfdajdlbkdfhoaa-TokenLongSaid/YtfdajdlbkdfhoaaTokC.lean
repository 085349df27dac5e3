/- Contracts of the reference's parts and Decimal. No conditions but those printed. -/
import Derived.Test.YtfdajdlbkdfhoaaTokB
namespace Go.Proofs.Ytfdajdlbkdfhoaa
open Go.RowKit Cal Str Tok Frac
attribute [local go_sem] calmUpon
set_option linter.unusedVariables false
set_option linter.unusedSimpArgs false

/-- What parts returns. -/
def ptA (s : ByteArray) : ByteArray := if decB s = true then ahS (brS s) else ⟨#[]⟩
def ptB (s : ByteArray) : ByteArray := if decB s = true then bhS (brS s) else ⟨#[]⟩
theorem pt_no {s : ByteArray} (h : decB s = false) : ptA s = ⟨#[]⟩ ∧ ptB s = ⟨#[]⟩ := by unfold ptA ptB; rw [if_neg (by simp [h]), if_neg (by simp [h])]; exact ⟨rfl, rfl⟩
theorem pt_yes {s : ByteArray} (h : decB s = true) : ptA s = ahS (brS s) ∧ ptB s = bhS (brS s) := by unfold ptA ptB; rw [if_pos h, if_pos h]; exact ⟨rfl, rfl⟩

def PtRes (s : ByteArray) (w : World) (e : Ending) (w' : World) : Prop := e = .returned (.tuple #[.string (ptA s), .string (ptB s), .int .i64 (decX s), .bool (decB s)]) ∧ w = w'
theorem pt_ret_no {s : ByteArray} {w : World} (h : decB s = false) : PtRes s w (.returned (.tuple #[.string ⟨#[]⟩, .string ⟨#[]⟩, .int .i64 0, .bool false])) w := by
  unfold PtRes; rw [(pt_no h).1, (pt_no h).2, (dec_no h).2.2, h]; exact ⟨rfl, rfl⟩
theorem pt_ret_yes {s a b : ByteArray} {d : Int} {w : World} (h : decB s = true) (ha : ahS (brS s) = a) (hb : bhS (brS s) = b) (hd : sufI s = d) : PtRes s w (.returned (.tuple #[.string a, .string b, .int .i64 d, .bool true])) w := by
  unfold PtRes; rw [(pt_yes h).1, (pt_yes h).2, (dec_yes h).2.2, h, ha, hb, hd]; exact ⟨rfl, rfl⟩

theorem ahd_step (l : List UInt8) (x : UInt8) : (ahd (x :: l)).length = if (x.toNat : Int) = 46 then 0 else (ahd l).length + 1 := by
  simp only [ahd]; split <;> rfl

set_option maxRecDepth 100000 in
set_option maxHeartbeats 4000000 in
theorem parts_any (s : ByteArray) (w : World) (hs : s.size ≤ maxLen) :
    Calls Try.prog 27 #[.string s] w (PtRes s w) := by
  unfold maxLen at hs
  obtain ⟨t, ht⟩ : ∃ t, brS s = t := ⟨_, rfl⟩
  obtain ⟨d, hd⟩ : ∃ d, sufI s = d := ⟨_, rfl⟩
  have hts : t.size ≤ 9223372036854775807 := by have := br_size s; rw [ht] at this; omega
  obtain ⟨c, hc⟩ : ∃ c : Bool, c = decide (d = 3) := ⟨_, rfl⟩
  have HT := Lib.hid ht
  have HC := Lib.hid hc
  have HD := Lib.hid hd
  clear ht hd hc
  go_enter Try.func27, Try.ntmps27
  go_upto_region 3 with (fail)
  go_cut [24] (fun s24 wx => s24 = .bool c ∧ w = wx)
  case first =>
    by_cases h0 : 0 < s.size
    · have i1 : IntKind.i64.wrap ((s.size : Int) - 1) = (s.size : Int) - 1 := IntWalk.i64_in _ ⟨by omega, by omega⟩
      have i2 : ((s.size : Int) - 1).toNat = s.size - 1 := by omega
      have i3 : (0 : Int) ≤ (s.size : Int) - 1 := by omega
      have i4 : (1 : Int) ≤ (s.size : Int) := by omega
      have i5 : s.size - 1 < s.size := by omega
      by_cases h1 : ((s[s.size - 1]'(by omega)).toNat : Int) = 100
      · have e1 := (suf_d h0 h1).1
        rw [HD.out] at e1
        have E1 := Lib.hid e1
        have b1 : (((s[s.size - 1]'(by omega)).toNat : Int) == 100) = true := by simpa using h1
        clear e1 h1
        go_wp2
        go_meet
        case rel => exact ⟨by rw [HC.out, E1.out]; rfl, rfl⟩
      · have b1 : (((s[s.size - 1]'(by omega)).toNat : Int) == 100) = false := by simpa using h1
        have E1 : Hid (d = 2 ∨ d = 4) := by
          show _ ∨ _
          rw [← HD.out]
          by_cases h2 : ((s[s.size - 1]'(by omega)).toNat : Int) = 109
          · exact .inr (suf_m h0 h2).1
          · exact .inl (suf_n h0 h1 h2).1
        clear h1
        go_wp2
        go_meet
        case rel => exact ⟨by rw [HC.out, decide_eq_false (by rcases E1.out with h | h <;> rw [h] <;> decide)], rfl⟩
    · have e1 := (suf_nil h0).1
      rw [HD.out] at e1
      have E1 := Lib.hid e1
      clear e1
      go_wp2
      go_meet
      case rel => exact ⟨by rw [HC.out, E1.out]; rfl, rfl⟩
  case rest =>
    obtain ⟨rfl, rfl⟩ := hcut
    go_upto_if 24 with (fail)
    go_cut [0, 6] (fun s0 s6 wx => s0 = .string t ∧ s6 = .int .i64 d ∧ w = wx)
    case first =>
      by_cases h0 : 0 < s.size
      · have i1 : IntKind.i64.wrap ((s.size : Int) - 1) = (s.size : Int) - 1 := IntWalk.i64_in _ ⟨by omega, by omega⟩
        have i2 : ((s.size : Int) - 1).toNat = s.size - 1 := by omega
        have i3 : (0 : Int) ≤ (s.size : Int) - 1 := by omega
        have i4 : (1 : Int) ≤ (s.size : Int) := by omega
        have i5 : s.size - 1 < s.size := by omega
        by_cases h1 : ((s[s.size - 1]'(by omega)).toNat : Int) = 100
        · obtain ⟨e1, e2⟩ := suf_d h0 h1
          rw [HD.out] at e1
          rw [HT.out] at e2
          obtain rfl : c = true := by rw [HC.out, e1]; rfl
          have E1 := Lib.hid e1
          have E2 := Lib.hid e2
          clear e1 e2 h1
          go_wp2
          go_meet
          case rel => exact ⟨by rw [E2.out], by rw [E1.out], rfl⟩
        · by_cases h2 : ((s[s.size - 1]'(by omega)).toNat : Int) = 109
          · obtain ⟨e1, e2⟩ := suf_m h0 h2
            rw [HD.out] at e1
            rw [HT.out] at e2
            obtain rfl : c = false := by rw [HC.out, e1]; rfl
            have E1 := Lib.hid e1
            have E2 := Lib.hid e2
            have b2 : (((s[s.size - 1]'(by omega)).toNat : Int) == 109) = true := by simpa using h2
            clear e1 e2 h1 h2
            go_wp2
            go_meet
            case rel => exact ⟨by rw [E2.out], by rw [E1.out], rfl⟩
          · obtain ⟨e1, e2⟩ := suf_n h0 h1 h2
            rw [HD.out] at e1
            rw [HT.out] at e2
            obtain rfl : c = false := by rw [HC.out, e1]; rfl
            have E1 := Lib.hid e1
            have E2 := Lib.hid e2
            have b2 : (((s[s.size - 1]'(by omega)).toNat : Int) == 109) = false := by simpa using h2
            clear e1 e2 h1 h2
            go_wp2
            go_meet
            case rel => exact ⟨by rw [E2.out], by rw [E1.out], rfl⟩
      · obtain ⟨e1, e2⟩ := suf_nil h0
        rw [HD.out] at e1
        rw [HT.out] at e2
        obtain rfl : c = false := by rw [HC.out, e1]; rfl
        have E1 := Lib.hid e1
        have E2 := Lib.hid e2
        clear e1 e2
        go_wp2
        go_meet
        case rel => exact ⟨by rw [E2.out], by rw [E1.out], rfl⟩
    case rest =>
      obtain ⟨rfl, rfl, rfl⟩ := hcut
      clear hs
      go_wp2
      go_loop [8, 9] (fun a i => ∃ (j m : Nat) (x : Int), a = .int .i64 m ∧ i = .int .i64 x ∧ x = (j : Int) - 1 ∧ j ≤ t.size ∧ m ≤ t.size ∧ Hid (m = j + (ahd (t.data.toList.drop j)).length)) (fun _ i => (intOf i + 1).toNat)
      case atStart => exact ⟨t.size, t.size, _, rfl, rfl, rfl, by omega, by omega, by unfold Hid; rw [drop_end t t.size (by omega)]; rfl⟩
      case round =>
        obtain ⟨j, m, x, rfl, rfl, hx, hj, hm, hA⟩ := hrel
        by_cases hj0 : j = 0
        · subst hj0
          obtain rfl : x = -1 := by omega
          clear hx
          have hn := hA.out
          rw [List.drop_zero, Nat.zero_add] at hn
          have ea := ahS_take t hn.symm
          obtain ⟨a, ha⟩ : ∃ a, ahS t = a := ⟨_, rfl⟩
          obtain ⟨b, hb⟩ : ∃ b, bhS t = b := ⟨_, rfl⟩
          obtain ⟨p, hp⟩ : ∃ p, pnS t = p := ⟨_, rfl⟩
          have hasz : a.size = m := by rw [← ha, ahS_size]; exact hn.symm
          have hbsz : a.size + b.size ≤ t.size := by rw [← ha, ← hb, ahS_size, bhS_size, ← size_list t]; exact bhd_len _
          have hbd : p = true → t.extract (m + 1) t.size = b := fun h => by rw [← hb]; exact bhS_drop t (hp.trans h) hn.symm
          have hpm : (p = true ↔ m < t.size) := by
            rcases idx_pnt t.data.toList with ⟨h1, _⟩ | ⟨h1, _, h3⟩
            · have h1' : pnS t = false := h1
              rw [hp] at h1'
              have := (bhd_no h1).2
              rw [this, size_list] at hn
              rw [h1']; simp; omega
            · have h1' : pnS t = true := h1
              rw [hp] at h1'
              rw [size_list] at h3
              rw [h1']; simp; omega
          have hno : p = false → b = ⟨#[]⟩ := fun h => by rw [← hb]; exact (noS t (hp.trans h)).2
          rw [ha] at ea
          have EA := Lib.hid ea
          have HA : Hid (ahS (brS s) = a) := by show _ = _; rw [HT.out, ha]
          have HB : Hid (bhS (brS s) = b) := by show _ = _; rw [HT.out, hb]
          have HP : Hid (pnS (brS s) = p) := by show _ = _; rw [HT.out, hp]
          have HNO := Lib.hid hno
          have HBD := Lib.hid hbd
          have HPM := Lib.hid hpm
          have HSZ := Lib.hid hasz
          clear hA hn ea ha hb hp hbd hpm hno hasz
          go_upto_if 62 with (fail)
          go_cut [11] (fun s11 wx => s11 = .string b ∧ w = wx ∧ (p = true → 1 ≤ b.size ∧ b.size ≤ 4))
          case first =>
            cases p
            · have hm2 : ¬ (m : Int) < (t.size : Int) := by
                have := HPM.out; simp at this; omega
              go_wp2
              go_meet
              case rel => exact ⟨by rw [HNO.out (by first | rfl | trivial)], rfl, fun h => by cases h⟩
            · have hm2 : m < t.size := HPM.out.1 rfl
              have hz := congrArg ByteArray.size (HBD.out rfl)
              rw [ByteArray.size_extract, Nat.min_self] at hz
              have HZ := Lib.hid hz
              by_cases hg : 1 ≤ b.size ∧ b.size ≤ 4
              · obtain ⟨g1, g4⟩ := hg
                have z1 : 1 ≤ t.size - (m + 1) := by omega
                have z4 : t.size - (m + 1) ≤ 4 := by omega
                clear hz
                go_wp2
                go_meet
                case rel => exact ⟨by rw [HBD.out (by first | rfl | trivial)], rfl, fun _ => ⟨g1, g4⟩⟩
              · have hn := Lib.hid (dec_n1 HA.out HB.out HP.out rfl hg)
                rcases (show t.size - (m + 1) < 1 ∨ (1 ≤ t.size - (m + 1) ∧ 4 < t.size - (m + 1)) by omega) with hg2 | ⟨hg2, hg3⟩
                all_goals
                  clear hz hg
                  go_wp2
                  refine bodyPost_ret ?_ rfl (pt_ret_no hn.out)
                  simp [results, Try.results27, go_sem]
          case rest =>
            obtain ⟨rfl, rfl, hp4⟩ := hcut
            have HP4 := Lib.hid hp4
            have hasz := HSZ.out
            have ht2 : a.size + b.size ≤ 9223372036854775807 := by omega
            rw [EA.out]
            clear hp4
            go_wp2
            have hu : (a ++ b).size = a.size + b.size := ByteArray.size_append
            have HU := Lib.hid hu
            have HUL : Hid ((a ++ b).data.toList = a.data.toList ++ b.data.toList) := by show _ = _; simp
            clear hu
            go_loop [12] (fun i => ∃ k : Nat, k ≤ a.size + b.size ∧ i = .int .i64 k ∧ Hid (allD ((a ++ b).data.toList.take k) = true)) (fun i => a.size + b.size - (intOf i).toNat)
            case atStart => exact ⟨0, by omega, rfl, rfl⟩
            case round =>
              obtain ⟨k, hk, rfl, hA⟩ := hrel
              by_cases hlt : k < a.size + b.size
              · have hlu : k < (a ++ b).size := by rw [HU.out]; exact hlt
                have hts := Lib.hid (take_snoc (a ++ b) k hlu)
                obtain ⟨c0, c1⟩ := u8_bd ((a ++ b)[k]'hlu)
                cases hd : dgb ((a ++ b)[k]'hlu)
                · have hn := Lib.hid (dec_n2 HA.out HB.out (by rw [← HUL.out]; exact allD_not (a ++ b) k hlu (dgb_no hd)))
                  go_wp2_with (go_at_call 26; refine (rdigit_any _ _).mono ?_; rintro e w1 ⟨rfl, rfl⟩)
                  refine bodyPost_ret ?_ rfl (pt_ret_no hn.out)
                  simp [results, Try.results27, go_sem]
                · obtain ⟨d0, d1⟩ := dgb_bd hd
                  have hA2 : Hid (allD ((a ++ b).data.toList.take (k + 1)) = true) := by show _ = _; rw [hts.out, allD_snoc, hA.out]; simp; omega
                  clear d0 d1
                  go_wp2_with (go_at_call 26; refine (rdigit_any _ _).mono ?_; rintro e w1 ⟨rfl, rfl⟩)
                  go_round
                  case rel => exact ⟨k + 1, by omega, by go_num, hA2⟩
                  case measure => simp [intOf]; omega
              · have hAB : allD a.data.toList = true ∧ allD b.data.toList = true := by
                  have := hA.out
                  rw [take_all (a ++ b) k (by rw [HU.out]; omega), HUL.out] at this
                  unfold allD at this ⊢
                  rw [List.all_append, Bool.and_eq_true] at this; exact this
                have HAB := Lib.hid hAB
                clear hAB
                by_cases h1 : 1 ≤ a.size ∧ a.size ≤ 9
                · obtain ⟨g1, g9⟩ := h1
                  by_cases h2 : a.size = 1
                  · have hy := Lib.hid (dec_y HA.out HB.out HP.out g1 g9 (.inl h2) HP4.out HAB.out.1 HAB.out.2)
                    have g2 : a.size ≤ 1 := by omega
                    clear h2
                    go_wp2
                    refine bodyPost_ret ?_ rfl (pt_ret_yes hy.out HA.out HB.out HD.out)
                    simp [results, Try.results27, go_sem]
                  · have g2 : 2 ≤ a.size := by omega
                    have gp : 0 < a.size := by omega
                    by_cases h48 : (a[0].toNat : Int) = 48
                    · have hn := Lib.hid (dec_n4 HA.out g2 h48)
                      have b48 : ((a[0].toNat : Int) == 48) = true := by simpa using h48
                      clear h48
                      go_wp2
                      refine bodyPost_ret ?_ rfl (pt_ret_no hn.out)
                      simp [results, Try.results27, go_sem]
                    · have hy := Lib.hid (dec_y HA.out HB.out HP.out g1 g9 (.inr ⟨gp, h48⟩) HP4.out HAB.out.1 HAB.out.2)
                      have b48 : ((a[0].toNat : Int) == 48) = false := by simpa using h48
                      clear h48
                      go_wp2
                      refine bodyPost_ret ?_ rfl (pt_ret_yes hy.out HA.out HB.out HD.out)
                      simp [results, Try.results27, go_sem]
                · have hn := Lib.hid (dec_n3 HA.out h1)
                  rcases (show a.size < 1 ∨ (1 ≤ a.size ∧ 9 < a.size) by omega) with hg2 | ⟨hg2, hg3⟩
                  all_goals
                    clear h1
                    go_wp2
                    refine bodyPost_ret ?_ rfl (pt_ret_no hn.out)
                    simp [results, Try.results27, go_sem]
        · obtain ⟨k, rfl⟩ : ∃ k, j = k + 1 := ⟨j - 1, by omega⟩
          obtain rfl : x = (k : Int) := by omega
          have hkt : k < t.size := by omega
          have hdr := Lib.hid (drop_cons t k hkt)
          obtain ⟨c0, c1⟩ := u8_bd (t[k]'hkt)
          clear hx hj0 hj
          by_cases h46 : ((t[k]'hkt).toNat : Int) = 46
          · have hA2 : Hid (k = k + (ahd (t.data.toList.drop k)).length) := by
              show _ = _; rw [hdr.out, ahd_step, if_pos h46]; rfl
            have b46 : (((t[k]'hkt).toNat : Int) == 46) = true := by simpa using h46
            clear h46
            go_wp2
            go_round
            case rel => exact ⟨k, k, _, rfl, rfl, rfl, by omega, by omega, hA2⟩
            case measure => simp [intOf]
          · have hA2 : Hid (m = k + (ahd (t.data.toList.drop k)).length) := by
              show _ = _; rw [hdr.out, ahd_step, if_neg h46]; have := hA.out; omega
            have b46 : (((t[k]'hkt).toNat : Int) == 46) = false := by simpa using h46
            clear h46
            go_wp2
            go_round
            case rel => exact ⟨k, m, _, rfl, rfl, rfl, by omega, by omega, hA2⟩
            case measure => simp [intOf]

end Go.Proofs.Ytfdajdlbkdfhoaa

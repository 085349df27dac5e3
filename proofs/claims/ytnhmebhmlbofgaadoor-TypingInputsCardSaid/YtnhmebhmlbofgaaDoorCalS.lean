/- Contracts of digits, number, Format and Parse of the calendar and of the reference. No conditions but those printed. -/
import Derived.Test.YtnhmebhmlbofgaaDoorCalF
import Derived.Test.YtnhmebhmlbofgaaDoorStrPlain
import Derived.Handy
namespace Go.Proofs.YtnhmebhmlbofgaaDoor
open Go.RowKit Cal Str

/-- The length of a string in a slot. -/
def strLen : Value → Nat
  | .string s => s.size
  | _ => 0

set_option maxHeartbeats 1000000 in
theorem rdigits_any (x l : Int) (w : World) (h0 : 0 ≤ x) (h1 : x ≤ 1000000000000000000) (l0 : 0 ≤ l) (l1 : l ≤ 10) :
    Calls Tryd.prog 76 #[.int .i64 x, .int .i64 l] w fun e w' => e = .returned (.string (dgt x l)) ∧ w = w' := by
  go_enter Tryd.func76, Tryd.ntmps76
  go_wp2
  go_loop [0, 5] (fun n t => ∃ (k : Nat) (m : Nat) (s : ByteArray), n = .int .i64 m ∧ t = .string s ∧ Hid (s.size = k) ∧ k ≤ 19 ∧ m ≤ 1000000000000000000 ∧ Hid (m = x.toNat / 10 ^ k) ∧ Hid (dl 40 x.toNat l.toNat = dl (40 - k) m (l.toNat - k) ++ s.data.toList)) (fun n t => (intOf n).toNat + (l.toNat - strLen t))
  case atStart => exact ⟨0, x.toNat, ⟨#[]⟩, by rw [show ((x.toNat : Nat) : Int) = x by omega], rfl, rfl, by omega, by omega, by unfold Hid; simp, by unfold Hid; simp⟩
  case round =>
    obtain ⟨k, m, s, rfl, rfl, hs, hk, hm, hd, hE⟩ := hrel
    have hX : x.toNat ≤ 1000000000000000000 := by omega
    have hs0 : s.size ≤ 19 := by rw [hs.out]; exact hk
    by_cases hz : m = 0
    · subst hz
      by_cases hl : (k : Int) < l
      · have hl2 : (s.size : Int) < l := by rw [hs.out]; exact hl
        have r1 := Lib.hid (dig_step (k := k) (m := 0) (by omega) (by omega) hE.out)
        have r2 := Lib.hid (dig_div hd.out)
        have r3 := Lib.hid (dig_size 0 s (by omega))
        go_wp2
        go_round
        case rel => exact ⟨k + 1, 0, _, rfl, rfl, r3.out.trans (by rw [hs.out]), by omega, by omega, r2.out, r1.out⟩
        case measure => simp only [strLen, r3.out]; simp [intOf]; omega
      · have hl2 : ¬ (s.size : Int) < l := by rw [hs.out]; exact hl
        go_wp2
        go_ret
        have e := hE.out
        rw [show l.toNat - k = 0 by omega, dl_stop, List.nil_append] at e
        exact ⟨by rw [dgt, e]; simp, rfl⟩
    · have hk8 := dig_k hX hd.out hz
      have r1 := Lib.hid (dig_step (k := k) (m := m) hk8 (by omega) hE.out)
      have r2 := Lib.hid (dig_div hd.out)
      have r3 := Lib.hid (dig_size (m % 10) s (by omega))
      have hz' : (0 : Int) < m := by omega
      go_wp2
      go_round
      case rel => exact ⟨k + 1, m / 10, _, by go_num, rfl, r3.out.trans (by rw [hs.out]), by omega, by omega, r2.out, r1.out⟩
      case measure => simp only [strLen, r3.out]; simp [intOf]; omega

end Go.Proofs.YtnhmebhmlbofgaaDoor

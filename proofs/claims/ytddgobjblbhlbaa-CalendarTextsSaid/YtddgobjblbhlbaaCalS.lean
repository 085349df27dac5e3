/- Contracts of digits, number, Format and Parse of the calendar and of the reference. No conditions but those printed. -/
import Derived.Test.YtddgobjblbhlbaaCalH
import Derived.Test.YtddgobjblbhlbaaStrPlain
import Derived.Handy
namespace Go.Proofs.Ytddgobjblbhlbaa
open Go.RowKit Cal Str

/-- The length of a string in a slot. -/
def strLen : Value → Nat
  | .string s => s.size
  | _ => 0

set_option maxHeartbeats 1000000 in
theorem rdigits_any (x l : Int) (w : World) (h0 : 0 ≤ x) (h1 : x ≤ 1000000000000000000) (l0 : 0 ≤ l) (l1 : l ≤ 10) :
    Calls Try.prog 56 #[.int .i64 x, .int .i64 l] w fun e w' => e = .returned (.string (dgt x l)) ∧ w = w' := by
  go_enter Try.func56, Try.ntmps56
  go_wp2
  go_loop [0, 5] (fun n t => ∃ (k : Nat) (m : Nat) (s : ByteArray), n = .int .i64 m ∧ t = .string s ∧ Hid (s.size = k) ∧ k ≤ 19 ∧ m ≤ 1000000000000000000 ∧ Hid (m = x.toNat / 10 ^ k) ∧ Hid (dl 40 x.toNat l.toNat = dl (40 - k) m (l.toNat - k) ++ s.data.toList)) (fun n t => (intOf n).toNat + (l.toNat - strLen t))
  case atStart => exact ⟨0, x.toNat, ⟨#[]⟩, by rw [show ((x.toNat : Nat) : Int) = x by omega], rfl, rfl, by omega, by omega, by unfold Hid; simp, by unfold Hid; simp⟩
  case round =>
    obtain ⟨k, m, s, rfl, rfl, hs, hk, hm, hd, hE⟩ := hrel
    have hX : x.toNat ≤ 1000000000000000000 := by omega
    have hs0 : s.size ≤ 19 := by rw [hs.out]; exact hk
    by_cases hz : m = 0
    · subst hz
      by_cases hl : (k : Int) < l
      · have hl2 : (s.size : Int) < l := by rw [hs.out]; exact hl
        have r1 := Lib.hid (dig_step (k := k) (m := 0) (by omega) (by omega) hE.out)
        have r2 := Lib.hid (dig_div hd.out)
        have r3 := Lib.hid (dig_size 0 s (by omega))
        go_wp2
        go_round
        case rel => exact ⟨k + 1, 0, _, rfl, rfl, r3.out.trans (by rw [hs.out]), by omega, by omega, r2.out, r1.out⟩
        case measure => simp only [strLen, r3.out]; simp [intOf]; omega
      · have hl2 : ¬ (s.size : Int) < l := by rw [hs.out]; exact hl
        go_wp2
        go_ret
        have e := hE.out
        rw [show l.toNat - k = 0 by omega, dl_stop, List.nil_append] at e
        exact ⟨by rw [dgt, e]; simp, rfl⟩
    · have hk8 := dig_k hX hd.out hz
      have r1 := Lib.hid (dig_step (k := k) (m := m) hk8 (by omega) hE.out)
      have r2 := Lib.hid (dig_div hd.out)
      have r3 := Lib.hid (dig_size (m % 10) s (by omega))
      have hz' : (0 : Int) < m := by omega
      go_wp2
      go_round
      case rel => exact ⟨k + 1, m / 10, _, by go_num, rfl, r3.out.trans (by rw [hs.out]), by omega, by omega, r2.out, r1.out⟩
      case measure => simp only [strLen, r3.out]; simp [intOf]; omega

theorem run_digits2 (a b : Int) (W : World) (g : Nat) (h0 : W.cell? ⟨g, 0, none⟩ = some (.int .u8 a)) (h1 : W.cell? ⟨g, 0 + 1, none⟩ = some (.int .u8 b)) :
    Sem.run Try.prog (convert 40 9 (.slice (some ⟨g, 0, none⟩) 2 2)) W = .ok (.string (strOfNums [a, b])) W :=
  run_convert_bytes_arg W 40 5 Try.underlying40 Try.underlying5 g 0 2 2 [a, b] rfl (fun i hi => by
    have : i = 0 ∨ i = 1 := by omega
    rcases this with rfl | rfl
    · exact h0
    · exact h1) 9 Try.underlying9
theorem run_digits4 (a b c d : Int) (W : World) (g : Nat) (h0 : W.cell? ⟨g, 0, none⟩ = some (.int .u8 a)) (h1 : W.cell? ⟨g, 0 + 1, none⟩ = some (.int .u8 b)) (h2 : W.cell? ⟨g, 0 + 2, none⟩ = some (.int .u8 c)) (h3 : W.cell? ⟨g, 0 + 3, none⟩ = some (.int .u8 d)) :
    Sem.run Try.prog (convert 40 9 (.slice (some ⟨g, 0, none⟩) 4 4)) W = .ok (.string (strOfNums [a, b, c, d])) W :=
  run_convert_bytes_arg W 40 5 Try.underlying40 Try.underlying5 g 0 4 4 [a, b, c, d] rfl (fun i hi => by
    have : i = 0 ∨ i = 1 ∨ i = 2 ∨ i = 3 := by omega
    rcases this with rfl | rfl | rfl | rfl
    · exact h0
    · exact h1
    · exact h2
    · exact h3) 9 Try.underlying9

theorem dl_2 (x : Int) (h0 : 0 ≤ x) (h1 : x ≤ 99) : strOfNums [48 + x / 10 % 10, 48 + x % 10] = ⟨(dl 40 x.toNat 2).toArray⟩ := by
  rw [dl_step 39 _ _ (by omega), dl_step 38 _ _ (by omega), show x.toNat / 10 / 10 = 0 by omega, show 2 - 1 - 1 = 0 by omega, dl_stop]
  simp only [strOfNums, List.map_cons, List.map_nil, List.nil_append, List.cons_append]
  rw [show (48 + x / 10 % 10).toNat = 48 + x.toNat / 10 % 10 by omega, show (48 + x % 10).toNat = 48 + x.toNat % 10 by omega]
theorem dl_4 (x : Int) (h0 : 0 ≤ x) (h1 : x ≤ 9999) : strOfNums [48 + x / 10 / 10 / 10 % 10, 48 + x / 10 / 10 % 10, 48 + x / 10 % 10, 48 + x % 10] = ⟨(dl 40 x.toNat 4).toArray⟩ := by
  rw [dl_step 39 _ _ (by omega), dl_step 38 _ _ (by omega), dl_step 37 _ _ (by omega), dl_step 36 _ _ (by omega), show x.toNat / 10 / 10 / 10 / 10 = 0 by omega, show 4 - 1 - 1 - 1 - 1 = 0 by omega, dl_stop]
  simp only [strOfNums, List.map_cons, List.map_nil, List.nil_append, List.cons_append]
  rw [show (48 + x / 10 / 10 / 10 % 10).toNat = 48 + x.toNat / 10 / 10 / 10 % 10 by omega, show (48 + x / 10 / 10 % 10).toNat = 48 + x.toNat / 10 / 10 % 10 by omega, show (48 + x / 10 % 10).toNat = 48 + x.toNat / 10 % 10 by omega, show (48 + x % 10).toNat = 48 + x.toNat % 10 by omega]

theorem ret_s {a b : ByteArray} (h : a = b) : Ending.returned (.string a) = .returned (.string b) := by rw [h]

set_option maxHeartbeats 1000000 in
theorem digits2_any (x : Int) (w : World) (h0 : 0 ≤ x) (h1 : x ≤ 99) :
    Calls Try.prog 54 #[.int .i64 x, .int .i64 2] w fun e w' => e = .returned (.string (dgt x 2)) ∧ Below w.heap.size w w' := by
  have hfin := Lib.hid (dl_2 x h0 h1)
  have hmk : ∀ w, (Instr.makeSlice 40 (.int .i64 2) (.int .i64 2)).run Try.prog w = .ok (.slice (some ⟨w.heap.size, 0, none⟩) 2 2) (w.alloc (.cells #[.int .u8 0, .int .u8 0] 5)) := fun _ => by kernel_rfl
  have hconv := run_digits2 (48 + x / 10 % 10) (48 + x % 10) (w.alloc (.cells #[.int .u8 (48 + x / 10 % 10), .int .u8 (48 + x % 10)] 5)) w.heap.size (by simp) (by simp)
  go_enter Try.func54, Try.ntmps54
  go_wp2
  go_rounds 3
  go_ret
  exact ⟨ret_s hfin.out, (Below.refl _ _).alloc (Nat.le_refl _) _⟩

set_option maxHeartbeats 1000000 in
theorem digits4_any (x : Int) (w : World) (h0 : 0 ≤ x) (h1 : x ≤ 9999) :
    Calls Try.prog 54 #[.int .i64 x, .int .i64 4] w fun e w' => e = .returned (.string (dgt x 4)) ∧ Below w.heap.size w w' := by
  have hfin := Lib.hid (dl_4 x h0 h1)
  have hmk : ∀ w, (Instr.makeSlice 40 (.int .i64 4) (.int .i64 4)).run Try.prog w = .ok (.slice (some ⟨w.heap.size, 0, none⟩) 4 4) (w.alloc (.cells #[.int .u8 0, .int .u8 0, .int .u8 0, .int .u8 0] 5)) := fun _ => by kernel_rfl
  have hconv := run_digits4 (48 + x / 10 / 10 / 10 % 10) (48 + x / 10 / 10 % 10) (48 + x / 10 % 10) (48 + x % 10) (w.alloc (.cells #[.int .u8 (48 + x / 10 / 10 / 10 % 10), .int .u8 (48 + x / 10 / 10 % 10), .int .u8 (48 + x / 10 % 10), .int .u8 (48 + x % 10)] 5)) w.heap.size (by simp) (by simp) (by simp) (by simp)
  go_enter Try.func54, Try.ntmps54
  go_wp2
  go_rounds 5
  go_ret
  exact ⟨ret_s hfin.out, (Below.refl _ _).alloc (Nat.le_refl _) _⟩

end Go.Proofs.Ytddgobjblbhlbaa

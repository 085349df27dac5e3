/- Contracts of the reference's start, monthAt, Day and Date and of the calendar's Date. No conditions but those printed. -/
import Derived.Test.YtddgobjblbhlbaaCalB
namespace Go.Proofs.Ytddgobjblbhlbaa
open Go.RowKit Cal

theorem results_tmp4 {fn : Func} {t u v x : Tmp} (h : fn.results = #[.tmp t, .tmp u, .tmp v, .tmp x]) (tmps : Array Value) (P : Program) (w : World) :
    (results fn tmps).run P w = .ok (.tuple #[tmps.getD t undef, tmps.getD u undef, tmps.getD v undef, tmps.getD x undef]) w := by simp [results, h]

theorem nlen_cast (j : Nat) : mlen (1900 + (j : Int) / 12) ((j : Int) % 12 + 1) = nlen j := by
  unfold nlen; congr 1

set_option maxHeartbeats 1000000 in
theorem start_any (m : Int) (w : World) (h0 : 0 ≤ m) (h1 : m ≤ 2400) :
    Calls Try.prog 46 #[.int .i64 m] w fun e w' => e = .returned (.int .i64 (msum m.toNat)) ∧ w = w' := by
  go_enter Try.func46, Try.ntmps46
  go_wp2
  go_loop [3, 4] (fun t i => ∃ k : Nat, k ≤ m ∧ i = .int .i64 k ∧ t = .int .i64 (msum k)) (fun _ i => (m - intOf i).toNat)
  case atStart => exact ⟨0, by omega, rfl, rfl⟩
  case round =>
    obtain ⟨k, hk, rfl, rfl⟩ := hrel
    have b3 := msum_bd k
    have b4 := nlen_bd k
    by_cases hlt : (k : Int) < m
    · go_wp2_with (go_at_call 45; refine (rlength_any _ _ _ (by omega) (by omega) (by omega) (by omega)).mono ?_; rw [nlen_cast k]; rintro e w1 ⟨rfl, rfl⟩)
      go_round
      case rel => exact ⟨k + 1, by omega, by go_num, by simp only [msum]⟩
      case measure => simp [intOf]; omega
    · go_wp2
      go_ret
      have e : m.toNat = k := by omega
      exact ⟨ret_i (by rw [e]), rfl⟩

theorem ret_ii {k l : IntKind} {a b c d : Int} (h : a = b) (h' : c = d) : Ending.returned (.tuple #[.int k a, .int l c]) = .returned (.tuple #[.int k b, .int l d]) := by rw [h, h']

set_option maxHeartbeats 1000000 in
theorem monthAt_any (d : Int) (w : World) (h : vdayB d = true) :
    Calls Try.prog 49 #[.int .i64 d] w fun e w' => e = .returned (.tuple #[.int .i64 (monOf d), .int .i64 (d - msum (monOf d))]) ∧ w = w' := by
  have hd := (vdayB_iff d).1 h
  have hmon := Lib.hid (monOf_eq d)
  clear h
  go_enter Try.func49, Try.ntmps49
  go_wp2
  go_loop [0, 4] (fun t i => ∃ k : Nat, k < 2400 ∧ i = .int .i64 k ∧ t = .int .i64 (d - msum k) ∧ msum k ≤ d) (fun _ i => (2400 - intOf i).toNat)
  case atStart => exact ⟨0, by omega, rfl, by simp [msum], by simp [msum]; omega⟩
  case round =>
    obtain ⟨k, hk, rfl, rfl, hle⟩ := hrel
    have b3 := msum_bd k
    have b4 := nlen_bd k
    by_cases hlt : d - msum k < nlen k
    · go_wp2_with (go_at_call 45; refine (rlength_any _ _ _ (by omega) (by omega) (by omega) (by omega)).mono ?_; rw [nlen_cast k]; rintro e w1 ⟨rfl, rfl⟩)
      go_ret2
      have e := hmon.out k hk hle (by omega)
      exact ⟨ret_ii (by rw [e]) (by rw [e]), rfl⟩
    · have hk2 : k + 1 < 2400 := by
        rcases Nat.lt_or_ge (k + 1) 2400 with h | h
        · exact h
        · have e := msum_end
          rw [show 2400 = k + 1 by omega, msum] at e
          omega
      go_wp2_with (go_at_call 45; refine (rlength_any _ _ _ (by omega) (by omega) (by omega) (by omega)).mono ?_; rw [nlen_cast k]; rintro e w1 ⟨rfl, rfl⟩)
      go_round
      case rel => exact ⟨k + 1, hk2, by go_num, by simp only [msum]; go_num, by simp only [msum]; omega⟩
      case measure => simp [intOf]; omega

end Go.Proofs.Ytddgobjblbhlbaa

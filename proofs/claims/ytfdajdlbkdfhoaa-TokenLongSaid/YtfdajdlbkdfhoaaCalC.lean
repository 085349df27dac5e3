/- Contracts of the reference's start, monthAt, Day and Date and of the calendar's Date. No conditions but those printed. -/
import Derived.Test.YtfdajdlbkdfhoaaCalB
namespace Go.Proofs.Ytfdajdlbkdfhoaa
open Go.RowKit Cal

theorem nlen_cast (j : Nat) : mlen (1900 + (j : Int) / 12) ((j : Int) % 12 + 1) = nlen j := by
  unfold nlen; congr 1

set_option maxHeartbeats 1000000 in
theorem start_any (m : Int) (w : World) (h0 : 0 ≤ m) (h1 : m ≤ 2400) :
    Calls Try.prog 47 #[.int .i64 m] w fun e w' => e = .returned (.int .i64 (msum m.toNat)) ∧ w = w' := by
  go_enter Try.func47, Try.ntmps47
  go_wp2
  go_loop [3, 4] (fun t i => ∃ k : Nat, k ≤ m ∧ i = .int .i64 k ∧ t = .int .i64 (msum k)) (fun _ i => (m - intOf i).toNat)
  case atStart => exact ⟨0, by omega, rfl, rfl⟩
  case round =>
    obtain ⟨k, hk, rfl, rfl⟩ := hrel
    have b3 := msum_bd k
    have b4 := nlen_bd k
    by_cases hlt : (k : Int) < m
    · go_wp2_with (go_at_call 46; refine (rlength_any _ _ _ (by omega) (by omega) (by omega) (by omega)).mono ?_; rw [nlen_cast k]; rintro e w1 ⟨rfl, rfl⟩)
      go_round
      case rel => exact ⟨k + 1, by omega, by go_num, by simp only [msum]⟩
      case measure => simp [intOf]; omega
    · go_wp2
      go_ret
      have e : m.toNat = k := by omega
      exact ⟨ret_i (by rw [e]), rfl⟩

end Go.Proofs.Ytfdajdlbkdfhoaa

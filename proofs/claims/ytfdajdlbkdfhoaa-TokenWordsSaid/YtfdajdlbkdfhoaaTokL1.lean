/- Walks of the laws TokenWords and TokenDecimals. No conditions but those printed. -/
import Derived.Test.YtfdajdlbkdfhoaaTokK
namespace Go.Proofs.Ytfdajdlbkdfhoaa
open Go.RowKit Cal Str Tok Frac
attribute [local go_sem] calmUpon
set_option linter.unusedVariables false
set_option linter.unusedSimpArgs false

theorem beq_self_b (b : Bool) : (b == b) = true := by cases b <;> rfl

set_option maxHeartbeats 4000000 in
theorem walk_TokenWords (w : World) (a0 : ByteArray) (a1 : Int) (b0 : a0.size ≤ 140737488355328) (b1 : -9223372036854775808 ≤ a1) (c1 : a1 ≤ 9223372036854775807) :
    Calls Try.prog 7 #[.string a0, .int .i64 a1] w (BRes true w) := by
  have hs : a0.size ≤ maxLen := by unfold maxLen; omega
  obtain ⟨B, hB⟩ : ∃ B, wordB a0 = B := ⟨_, rfl⟩
  have I1 := Lib.hid fun w => IsWord_any a0 w hs
  have I2 := Lib.hid fun w => rIsWord_any a0 w hs
  rw [hB] at I1 I2
  unfold BRes
  go_enter Try.func7, Try.ntmps7
  go_wp2_with fail
  refine (pieces_any _ _ b1 c1).mono ?_
  rintro e w1 ⟨t, rfl, ht, h1⟩
  have kz1 := h1.size
  (try simp only [World.size_alloc, World.size_setCell, World.size_drew] at kz1)
  have H1 := Lib.hid h1
  clear h1
  obtain ⟨C, hC⟩ : ∃ C, wordB t = C := ⟨_, rfl⟩
  have J1 := Lib.hid fun w => IsWord_any t w (by unfold maxLen; omega)
  have J2 := Lib.hid fun w => rIsWord_any t w (by unfold maxLen; omega)
  rw [hC] at J1 J2
  go_wp2_with fail
  refine (tawake_any _).mono ?_
  unfold BRes
  rintro e w2 ⟨rfl, h2⟩
  have kz2 := h2.size
  (try simp only [World.size_alloc, World.size_setCell, World.size_drew] at kz2)
  have H2 := Lib.hid h2
  clear h2
  go_wp2_with fail
  with_reducible refine (I1.out _).mono ?_
  rintro e w3 ⟨rfl, rfl⟩
  go_wp2_with fail
  with_reducible refine (I2.out _).mono ?_
  rintro e w3 ⟨rfl, rfl⟩
  go_wp2_with fail
  with_reducible refine (J1.out _).mono ?_
  rintro e w3 ⟨rfl, rfl⟩
  go_wp2_with fail
  with_reducible refine (J2.out _).mono ?_
  rintro e w3 ⟨rfl, rfl⟩
  go_wp2
  go_ret
  exact ⟨ret_b (by simp), by (show Rel _ _; repeat (first | with_reducible exact Rel.refl _ | with_reducible refine Rel.alloc ?_ _ | with_reducible refine Rel.setCell ?_ (by first | (simp; done) | (simp; omega)) _ | with_reducible refine Rel.drew ?_ | with_reducible refine Rel.trans ?_ H2.out | with_reducible refine Rel.trans ?_ H1.out | with_reducible refine Rel.trans ?_ H0.out))⟩

end Go.Proofs.Ytfdajdlbkdfhoaa

/- Lemmas, each as it is printed; no conditions but those printed. -/
import Derived.Test.YthmlhheceihcbaaGreatDoorKB38
namespace Go.Proofs.YthmlhheceihcbaaGreatDoor
set_option maxHeartbeats 16000000
open Go.RowKit Cal Str Tok Frac Txt Tree Go.Proofs.Tryz
attribute [local go_sem] calmUpon
set_option linter.unusedVariables false
set_option linter.unusedSimpArgs false
theorem aw_prV : prV awS = (awT, 0, 0) := by kernel_rfl
theorem aw_size : awS.size <= 140737488355328 := by decide
set_option maxRecDepth 20000 in
theorem awake_any (w : World) (ht : TabW w) : Calls prog 10 #[] w (BRes true w) := by
 have PX := Hj (ParseExpr_any awS w aw_size (Hj ht));unfold PxRes at PX;rw [aw_prV] at PX;unfold BRes;clear ht;go_enter func10, ntmps10;go_wp2_with fail;refine PX.out.mono ?_;rintro e w1 ⟨x, rfl, hK, h1⟩;obtain ⟨-, -, ad, cap, rfl, hk⟩ := hK;obtain ⟨g, off, rfl, hg, hc⟩ := hk (by decide);obtain ⟨x0, s0, -⟩ := hc 0 (by decide);obtain ⟨x1, s1, -⟩ := hc 1 (by decide);have q0 : w1.cell? ⟨g, off, none⟩ = some (.int .i64 8) := s0.c0;have q1 : w1.cell? ⟨g, off + 6 + 4, none⟩ = some (.string ⟨#[99]⟩) := s1.c4;have R1 := Hj h1;clear hk hc s0 s1 h1;show _
 have e0 : awT.op = 8 := rfl;have e1 : awT.va = 0 := rfl;have e2 : awT.vb = 0 := rfl;have e3 : awT.dm = 0 := rfl;have e4 : awT.nm = ⟨#[]⟩ := rfl;simp only [e0, e1, e2, e3, e4];go_wp2;go_ret;exact ⟨rfl, R1.out.alloc _⟩
end Go.Proofs.YthmlhheceihcbaaGreatDoor

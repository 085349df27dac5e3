/- Bundle of texts: each says at its head what it proves; no conditions but those printed. -/
import Derived.Test.YtkghmghjgikihaaGreatDoorFB23
import Derived.Test.YtkghmghjgikihaaGreatDoorFB9
import Derived.Test.YtkghmghjgikihaaGreatDoorFB14
/- Walk of the law SyntaxFormats. No conditions but those printed. -/
namespace Go.Proofs.YtkghmghjgikihaaGreatDoor
open Go.RowKit Cal Str Tok Frac Txt Tree
attribute [local go_sem] calmUpon
set_option linter.unusedVariables false
set_option linter.unusedSimpArgs false
set_option maxRecDepth 20000 in
set_option maxHeartbeats 8000000 in
theorem walk_SyntaxFormats (w : World) (ht : TabW w) (a0 : Value) (n0 : Nat) (b0 : IntsIn w a0 n0) :
  Calls Tryz.prog 6 #[a0] w (BRes true w) := by
 obtain ⟨s0, p0, rfl, hn0, -⟩ := id b0
 have HT := Lib.hid ht
 have B0 := Lib.hid b0
 clear ht b0
 unfold BRes
 by_cases h2 : 200 < n0
 ·have e1 : decide ((200 : Int) < (n0 : Int)) = true := decide_eq_true (by omega)
  go_enter Tryz.func6, Tryz.ntmps6
  go_wp2
  go_ret
  exact ⟨rfl, by (show Rel _ _; repeat (first | with_reducible exact Rel.refl _ | with_reducible refine Rel.alloc ?_ _ | with_reducible refine Rel.setCell ?_ (by first | (simp; done) | (simp; omega)) _ | with_reducible refine Rel.drew ?_ | with_reducible refine Rel.trans ?_ H0.out))⟩
 ·have e1 : decide ((200 : Int) < (n0 : Int)) = false := decide_eq_false (by omega)
  go_enter Tryz.func6, Tryz.ntmps6
  go_wp2_with fail
  refine (Wild_any _ n0 _ B0.out).mono ?_
  rintro e w1 ⟨t, x, rfl, hK1, hz1, h1⟩
  obtain ⟨xa, xc, rfl⟩ := kids_slice hK1
  have R1 := Lib.hid h1
  have HK1 := Lib.hid hK1
  clear hK1 h1
  have BT := Lib.hid (BoxAt.new (w := w1) (g := w1.heap.size) rfl (.int .i64 t.op) (.int .i64 t.va) (.int .i64 t.vb) (.int .i64 t.dm) (.string t.nm) (.slice xa t.cnt xc) 29)
  obtain ⟨X, hX⟩ : ∃ X, w1.alloc (.cells #[.int .i64 t.op, .int .i64 t.va, .int .i64 t.vb, .int .i64 t.dm, .string t.nm, .slice xa t.cnt xc] 29) = X := ⟨_, rfl⟩
  have RX : Rel w1 X := by rw [← hX]; exact (Rel.refl _).alloc _
  rw [hX] at BT
  have TX := Lib.hid (HT.out.rel (R1.out.trans RX))
  have KT := Lib.hid (kids_rel HK1.out RX)
  have RXw := Lib.hid (R1.out.trans RX)
  have V1 := Lib.hid fun w' (r : Rel X w') => FormatExpr_any t _ w' (kids_rel KT.out r) (by omega) (Lib.hid (TX.out.rel r))
  have V2 := Lib.hid fun w' (r : Rel X w') => rFormatExpr_any t _ w' (kids_rel KT.out r) (by omega)
  have A0 := Lib.hid fun w' (r : Rel X w') => awake_any w' (TX.out.rel r)
  unfold SbRes at V1 V2
  unfold BRes at A0
  obtain ⟨v, hv⟩ : ∃ v, t.valid = v := ⟨_, rfl⟩
  obtain ⟨S, hS⟩ : ∃ v, Ex.fmt t = v := ⟨_, rfl⟩
  rw [hv, hS] at V1 V2
  have bt := BT.out
  have c0 := bt.c0
  have c1 := bt.c1
  have c2 := bt.c2
  have c3 := bt.c3
  have c4 := bt.c4
  have c5 := bt.c5
  clear hv hS hz1
  go_wp2_with fail
  refine (V1.out _ (Rel.refl _)).mono ?_
  rintro e w2 ⟨rfl, h2⟩
  have d0 := h2.cell c0
  have d1 := h2.cell c1
  have d2 := h2.cell c2
  have d3 := h2.cell c3
  have d4 := h2.cell c4
  have d5 := h2.cell c5
  have R2 := Lib.hid h2
  clear h2
  go_wp2_with fail
  refine (V2.out _ R2.out).mono ?_
  rintro e w3 ⟨rfl, h3⟩
  have R3 := Lib.hid (R2.out.trans h3)
  clear h3
  go_wp2_with fail
  refine (A0.out _ R3.out).mono ?_
  rintro e w4 ⟨rfl, h4⟩
  have R4 := Lib.hid (R3.out.trans h4)
  clear h4
  go_wp2
  go_ret
  exact ⟨ret_b2 (by simp), RXw.out.trans R4.out⟩
end Go.Proofs.YtkghmghjgikihaaGreatDoor

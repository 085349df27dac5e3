/- Bundle of texts: each says at its head what it proves; no conditions but those printed. -/
import Derived.Test.YtohdmpchbiabmaaDoorNB19
import Derived.Test.YtohdmpchbiabmaaDoorNB8
/- Contracts of text, node by node. No conditions but those printed. -/
namespace Go.Proofs.YtohdmpchbiabmaaDoor
open Go.RowKit Cal Str Tok Frac Txt Tree
attribute [local go_sem] calmUpon
set_option linter.unusedVariables false
set_option linter.unusedSimpArgs false
theorem str_ret {a b : ByteArray} (h : a = b) : Ending.returned (.string a) = .returned (.string b) := by rw [h]
def TxK (f : Nat) (w : World) (g off i : Nat) (p : Nat → Int → ByteArray) : Prop :=
 ∃ (o a b d : Int) (s : ByteArray) (x : Value), Six w g (off + i * 6) o a b d s x ∧ (∀ l, (p i l).size ≤ 4200) ∧
  ∀ w' l, Rel w w' → 0 ≤ l → l ≤ 7 → Calls Tryd.prog f #[.agg #[.int .i64 o, .int .i64 a, .int .i64 b, .int .i64 d, .string s, x], .int .i64 l] w' (StrRes (p i l) w')
set_option maxRecDepth 20000 in
set_option maxHeartbeats 4000000 in
theorem text_4 (a b d : Int) (s : ByteArray) (g off cap : Nat) (p : Nat → Int → ByteArray) (req : Int) (w : World) (hr : req ≤ 7) (hg : g < w.heap.size) (K0 : TxK 35 w g off 0 p) :
  Calls Tryd.prog 35 #[.agg #[.int .i64 4, .int .i64 a, .int .i64 b, .int .i64 d, .string s, .slice (some ⟨g, off, none⟩) 1 cap], .int .i64 req] w (StrRes (ndS 4 a b d s p) w) := by
 obtain ⟨o0, a0, b0, d0, s0, x0, hs0, hz0, hC0⟩ := K0
 have key : Hid (((⟨#[45]⟩ : ByteArray) ++ p 0 (7)) = ndS 4 a b d s p) := by
  show _ = _
  simp [ndS]
 obtain ⟨P0, hP0⟩ : ∃ P, p 0 (7) = P := ⟨_, rfl⟩
 have z0 := hz0 (7)
 have C0 := Lib.hid fun w' (r : Rel w w') => hC0 w' (7) r (by omega) (by omega)
 rw [hP0] at key z0 C0
 have y1 : (⟨#[45]⟩ : ByteArray).size ≤ 1 := by simp only [ByteArray.size_append, szA, List.length]; omega
 have w2 : ¬ 9223372036854775807 < 1 + P0.size := by omega
 have y2 : ((⟨#[45]⟩ : ByteArray) ++ P0).size ≤ 4201 := by simp only [ByteArray.size_append, szA, List.length]; omega
 obtain ⟨R, hR⟩ : ∃ R, ndS 4 a b d s p = R := ⟨_, rfl⟩
 rw [hR] at key ⊢
 have LV := Lib.hid fun w => level_any 4 w (by omega) (by omega)
 rw [show levI 4 = 7 from rfl] at LV
 have er : decide (7 < req) = false := decide_eq_false (by omega)
 clear hR hP0 hz0 hC0
 unfold StrRes at C0 ⊢
 obtain ⟨X, hX⟩ : ∃ X, w.alloc (.cells #[.int .i64 4, .int .i64 a, .int .i64 b, .int .i64 d, .string s, .slice (some ⟨g, off, none⟩) 1 cap] 42) = X := ⟨_, rfl⟩
 have RX : Rel w X := by rw [← hX]; exact (Rel.refl _).alloc _
 have BT := Lib.hid (BoxAt.new (w := w) (g := w.heap.size) rfl (.int .i64 4) (.int .i64 a) (.int .i64 b) (.int .i64 d) (.string s) (.slice (some ⟨g, off, none⟩) 1 cap) 42)
 rw [hX] at BT
 have bt := BT.out
 have b0_0 := bt.c0
 have b0_1 := bt.c1
 have b0_2 := bt.c2
 have b0_3 := bt.c3
 have b0_4 := bt.c4
 have b0_5 := bt.c5
 have t0 := six_rel hs0 RX hg
 have k0_0 : X.cell? ⟨g, off, none⟩ = some (.int .i64 o0) := t0.c0
 have k0_1 : X.cell? ⟨g, off + 1, none⟩ = some (.int .i64 a0) := t0.c1
 have k0_2 : X.cell? ⟨g, off + 2, none⟩ = some (.int .i64 b0) := t0.c2
 have k0_3 : X.cell? ⟨g, off + 3, none⟩ = some (.int .i64 d0) := t0.c3
 have k0_4 : X.cell? ⟨g, off + 4, none⟩ = some (.string s0) := t0.c4
 have k0_5 : X.cell? ⟨g, off + 5, none⟩ = some (x0) := t0.c5
 have RXw := Lib.hid RX
 clear RX BT bt hs0 t0
 go_enter Tryd.func35, Tryd.ntmps35
 go_wp2_with fail
 refine (LV.out _).mono ?_
 rintro e w1 ⟨rfl, rfl⟩
 go_wp2_with fail
 refine (C0.out _ RXw.out).mono ?_
 rintro e w1 ⟨rfl, h1⟩
 have kz1 := h1.size
 (try simp only [World.size_alloc, World.size_setCell, World.size_drew] at kz1)
 have H1 := Lib.hid h1
 clear h1
 go_wp2
 go_ret
 exact ⟨str_ret key.out, RXw.out.trans H1.out⟩
set_option maxRecDepth 20000 in
set_option maxHeartbeats 4000000 in
theorem text_5 (a b d : Int) (s : ByteArray) (g off cap : Nat) (p : Nat → Int → ByteArray) (req : Int) (w : World) (hr : req ≤ 3) (hg : g < w.heap.size) (K0 : TxK 35 w g off 0 p) :
  Calls Tryd.prog 35 #[.agg #[.int .i64 5, .int .i64 a, .int .i64 b, .int .i64 d, .string s, .slice (some ⟨g, off, none⟩) 1 cap], .int .i64 req] w (StrRes (ndS 5 a b d s p) w) := by
 obtain ⟨o0, a0, b0, d0, s0, x0, hs0, hz0, hC0⟩ := K0
 have key : Hid (((⟨#[110, 111, 116, 32]⟩ : ByteArray) ++ p 0 (3)) = ndS 5 a b d s p) := by
  show _ = _
  simp [ndS]
 obtain ⟨P0, hP0⟩ : ∃ P, p 0 (3) = P := ⟨_, rfl⟩
 have z0 := hz0 (3)
 have C0 := Lib.hid fun w' (r : Rel w w') => hC0 w' (3) r (by omega) (by omega)
 rw [hP0] at key z0 C0
 have y1 : (⟨#[110, 111, 116, 32]⟩ : ByteArray).size ≤ 4 := by simp only [ByteArray.size_append, szA, List.length]; omega
 have w2 : ¬ 9223372036854775807 < 4 + P0.size := by omega
 have y2 : ((⟨#[110, 111, 116, 32]⟩ : ByteArray) ++ P0).size ≤ 4204 := by simp only [ByteArray.size_append, szA, List.length]; omega
 obtain ⟨R, hR⟩ : ∃ R, ndS 5 a b d s p = R := ⟨_, rfl⟩
 rw [hR] at key ⊢
 have LV := Lib.hid fun w => level_any 5 w (by omega) (by omega)
 rw [show levI 5 = 3 from rfl] at LV
 have er : decide (3 < req) = false := decide_eq_false (by omega)
 clear hR hP0 hz0 hC0
 unfold StrRes at C0 ⊢
 obtain ⟨X, hX⟩ : ∃ X, w.alloc (.cells #[.int .i64 5, .int .i64 a, .int .i64 b, .int .i64 d, .string s, .slice (some ⟨g, off, none⟩) 1 cap] 42) = X := ⟨_, rfl⟩
 have RX : Rel w X := by rw [← hX]; exact (Rel.refl _).alloc _
 have BT := Lib.hid (BoxAt.new (w := w) (g := w.heap.size) rfl (.int .i64 5) (.int .i64 a) (.int .i64 b) (.int .i64 d) (.string s) (.slice (some ⟨g, off, none⟩) 1 cap) 42)
 rw [hX] at BT
 have bt := BT.out
 have b0_0 := bt.c0
 have b0_1 := bt.c1
 have b0_2 := bt.c2
 have b0_3 := bt.c3
 have b0_4 := bt.c4
 have b0_5 := bt.c5
 have t0 := six_rel hs0 RX hg
 have k0_0 : X.cell? ⟨g, off, none⟩ = some (.int .i64 o0) := t0.c0
 have k0_1 : X.cell? ⟨g, off + 1, none⟩ = some (.int .i64 a0) := t0.c1
 have k0_2 : X.cell? ⟨g, off + 2, none⟩ = some (.int .i64 b0) := t0.c2
 have k0_3 : X.cell? ⟨g, off + 3, none⟩ = some (.int .i64 d0) := t0.c3
 have k0_4 : X.cell? ⟨g, off + 4, none⟩ = some (.string s0) := t0.c4
 have k0_5 : X.cell? ⟨g, off + 5, none⟩ = some (x0) := t0.c5
 have RXw := Lib.hid RX
 clear RX BT bt hs0 t0
 go_enter Tryd.func35, Tryd.ntmps35
 go_wp2_with fail
 refine (LV.out _).mono ?_
 rintro e w1 ⟨rfl, rfl⟩
 go_wp2_with fail
 refine (C0.out _ RXw.out).mono ?_
 rintro e w1 ⟨rfl, h1⟩
 have kz1 := h1.size
 (try simp only [World.size_alloc, World.size_setCell, World.size_drew] at kz1)
 have H1 := Lib.hid h1
 clear h1
 go_wp2
 go_ret
 exact ⟨str_ret key.out, RXw.out.trans H1.out⟩
set_option maxRecDepth 20000 in
set_option maxHeartbeats 4000000 in
theorem text_6 (a b d : Int) (s : ByteArray) (g off cap : Nat) (p : Nat → Int → ByteArray) (req : Int) (w : World) (hr : req ≤ 7) (hg : g < w.heap.size) (K0 : TxK 35 w g off 0 p) :
  Calls Tryd.prog 35 #[.agg #[.int .i64 6, .int .i64 a, .int .i64 b, .int .i64 d, .string s, .slice (some ⟨g, off, none⟩) 1 cap], .int .i64 req] w (StrRes (ndS 6 a b d s p) w) := by
 obtain ⟨o0, a0, b0, d0, s0, x0, hs0, hz0, hC0⟩ := K0
 have key : Hid ((((⟨#[102, 108, 111, 111, 114, 40]⟩ : ByteArray) ++ p 0 (0)) ++ ⟨#[41]⟩) = ndS 6 a b d s p) := by
  show _ = _
  simp [ndS]
 obtain ⟨P0, hP0⟩ : ∃ P, p 0 (0) = P := ⟨_, rfl⟩
 have z0 := hz0 (0)
 have C0 := Lib.hid fun w' (r : Rel w w') => hC0 w' (0) r (by omega) (by omega)
 rw [hP0] at key z0 C0
 have y1 : (⟨#[102, 108, 111, 111, 114, 40]⟩ : ByteArray).size ≤ 6 := by simp only [ByteArray.size_append, szA, List.length]; omega
 have w2 : ¬ 9223372036854775807 < 6 + P0.size := by omega
 have y2 : ((⟨#[102, 108, 111, 111, 114, 40]⟩ : ByteArray) ++ P0).size ≤ 4206 := by simp only [ByteArray.size_append, szA, List.length]; omega
 have w3 : ¬ 9223372036854775807 < 6 + P0.size + 1 := by omega
 have y3 : (((⟨#[102, 108, 111, 111, 114, 40]⟩ : ByteArray) ++ P0) ++ ⟨#[41]⟩).size ≤ 4207 := by simp only [ByteArray.size_append, szA, List.length]; omega
 obtain ⟨R, hR⟩ : ∃ R, ndS 6 a b d s p = R := ⟨_, rfl⟩
 rw [hR] at key ⊢
 have LV := Lib.hid fun w => level_any 6 w (by omega) (by omega)
 rw [show levI 6 = 7 from rfl] at LV
 have er : decide (7 < req) = false := decide_eq_false (by omega)
 clear hR hP0 hz0 hC0
 unfold StrRes at C0 ⊢
 obtain ⟨X, hX⟩ : ∃ X, w.alloc (.cells #[.int .i64 6, .int .i64 a, .int .i64 b, .int .i64 d, .string s, .slice (some ⟨g, off, none⟩) 1 cap] 42) = X := ⟨_, rfl⟩
 have RX : Rel w X := by rw [← hX]; exact (Rel.refl _).alloc _
 have BT := Lib.hid (BoxAt.new (w := w) (g := w.heap.size) rfl (.int .i64 6) (.int .i64 a) (.int .i64 b) (.int .i64 d) (.string s) (.slice (some ⟨g, off, none⟩) 1 cap) 42)
 rw [hX] at BT
 have bt := BT.out
 have b0_0 := bt.c0
 have b0_1 := bt.c1
 have b0_2 := bt.c2
 have b0_3 := bt.c3
 have b0_4 := bt.c4
 have b0_5 := bt.c5
 have t0 := six_rel hs0 RX hg
 have k0_0 : X.cell? ⟨g, off, none⟩ = some (.int .i64 o0) := t0.c0
 have k0_1 : X.cell? ⟨g, off + 1, none⟩ = some (.int .i64 a0) := t0.c1
 have k0_2 : X.cell? ⟨g, off + 2, none⟩ = some (.int .i64 b0) := t0.c2
 have k0_3 : X.cell? ⟨g, off + 3, none⟩ = some (.int .i64 d0) := t0.c3
 have k0_4 : X.cell? ⟨g, off + 4, none⟩ = some (.string s0) := t0.c4
 have k0_5 : X.cell? ⟨g, off + 5, none⟩ = some (x0) := t0.c5
 have RXw := Lib.hid RX
 clear RX BT bt hs0 t0
 go_enter Tryd.func35, Tryd.ntmps35
 go_wp2_with fail
 refine (LV.out _).mono ?_
 rintro e w1 ⟨rfl, rfl⟩
 go_wp2_with fail
 refine (C0.out _ RXw.out).mono ?_
 rintro e w1 ⟨rfl, h1⟩
 have kz1 := h1.size
 (try simp only [World.size_alloc, World.size_setCell, World.size_drew] at kz1)
 have H1 := Lib.hid h1
 clear h1
 go_wp2
 go_ret
 exact ⟨str_ret key.out, RXw.out.trans H1.out⟩
set_option maxRecDepth 20000 in
set_option maxHeartbeats 4000000 in
theorem text_19 (a b d : Int) (s : ByteArray) (g off cap : Nat) (p : Nat → Int → ByteArray) (req : Int) (w : World) (hr : req ≤ 7) (hg : g < w.heap.size) (K0 : TxK 35 w g off 0 p) (K1 : TxK 35 w g off 1 p) :
  Calls Tryd.prog 35 #[.agg #[.int .i64 19, .int .i64 a, .int .i64 b, .int .i64 d, .string s, .slice (some ⟨g, off, none⟩) 2 cap], .int .i64 req] w (StrRes (ndS 19 a b d s p) w) := by
 obtain ⟨o0, a0, b0, d0, s0, x0, hs0, hz0, hC0⟩ := K0
 obtain ⟨o1, a1, b1, d1, s1, x1, hs1, hz1, hC1⟩ := K1
 have key : Hid ((((((⟨#[109, 105, 110, 40]⟩ : ByteArray) ++ p 0 (0)) ++ ⟨#[44, 32]⟩) ++ p 1 (0)) ++ ⟨#[41]⟩) = ndS 19 a b d s p) := by
  show _ = _
  simp [ndS]
 obtain ⟨P0, hP0⟩ : ∃ P, p 0 (0) = P := ⟨_, rfl⟩
 have z0 := hz0 (0)
 have C0 := Lib.hid fun w' (r : Rel w w') => hC0 w' (0) r (by omega) (by omega)
 rw [hP0] at key z0 C0
 obtain ⟨P1, hP1⟩ : ∃ P, p 1 (0) = P := ⟨_, rfl⟩
 have z1 := hz1 (0)
 have C1 := Lib.hid fun w' (r : Rel w w') => hC1 w' (0) r (by omega) (by omega)
 rw [hP1] at key z1 C1
 have y1 : (⟨#[109, 105, 110, 40]⟩ : ByteArray).size ≤ 4 := by simp only [ByteArray.size_append, szA, List.length]; omega
 have w2 : ¬ 9223372036854775807 < 4 + P0.size := by omega
 have y2 : ((⟨#[109, 105, 110, 40]⟩ : ByteArray) ++ P0).size ≤ 4204 := by simp only [ByteArray.size_append, szA, List.length]; omega
 have w3 : ¬ 9223372036854775807 < 4 + P0.size + 2 := by omega
 have y3 : (((⟨#[109, 105, 110, 40]⟩ : ByteArray) ++ P0) ++ ⟨#[44, 32]⟩).size ≤ 4206 := by simp only [ByteArray.size_append, szA, List.length]; omega
 have w4 : ¬ 9223372036854775807 < 4 + P0.size + 2 + P1.size := by omega
 have y4 : ((((⟨#[109, 105, 110, 40]⟩ : ByteArray) ++ P0) ++ ⟨#[44, 32]⟩) ++ P1).size ≤ 8406 := by simp only [ByteArray.size_append, szA, List.length]; omega
 have w5 : ¬ 9223372036854775807 < 4 + P0.size + 2 + P1.size + 1 := by omega
 have y5 : (((((⟨#[109, 105, 110, 40]⟩ : ByteArray) ++ P0) ++ ⟨#[44, 32]⟩) ++ P1) ++ ⟨#[41]⟩).size ≤ 8407 := by simp only [ByteArray.size_append, szA, List.length]; omega
 obtain ⟨R, hR⟩ : ∃ R, ndS 19 a b d s p = R := ⟨_, rfl⟩
 rw [hR] at key ⊢
 have LV := Lib.hid fun w => level_any 19 w (by omega) (by omega)
 rw [show levI 19 = 7 from rfl] at LV
 have er : decide (7 < req) = false := decide_eq_false (by omega)
 clear hR hP0 hz0 hC0 hP1 hz1 hC1
 unfold StrRes at C0 C1 ⊢
 obtain ⟨X, hX⟩ : ∃ X, w.alloc (.cells #[.int .i64 19, .int .i64 a, .int .i64 b, .int .i64 d, .string s, .slice (some ⟨g, off, none⟩) 2 cap] 42) = X := ⟨_, rfl⟩
 have RX : Rel w X := by rw [← hX]; exact (Rel.refl _).alloc _
 have BT := Lib.hid (BoxAt.new (w := w) (g := w.heap.size) rfl (.int .i64 19) (.int .i64 a) (.int .i64 b) (.int .i64 d) (.string s) (.slice (some ⟨g, off, none⟩) 2 cap) 42)
 rw [hX] at BT
 have bt := BT.out
 have b0_0 := bt.c0
 have b0_1 := bt.c1
 have b0_2 := bt.c2
 have b0_3 := bt.c3
 have b0_4 := bt.c4
 have b0_5 := bt.c5
 have t0 := six_rel hs0 RX hg
 have k0_0 : X.cell? ⟨g, off, none⟩ = some (.int .i64 o0) := t0.c0
 have k0_1 : X.cell? ⟨g, off + 1, none⟩ = some (.int .i64 a0) := t0.c1
 have k0_2 : X.cell? ⟨g, off + 2, none⟩ = some (.int .i64 b0) := t0.c2
 have k0_3 : X.cell? ⟨g, off + 3, none⟩ = some (.int .i64 d0) := t0.c3
 have k0_4 : X.cell? ⟨g, off + 4, none⟩ = some (.string s0) := t0.c4
 have k0_5 : X.cell? ⟨g, off + 5, none⟩ = some (x0) := t0.c5
 have t1 := six_rel hs1 RX hg
 have k1_0 : X.cell? ⟨g, off + 6, none⟩ = some (.int .i64 o1) := t1.c0
 have k1_1 : X.cell? ⟨g, off + 6 + 1, none⟩ = some (.int .i64 a1) := t1.c1
 have k1_2 : X.cell? ⟨g, off + 6 + 2, none⟩ = some (.int .i64 b1) := t1.c2
 have k1_3 : X.cell? ⟨g, off + 6 + 3, none⟩ = some (.int .i64 d1) := t1.c3
 have k1_4 : X.cell? ⟨g, off + 6 + 4, none⟩ = some (.string s1) := t1.c4
 have k1_5 : X.cell? ⟨g, off + 6 + 5, none⟩ = some (x1) := t1.c5
 have RXw := Lib.hid RX
 clear RX BT bt hs0 t0 hs1 t1
 go_enter Tryd.func35, Tryd.ntmps35
 go_wp2_with fail
 refine (LV.out _).mono ?_
 rintro e w1 ⟨rfl, rfl⟩
 go_wp2_with fail
 refine wp_region_calm (fun _ w' => Rel X w') (fun _ => false) [0, 1, 2, 3, 4, 5, 6, 7, 8, 9, 10, 11, 12, 13, 14] 0 (by kernel_rfl) (by kernel_rfl) ?hst ?hS0 (fun w0 h0 => ?_)
 case hst => exact fun _ _ _ h r => h.trans r
 case hS0 => exact Rel.refl _
 iterate 4
  refine wpCalm_go rfl (by kernel_rfl) (fun K hK => ?_)
  apply Exists.intro
  refine ⟨fun M w hM hS => ?_, hK _ ?_⟩
  ·have e0 := hS.cell b0_0
   have e1 := hS.cell b0_1
   have e2 := hS.cell b0_2
   have e3 := hS.cell b0_3
   have e4 := hS.cell b0_4
   have e5 := hS.cell b0_5
   have f0_0 := hS.cell k0_0
   have f0_1 := hS.cell k0_1
   have f0_2 := hS.cell k0_2
   have f0_3 := hS.cell k0_3
   have f0_4 := hS.cell k0_4
   have f0_5 := hS.cell k0_5
   have f1_0 := hS.cell k1_0
   have f1_1 := hS.cell k1_1
   have f1_2 := hS.cell k1_2
   have f1_3 := hS.cell k1_3
   have f1_4 := hS.cell k1_4
   have f1_5 := hS.cell k1_5
   unfold calmAt
   go_simp
   exact ⟨rfl, Rel.refl _⟩
  clear hK K
 refine wpCalm_go rfl (by kernel_rfl) (fun K hK => ?_)
 apply Exists.intro
 refine ⟨fun M w hM hS => ?_, hK _ ?_⟩
 ·unfold calmAt
  go_simp
  with_reducible refine (C0.out _ (RXw.out.trans hS)).mono ?_
  rintro e w1 ⟨rfl, hb⟩
  exact ⟨rfl, hb⟩
 clear hK K
 iterate 6
  refine wpCalm_go rfl (by kernel_rfl) (fun K hK => ?_)
  apply Exists.intro
  refine ⟨fun M w hM hS => ?_, hK _ ?_⟩
  ·have e0 := hS.cell b0_0
   have e1 := hS.cell b0_1
   have e2 := hS.cell b0_2
   have e3 := hS.cell b0_3
   have e4 := hS.cell b0_4
   have e5 := hS.cell b0_5
   have f0_0 := hS.cell k0_0
   have f0_1 := hS.cell k0_1
   have f0_2 := hS.cell k0_2
   have f0_3 := hS.cell k0_3
   have f0_4 := hS.cell k0_4
   have f0_5 := hS.cell k0_5
   have f1_0 := hS.cell k1_0
   have f1_1 := hS.cell k1_1
   have f1_2 := hS.cell k1_2
   have f1_3 := hS.cell k1_3
   have f1_4 := hS.cell k1_4
   have f1_5 := hS.cell k1_5
   unfold calmAt
   go_simp
   exact ⟨rfl, Rel.refl _⟩
  clear hK K
 refine wpCalm_go rfl (by kernel_rfl) (fun K hK => ?_)
 apply Exists.intro
 refine ⟨fun M w hM hS => ?_, hK _ ?_⟩
 ·unfold calmAt
  go_simp
  with_reducible refine (C1.out _ (RXw.out.trans hS)).mono ?_
  rintro e w1 ⟨rfl, hb⟩
  exact ⟨rfl, hb⟩
 clear hK K
 iterate 3
  refine wpCalm_go rfl (by kernel_rfl) (fun K hK => ?_)
  apply Exists.intro
  refine ⟨fun M w hM hS => ?_, hK _ ?_⟩
  ·have e0 := hS.cell b0_0
   have e1 := hS.cell b0_1
   have e2 := hS.cell b0_2
   have e3 := hS.cell b0_3
   have e4 := hS.cell b0_4
   have e5 := hS.cell b0_5
   have f0_0 := hS.cell k0_0
   have f0_1 := hS.cell k0_1
   have f0_2 := hS.cell k0_2
   have f0_3 := hS.cell k0_3
   have f0_4 := hS.cell k0_4
   have f0_5 := hS.cell k0_5
   have f1_0 := hS.cell k1_0
   have f1_1 := hS.cell k1_1
   have f1_2 := hS.cell k1_2
   have f1_3 := hS.cell k1_3
   have f1_4 := hS.cell k1_4
   have f1_5 := hS.cell k1_5
   unfold calmAt
   go_simp
   exact ⟨rfl, Rel.refl _⟩
  clear hK K
 refine wpAnyR_end (by kernel_rfl) (fun w3 h3' => ?_)
 (try simp only [Act.put, List.setIfInBounds_toArray, List.set_cons_zero, List.set_cons_succ])
 have h3 := h0.trans h3'
 clear h0 h3'
 have kz3 := h3.size
 (try simp only [World.size_alloc, World.size_setCell, World.size_drew] at kz3)
 have H3 := Lib.hid h3
 clear h3
 go_wp2
 go_ret
 exact ⟨str_ret key.out, RXw.out.trans H3.out⟩
set_option maxRecDepth 20000 in
set_option maxHeartbeats 4000000 in
theorem text_20 (a b d : Int) (s : ByteArray) (g off cap : Nat) (p : Nat → Int → ByteArray) (req : Int) (w : World) (hr : req ≤ 7) (hg : g < w.heap.size) (K0 : TxK 35 w g off 0 p) (K1 : TxK 35 w g off 1 p) :
  Calls Tryd.prog 35 #[.agg #[.int .i64 20, .int .i64 a, .int .i64 b, .int .i64 d, .string s, .slice (some ⟨g, off, none⟩) 2 cap], .int .i64 req] w (StrRes (ndS 20 a b d s p) w) := by
 obtain ⟨o0, a0, b0, d0, s0, x0, hs0, hz0, hC0⟩ := K0
 obtain ⟨o1, a1, b1, d1, s1, x1, hs1, hz1, hC1⟩ := K1
 have key : Hid ((((((⟨#[109, 97, 120, 40]⟩ : ByteArray) ++ p 0 (0)) ++ ⟨#[44, 32]⟩) ++ p 1 (0)) ++ ⟨#[41]⟩) = ndS 20 a b d s p) := by
  show _ = _
  simp [ndS]
 obtain ⟨P0, hP0⟩ : ∃ P, p 0 (0) = P := ⟨_, rfl⟩
 have z0 := hz0 (0)
 have C0 := Lib.hid fun w' (r : Rel w w') => hC0 w' (0) r (by omega) (by omega)
 rw [hP0] at key z0 C0
 obtain ⟨P1, hP1⟩ : ∃ P, p 1 (0) = P := ⟨_, rfl⟩
 have z1 := hz1 (0)
 have C1 := Lib.hid fun w' (r : Rel w w') => hC1 w' (0) r (by omega) (by omega)
 rw [hP1] at key z1 C1
 have y1 : (⟨#[109, 97, 120, 40]⟩ : ByteArray).size ≤ 4 := by simp only [ByteArray.size_append, szA, List.length]; omega
 have w2 : ¬ 9223372036854775807 < 4 + P0.size := by omega
 have y2 : ((⟨#[109, 97, 120, 40]⟩ : ByteArray) ++ P0).size ≤ 4204 := by simp only [ByteArray.size_append, szA, List.length]; omega
 have w3 : ¬ 9223372036854775807 < 4 + P0.size + 2 := by omega
 have y3 : (((⟨#[109, 97, 120, 40]⟩ : ByteArray) ++ P0) ++ ⟨#[44, 32]⟩).size ≤ 4206 := by simp only [ByteArray.size_append, szA, List.length]; omega
 have w4 : ¬ 9223372036854775807 < 4 + P0.size + 2 + P1.size := by omega
 have y4 : ((((⟨#[109, 97, 120, 40]⟩ : ByteArray) ++ P0) ++ ⟨#[44, 32]⟩) ++ P1).size ≤ 8406 := by simp only [ByteArray.size_append, szA, List.length]; omega
 have w5 : ¬ 9223372036854775807 < 4 + P0.size + 2 + P1.size + 1 := by omega
 have y5 : (((((⟨#[109, 97, 120, 40]⟩ : ByteArray) ++ P0) ++ ⟨#[44, 32]⟩) ++ P1) ++ ⟨#[41]⟩).size ≤ 8407 := by simp only [ByteArray.size_append, szA, List.length]; omega
 obtain ⟨R, hR⟩ : ∃ R, ndS 20 a b d s p = R := ⟨_, rfl⟩
 rw [hR] at key ⊢
 have LV := Lib.hid fun w => level_any 20 w (by omega) (by omega)
 rw [show levI 20 = 7 from rfl] at LV
 have er : decide (7 < req) = false := decide_eq_false (by omega)
 clear hR hP0 hz0 hC0 hP1 hz1 hC1
 unfold StrRes at C0 C1 ⊢
 obtain ⟨X, hX⟩ : ∃ X, w.alloc (.cells #[.int .i64 20, .int .i64 a, .int .i64 b, .int .i64 d, .string s, .slice (some ⟨g, off, none⟩) 2 cap] 42) = X := ⟨_, rfl⟩
 have RX : Rel w X := by rw [← hX]; exact (Rel.refl _).alloc _
 have BT := Lib.hid (BoxAt.new (w := w) (g := w.heap.size) rfl (.int .i64 20) (.int .i64 a) (.int .i64 b) (.int .i64 d) (.string s) (.slice (some ⟨g, off, none⟩) 2 cap) 42)
 rw [hX] at BT
 have bt := BT.out
 have b0_0 := bt.c0
 have b0_1 := bt.c1
 have b0_2 := bt.c2
 have b0_3 := bt.c3
 have b0_4 := bt.c4
 have b0_5 := bt.c5
 have t0 := six_rel hs0 RX hg
 have k0_0 : X.cell? ⟨g, off, none⟩ = some (.int .i64 o0) := t0.c0
 have k0_1 : X.cell? ⟨g, off + 1, none⟩ = some (.int .i64 a0) := t0.c1
 have k0_2 : X.cell? ⟨g, off + 2, none⟩ = some (.int .i64 b0) := t0.c2
 have k0_3 : X.cell? ⟨g, off + 3, none⟩ = some (.int .i64 d0) := t0.c3
 have k0_4 : X.cell? ⟨g, off + 4, none⟩ = some (.string s0) := t0.c4
 have k0_5 : X.cell? ⟨g, off + 5, none⟩ = some (x0) := t0.c5
 have t1 := six_rel hs1 RX hg
 have k1_0 : X.cell? ⟨g, off + 6, none⟩ = some (.int .i64 o1) := t1.c0
 have k1_1 : X.cell? ⟨g, off + 6 + 1, none⟩ = some (.int .i64 a1) := t1.c1
 have k1_2 : X.cell? ⟨g, off + 6 + 2, none⟩ = some (.int .i64 b1) := t1.c2
 have k1_3 : X.cell? ⟨g, off + 6 + 3, none⟩ = some (.int .i64 d1) := t1.c3
 have k1_4 : X.cell? ⟨g, off + 6 + 4, none⟩ = some (.string s1) := t1.c4
 have k1_5 : X.cell? ⟨g, off + 6 + 5, none⟩ = some (x1) := t1.c5
 have RXw := Lib.hid RX
 clear RX BT bt hs0 t0 hs1 t1
 go_enter Tryd.func35, Tryd.ntmps35
 go_wp2_with fail
 refine (LV.out _).mono ?_
 rintro e w1 ⟨rfl, rfl⟩
 go_wp2_with fail
 refine wp_region_calm (fun _ w' => Rel X w') (fun _ => false) [0, 1, 2, 3, 4, 5, 6, 7, 8, 9, 10, 11, 12, 13, 14] 0 (by kernel_rfl) (by kernel_rfl) ?hst ?hS0 (fun w0 h0 => ?_)
 case hst => exact fun _ _ _ h r => h.trans r
 case hS0 => exact Rel.refl _
 iterate 4
  refine wpCalm_go rfl (by kernel_rfl) (fun K hK => ?_)
  apply Exists.intro
  refine ⟨fun M w hM hS => ?_, hK _ ?_⟩
  ·have e0 := hS.cell b0_0
   have e1 := hS.cell b0_1
   have e2 := hS.cell b0_2
   have e3 := hS.cell b0_3
   have e4 := hS.cell b0_4
   have e5 := hS.cell b0_5
   have f0_0 := hS.cell k0_0
   have f0_1 := hS.cell k0_1
   have f0_2 := hS.cell k0_2
   have f0_3 := hS.cell k0_3
   have f0_4 := hS.cell k0_4
   have f0_5 := hS.cell k0_5
   have f1_0 := hS.cell k1_0
   have f1_1 := hS.cell k1_1
   have f1_2 := hS.cell k1_2
   have f1_3 := hS.cell k1_3
   have f1_4 := hS.cell k1_4
   have f1_5 := hS.cell k1_5
   unfold calmAt
   go_simp
   exact ⟨rfl, Rel.refl _⟩
  clear hK K
 refine wpCalm_go rfl (by kernel_rfl) (fun K hK => ?_)
 apply Exists.intro
 refine ⟨fun M w hM hS => ?_, hK _ ?_⟩
 ·unfold calmAt
  go_simp
  with_reducible refine (C0.out _ (RXw.out.trans hS)).mono ?_
  rintro e w1 ⟨rfl, hb⟩
  exact ⟨rfl, hb⟩
 clear hK K
 iterate 6
  refine wpCalm_go rfl (by kernel_rfl) (fun K hK => ?_)
  apply Exists.intro
  refine ⟨fun M w hM hS => ?_, hK _ ?_⟩
  ·have e0 := hS.cell b0_0
   have e1 := hS.cell b0_1
   have e2 := hS.cell b0_2
   have e3 := hS.cell b0_3
   have e4 := hS.cell b0_4
   have e5 := hS.cell b0_5
   have f0_0 := hS.cell k0_0
   have f0_1 := hS.cell k0_1
   have f0_2 := hS.cell k0_2
   have f0_3 := hS.cell k0_3
   have f0_4 := hS.cell k0_4
   have f0_5 := hS.cell k0_5
   have f1_0 := hS.cell k1_0
   have f1_1 := hS.cell k1_1
   have f1_2 := hS.cell k1_2
   have f1_3 := hS.cell k1_3
   have f1_4 := hS.cell k1_4
   have f1_5 := hS.cell k1_5
   unfold calmAt
   go_simp
   exact ⟨rfl, Rel.refl _⟩
  clear hK K
 refine wpCalm_go rfl (by kernel_rfl) (fun K hK => ?_)
 apply Exists.intro
 refine ⟨fun M w hM hS => ?_, hK _ ?_⟩
 ·unfold calmAt
  go_simp
  with_reducible refine (C1.out _ (RXw.out.trans hS)).mono ?_
  rintro e w1 ⟨rfl, hb⟩
  exact ⟨rfl, hb⟩
 clear hK K
 iterate 3
  refine wpCalm_go rfl (by kernel_rfl) (fun K hK => ?_)
  apply Exists.intro
  refine ⟨fun M w hM hS => ?_, hK _ ?_⟩
  ·have e0 := hS.cell b0_0
   have e1 := hS.cell b0_1
   have e2 := hS.cell b0_2
   have e3 := hS.cell b0_3
   have e4 := hS.cell b0_4
   have e5 := hS.cell b0_5
   have f0_0 := hS.cell k0_0
   have f0_1 := hS.cell k0_1
   have f0_2 := hS.cell k0_2
   have f0_3 := hS.cell k0_3
   have f0_4 := hS.cell k0_4
   have f0_5 := hS.cell k0_5
   have f1_0 := hS.cell k1_0
   have f1_1 := hS.cell k1_1
   have f1_2 := hS.cell k1_2
   have f1_3 := hS.cell k1_3
   have f1_4 := hS.cell k1_4
   have f1_5 := hS.cell k1_5
   unfold calmAt
   go_simp
   exact ⟨rfl, Rel.refl _⟩
  clear hK K
 refine wpAnyR_end (by kernel_rfl) (fun w3 h3' => ?_)
 (try simp only [Act.put, List.setIfInBounds_toArray, List.set_cons_zero, List.set_cons_succ])
 have h3 := h0.trans h3'
 clear h0 h3'
 have kz3 := h3.size
 (try simp only [World.size_alloc, World.size_setCell, World.size_drew] at kz3)
 have H3 := Lib.hid h3
 clear h3
 go_wp2
 go_ret
 exact ⟨str_ret key.out, RXw.out.trans H3.out⟩
set_option maxRecDepth 20000 in
set_option maxHeartbeats 4000000 in
theorem text_21 (a b d : Int) (s : ByteArray) (g off cap : Nat) (p : Nat → Int → ByteArray) (req : Int) (w : World) (hr : req ≤ 0) (hg : g < w.heap.size) (K0 : TxK 35 w g off 0 p) (K1 : TxK 35 w g off 1 p) (K2 : TxK 35 w g off 2 p) :
  Calls Tryd.prog 35 #[.agg #[.int .i64 21, .int .i64 a, .int .i64 b, .int .i64 d, .string s, .slice (some ⟨g, off, none⟩) 3 cap], .int .i64 req] w (StrRes (ndS 21 a b d s p) w) := by
 obtain ⟨o0, a0, b0, d0, s0, x0, hs0, hz0, hC0⟩ := K0
 obtain ⟨o1, a1, b1, d1, s1, x1, hs1, hz1, hC1⟩ := K1
 obtain ⟨o2, a2, b2, d2, s2, x2, hs2, hz2, hC2⟩ := K2
 have key : Hid (((((((⟨#[105, 102, 32]⟩ : ByteArray) ++ p 0 (0)) ++ ⟨#[32, 116, 104, 101, 110, 32]⟩) ++ p 1 (0)) ++ ⟨#[32, 101, 108, 115, 101, 32]⟩) ++ p 2 (0)) = ndS 21 a b d s p) := by
  show _ = _
  simp [ndS]
 obtain ⟨P0, hP0⟩ : ∃ P, p 0 (0) = P := ⟨_, rfl⟩
 have z0 := hz0 (0)
 have C0 := Lib.hid fun w' (r : Rel w w') => hC0 w' (0) r (by omega) (by omega)
 rw [hP0] at key z0 C0
 obtain ⟨P1, hP1⟩ : ∃ P, p 1 (0) = P := ⟨_, rfl⟩
 have z1 := hz1 (0)
 have C1 := Lib.hid fun w' (r : Rel w w') => hC1 w' (0) r (by omega) (by omega)
 rw [hP1] at key z1 C1
 obtain ⟨P2, hP2⟩ : ∃ P, p 2 (0) = P := ⟨_, rfl⟩
 have z2 := hz2 (0)
 have C2 := Lib.hid fun w' (r : Rel w w') => hC2 w' (0) r (by omega) (by omega)
 rw [hP2] at key z2 C2
 have y1 : (⟨#[105, 102, 32]⟩ : ByteArray).size ≤ 3 := by simp only [ByteArray.size_append, szA, List.length]; omega
 have w2 : ¬ 9223372036854775807 < 3 + P0.size := by omega
 have y2 : ((⟨#[105, 102, 32]⟩ : ByteArray) ++ P0).size ≤ 4203 := by simp only [ByteArray.size_append, szA, List.length]; omega
 have w3 : ¬ 9223372036854775807 < 3 + P0.size + 6 := by omega
 have y3 : (((⟨#[105, 102, 32]⟩ : ByteArray) ++ P0) ++ ⟨#[32, 116, 104, 101, 110, 32]⟩).size ≤ 4209 := by simp only [ByteArray.size_append, szA, List.length]; omega
 have w4 : ¬ 9223372036854775807 < 3 + P0.size + 6 + P1.size := by omega
 have y4 : ((((⟨#[105, 102, 32]⟩ : ByteArray) ++ P0) ++ ⟨#[32, 116, 104, 101, 110, 32]⟩) ++ P1).size ≤ 8409 := by simp only [ByteArray.size_append, szA, List.length]; omega
 have w5 : ¬ 9223372036854775807 < 3 + P0.size + 6 + P1.size + 6 := by omega
 have y5 : (((((⟨#[105, 102, 32]⟩ : ByteArray) ++ P0) ++ ⟨#[32, 116, 104, 101, 110, 32]⟩) ++ P1) ++ ⟨#[32, 101, 108, 115, 101, 32]⟩).size ≤ 8415 := by simp only [ByteArray.size_append, szA, List.length]; omega
 have w6 : ¬ 9223372036854775807 < 3 + P0.size + 6 + P1.size + 6 + P2.size := by omega
 have y6 : ((((((⟨#[105, 102, 32]⟩ : ByteArray) ++ P0) ++ ⟨#[32, 116, 104, 101, 110, 32]⟩) ++ P1) ++ ⟨#[32, 101, 108, 115, 101, 32]⟩) ++ P2).size ≤ 12615 := by simp only [ByteArray.size_append, szA, List.length]; omega
 obtain ⟨R, hR⟩ : ∃ R, ndS 21 a b d s p = R := ⟨_, rfl⟩
 rw [hR] at key ⊢
 have LV := Lib.hid fun w => level_any 21 w (by omega) (by omega)
 rw [show levI 21 = 0 from rfl] at LV
 have er : decide (0 < req) = false := decide_eq_false (by omega)
 clear hR hP0 hz0 hC0 hP1 hz1 hC1 hP2 hz2 hC2
 unfold StrRes at C0 C1 C2 ⊢
 obtain ⟨X, hX⟩ : ∃ X, w.alloc (.cells #[.int .i64 21, .int .i64 a, .int .i64 b, .int .i64 d, .string s, .slice (some ⟨g, off, none⟩) 3 cap] 42) = X := ⟨_, rfl⟩
 have RX : Rel w X := by rw [← hX]; exact (Rel.refl _).alloc _
 have BT := Lib.hid (BoxAt.new (w := w) (g := w.heap.size) rfl (.int .i64 21) (.int .i64 a) (.int .i64 b) (.int .i64 d) (.string s) (.slice (some ⟨g, off, none⟩) 3 cap) 42)
 rw [hX] at BT
 have bt := BT.out
 have b0_0 := bt.c0
 have b0_1 := bt.c1
 have b0_2 := bt.c2
 have b0_3 := bt.c3
 have b0_4 := bt.c4
 have b0_5 := bt.c5
 have t0 := six_rel hs0 RX hg
 have k0_0 : X.cell? ⟨g, off, none⟩ = some (.int .i64 o0) := t0.c0
 have k0_1 : X.cell? ⟨g, off + 1, none⟩ = some (.int .i64 a0) := t0.c1
 have k0_2 : X.cell? ⟨g, off + 2, none⟩ = some (.int .i64 b0) := t0.c2
 have k0_3 : X.cell? ⟨g, off + 3, none⟩ = some (.int .i64 d0) := t0.c3
 have k0_4 : X.cell? ⟨g, off + 4, none⟩ = some (.string s0) := t0.c4
 have k0_5 : X.cell? ⟨g, off + 5, none⟩ = some (x0) := t0.c5
 have t1 := six_rel hs1 RX hg
 have k1_0 : X.cell? ⟨g, off + 6, none⟩ = some (.int .i64 o1) := t1.c0
 have k1_1 : X.cell? ⟨g, off + 6 + 1, none⟩ = some (.int .i64 a1) := t1.c1
 have k1_2 : X.cell? ⟨g, off + 6 + 2, none⟩ = some (.int .i64 b1) := t1.c2
 have k1_3 : X.cell? ⟨g, off + 6 + 3, none⟩ = some (.int .i64 d1) := t1.c3
 have k1_4 : X.cell? ⟨g, off + 6 + 4, none⟩ = some (.string s1) := t1.c4
 have k1_5 : X.cell? ⟨g, off + 6 + 5, none⟩ = some (x1) := t1.c5
 have t2 := six_rel hs2 RX hg
 have k2_0 : X.cell? ⟨g, off + 12, none⟩ = some (.int .i64 o2) := t2.c0
 have k2_1 : X.cell? ⟨g, off + 12 + 1, none⟩ = some (.int .i64 a2) := t2.c1
 have k2_2 : X.cell? ⟨g, off + 12 + 2, none⟩ = some (.int .i64 b2) := t2.c2
 have k2_3 : X.cell? ⟨g, off + 12 + 3, none⟩ = some (.int .i64 d2) := t2.c3
 have k2_4 : X.cell? ⟨g, off + 12 + 4, none⟩ = some (.string s2) := t2.c4
 have k2_5 : X.cell? ⟨g, off + 12 + 5, none⟩ = some (x2) := t2.c5
 have RXw := Lib.hid RX
 clear RX BT bt hs0 t0 hs1 t1 hs2 t2
 go_enter Tryd.func35, Tryd.ntmps35
 go_wp2_with fail
 refine (LV.out _).mono ?_
 rintro e w1 ⟨rfl, rfl⟩
 go_wp2_with fail
 refine wp_region_calm (fun _ w' => Rel X w') (fun _ => false) [0, 1, 2, 3, 4, 5, 6, 7, 8, 9, 10, 11, 12, 13, 14, 15, 16, 17, 18, 19, 20] 0 (by kernel_rfl) (by kernel_rfl) ?hst ?hS0 (fun w0 h0 => ?_)
 case hst => exact fun _ _ _ h r => h.trans r
 case hS0 => exact Rel.refl _
 iterate 4
  refine wpCalm_go rfl (by kernel_rfl) (fun K hK => ?_)
  apply Exists.intro
  refine ⟨fun M w hM hS => ?_, hK _ ?_⟩
  ·have e0 := hS.cell b0_0
   have e1 := hS.cell b0_1
   have e2 := hS.cell b0_2
   have e3 := hS.cell b0_3
   have e4 := hS.cell b0_4
   have e5 := hS.cell b0_5
   have f0_0 := hS.cell k0_0
   have f0_1 := hS.cell k0_1
   have f0_2 := hS.cell k0_2
   have f0_3 := hS.cell k0_3
   have f0_4 := hS.cell k0_4
   have f0_5 := hS.cell k0_5
   have f1_0 := hS.cell k1_0
   have f1_1 := hS.cell k1_1
   have f1_2 := hS.cell k1_2
   have f1_3 := hS.cell k1_3
   have f1_4 := hS.cell k1_4
   have f1_5 := hS.cell k1_5
   have f2_0 := hS.cell k2_0
   have f2_1 := hS.cell k2_1
   have f2_2 := hS.cell k2_2
   have f2_3 := hS.cell k2_3
   have f2_4 := hS.cell k2_4
   have f2_5 := hS.cell k2_5
   unfold calmAt
   go_simp
   exact ⟨rfl, Rel.refl _⟩
  clear hK K
 refine wpCalm_go rfl (by kernel_rfl) (fun K hK => ?_)
 apply Exists.intro
 refine ⟨fun M w hM hS => ?_, hK _ ?_⟩
 ·unfold calmAt
  go_simp
  with_reducible refine (C0.out _ (RXw.out.trans hS)).mono ?_
  rintro e w1 ⟨rfl, hb⟩
  exact ⟨rfl, hb⟩
 clear hK K
 iterate 6
  refine wpCalm_go rfl (by kernel_rfl) (fun K hK => ?_)
  apply Exists.intro
  refine ⟨fun M w hM hS => ?_, hK _ ?_⟩
  ·have e0 := hS.cell b0_0
   have e1 := hS.cell b0_1
   have e2 := hS.cell b0_2
   have e3 := hS.cell b0_3
   have e4 := hS.cell b0_4
   have e5 := hS.cell b0_5
   have f0_0 := hS.cell k0_0
   have f0_1 := hS.cell k0_1
   have f0_2 := hS.cell k0_2
   have f0_3 := hS.cell k0_3
   have f0_4 := hS.cell k0_4
   have f0_5 := hS.cell k0_5
   have f1_0 := hS.cell k1_0
   have f1_1 := hS.cell k1_1
   have f1_2 := hS.cell k1_2
   have f1_3 := hS.cell k1_3
   have f1_4 := hS.cell k1_4
   have f1_5 := hS.cell k1_5
   have f2_0 := hS.cell k2_0
   have f2_1 := hS.cell k2_1
   have f2_2 := hS.cell k2_2
   have f2_3 := hS.cell k2_3
   have f2_4 := hS.cell k2_4
   have f2_5 := hS.cell k2_5
   unfold calmAt
   go_simp
   exact ⟨rfl, Rel.refl _⟩
  clear hK K
 refine wpCalm_go rfl (by kernel_rfl) (fun K hK => ?_)
 apply Exists.intro
 refine ⟨fun M w hM hS => ?_, hK _ ?_⟩
 ·unfold calmAt
  go_simp
  with_reducible refine (C1.out _ (RXw.out.trans hS)).mono ?_
  rintro e w1 ⟨rfl, hb⟩
  exact ⟨rfl, hb⟩
 clear hK K
 iterate 6
  refine wpCalm_go rfl (by kernel_rfl) (fun K hK => ?_)
  apply Exists.intro
  refine ⟨fun M w hM hS => ?_, hK _ ?_⟩
  ·have e0 := hS.cell b0_0
   have e1 := hS.cell b0_1
   have e2 := hS.cell b0_2
   have e3 := hS.cell b0_3
   have e4 := hS.cell b0_4
   have e5 := hS.cell b0_5
   have f0_0 := hS.cell k0_0
   have f0_1 := hS.cell k0_1
   have f0_2 := hS.cell k0_2
   have f0_3 := hS.cell k0_3
   have f0_4 := hS.cell k0_4
   have f0_5 := hS.cell k0_5
   have f1_0 := hS.cell k1_0
   have f1_1 := hS.cell k1_1
   have f1_2 := hS.cell k1_2
   have f1_3 := hS.cell k1_3
   have f1_4 := hS.cell k1_4
   have f1_5 := hS.cell k1_5
   have f2_0 := hS.cell k2_0
   have f2_1 := hS.cell k2_1
   have f2_2 := hS.cell k2_2
   have f2_3 := hS.cell k2_3
   have f2_4 := hS.cell k2_4
   have f2_5 := hS.cell k2_5
   unfold calmAt
   go_simp
   exact ⟨rfl, Rel.refl _⟩
  clear hK K
 refine wpCalm_go rfl (by kernel_rfl) (fun K hK => ?_)
 apply Exists.intro
 refine ⟨fun M w hM hS => ?_, hK _ ?_⟩
 ·unfold calmAt
  go_simp
  with_reducible refine (C2.out _ (RXw.out.trans hS)).mono ?_
  rintro e w1 ⟨rfl, hb⟩
  exact ⟨rfl, hb⟩
 clear hK K
 iterate 2
  refine wpCalm_go rfl (by kernel_rfl) (fun K hK => ?_)
  apply Exists.intro
  refine ⟨fun M w hM hS => ?_, hK _ ?_⟩
  ·have e0 := hS.cell b0_0
   have e1 := hS.cell b0_1
   have e2 := hS.cell b0_2
   have e3 := hS.cell b0_3
   have e4 := hS.cell b0_4
   have e5 := hS.cell b0_5
   have f0_0 := hS.cell k0_0
   have f0_1 := hS.cell k0_1
   have f0_2 := hS.cell k0_2
   have f0_3 := hS.cell k0_3
   have f0_4 := hS.cell k0_4
   have f0_5 := hS.cell k0_5
   have f1_0 := hS.cell k1_0
   have f1_1 := hS.cell k1_1
   have f1_2 := hS.cell k1_2
   have f1_3 := hS.cell k1_3
   have f1_4 := hS.cell k1_4
   have f1_5 := hS.cell k1_5
   have f2_0 := hS.cell k2_0
   have f2_1 := hS.cell k2_1
   have f2_2 := hS.cell k2_2
   have f2_3 := hS.cell k2_3
   have f2_4 := hS.cell k2_4
   have f2_5 := hS.cell k2_5
   unfold calmAt
   go_simp
   exact ⟨rfl, Rel.refl _⟩
  clear hK K
 refine wpAnyR_end (by kernel_rfl) (fun w3 h3' => ?_)
 (try simp only [Act.put, List.setIfInBounds_toArray, List.set_cons_zero, List.set_cons_succ])
 have h3 := h0.trans h3'
 clear h0 h3'
 have kz3 := h3.size
 (try simp only [World.size_alloc, World.size_setCell, World.size_drew] at kz3)
 have H3 := Lib.hid h3
 clear h3
 go_wp2
 go_ret
 exact ⟨str_ret key.out, RXw.out.trans H3.out⟩
set_option maxRecDepth 20000 in
set_option maxHeartbeats 4000000 in
theorem text_binr (op L : Int) (a b d : Int) (s : ByteArray) (g off cap : Nat) (p : Nat → Int → ByteArray) (req : Int) (w : World) (h0 : 7 ≤ op) (h1 : op ≤ 18) (hl4 : L = 4) (hL : levI op = L) (hr : req ≤ 4) (hg : g < w.heap.size) (K0 : TxK 35 w g off 0 p) (K1 : TxK 35 w g off 1 p) :
  Calls Tryd.prog 35 #[.agg #[.int .i64 op, .int .i64 a, .int .i64 b, .int .i64 d, .string s, .slice (some ⟨g, off, none⟩) 2 cap], .int .i64 req] w (StrRes (ndS op a b d s p) w) := by
 obtain ⟨o0, a0, b0, d0, s0, x0, hs0, hz0, hC0⟩ := K0
 obtain ⟨o1, a1, b1, d1, s1, x1, hs1, hz1, hC1⟩ := K1
 have key : Hid (((((p 0 (5) ++ ⟨#[32]⟩) ++ sgS op) ++ ⟨#[32]⟩) ++ p 1 (5)) = ndS op a b d s p) := by
  show _ = _
  unfold ndS
  rw [if_neg (show ¬ op = 1 by omega), if_neg (show ¬ op = 2 by omega), if_neg (show ¬ op = 3 by omega), if_neg (show ¬ op = 4 by omega), if_neg (show ¬ op = 5 by omega), if_neg (show ¬ op = 6 by omega), if_neg (show ¬ op = 19 by omega), if_neg (show ¬ op = 20 by omega), if_neg (show ¬ op = 21 by omega), hL, hl4, if_pos rfl]; rfl
 obtain ⟨P0, hP0⟩ : ∃ P, p 0 (5) = P := ⟨_, rfl⟩
 have z0 := hz0 (5)
 have C0 := Lib.hid fun w' (r : Rel w w') => hC0 w' (5) r (by omega) (by omega)
 rw [hP0] at key z0 C0
 obtain ⟨P1, hP1⟩ : ∃ P, p 1 (5) = P := ⟨_, rfl⟩
 have z1 := hz1 (5)
 have C1 := Lib.hid fun w' (r : Rel w w') => hC1 w' (5) r (by omega) (by omega)
 rw [hP1] at key z1 C1
 have wp : IntKind.i64.wrap (5) = 5 := IntWalk.i64_in _ ⟨by omega, by omega⟩
 have SG := Lib.hid fun w => fsign_any op w (by omega) (by omega)
 have zs := sg_size op
 obtain ⟨SS, hSS⟩ : ∃ SS, sgS op = SS := ⟨_, rfl⟩
 rw [hSS] at key SG zs
 have w2 : ¬ 9223372036854775807 < P0.size + 1 := by omega
 have y2 : ((P0 : ByteArray) ++ ⟨#[32]⟩).size ≤ 4201 := by simp only [ByteArray.size_append, szA, List.length]; omega
 have w3 : ¬ 9223372036854775807 < P0.size + 1 + SS.size := by omega
 have y3 : (((P0 : ByteArray) ++ ⟨#[32]⟩) ++ SS).size ≤ 4204 := by simp only [ByteArray.size_append, szA, List.length]; omega
 have w4 : ¬ 9223372036854775807 < P0.size + 1 + SS.size + 1 := by omega
 have y4 : ((((P0 : ByteArray) ++ ⟨#[32]⟩) ++ SS) ++ ⟨#[32]⟩).size ≤ 4205 := by simp only [ByteArray.size_append, szA, List.length]; omega
 have w5 : ¬ 9223372036854775807 < P0.size + 1 + SS.size + 1 + P1.size := by omega
 have y5 : (((((P0 : ByteArray) ++ ⟨#[32]⟩) ++ SS) ++ ⟨#[32]⟩) ++ P1).size ≤ 8405 := by simp only [ByteArray.size_append, szA, List.length]; omega
 obtain ⟨R, hR⟩ : ∃ R, ndS op a b d s p = R := ⟨_, rfl⟩
 rw [hR] at key ⊢
 have LV := Lib.hid fun w => level_any op w (by omega) (by omega)
 rw [hL] at LV
 have er : decide (4 < req) = false := decide_eq_false (by omega)
 subst hl4
 have n1 : (op == 1) = false := by rw [beq_eq_false_iff_ne]; omega
 have n2 : (op == 2) = false := by rw [beq_eq_false_iff_ne]; omega
 have n3 : (op == 3) = false := by rw [beq_eq_false_iff_ne]; omega
 have n4 : (op == 4) = false := by rw [beq_eq_false_iff_ne]; omega
 have n5 : (op == 5) = false := by rw [beq_eq_false_iff_ne]; omega
 have n6 : (op == 6) = false := by rw [beq_eq_false_iff_ne]; omega
 have n19 : (op == 19) = false := by rw [beq_eq_false_iff_ne]; omega
 have n20 : (op == 20) = false := by rw [beq_eq_false_iff_ne]; omega
 have n21 : (op == 21) = false := by rw [beq_eq_false_iff_ne]; omega
 clear hR hP0 hz0 hC0 hP1 hz1 hC1 hSS
 unfold StrRes at C0 C1 ⊢
 obtain ⟨X, hX⟩ : ∃ X, w.alloc (.cells #[.int .i64 op, .int .i64 a, .int .i64 b, .int .i64 d, .string s, .slice (some ⟨g, off, none⟩) 2 cap] 42) = X := ⟨_, rfl⟩
 have RX : Rel w X := by rw [← hX]; exact (Rel.refl _).alloc _
 have BT := Lib.hid (BoxAt.new (w := w) (g := w.heap.size) rfl (.int .i64 op) (.int .i64 a) (.int .i64 b) (.int .i64 d) (.string s) (.slice (some ⟨g, off, none⟩) 2 cap) 42)
 rw [hX] at BT
 have bt := BT.out
 have b0_0 := bt.c0
 have b0_1 := bt.c1
 have b0_2 := bt.c2
 have b0_3 := bt.c3
 have b0_4 := bt.c4
 have b0_5 := bt.c5
 have t0 := six_rel hs0 RX hg
 have k0_0 : X.cell? ⟨g, off, none⟩ = some (.int .i64 o0) := t0.c0
 have k0_1 : X.cell? ⟨g, off + 1, none⟩ = some (.int .i64 a0) := t0.c1
 have k0_2 : X.cell? ⟨g, off + 2, none⟩ = some (.int .i64 b0) := t0.c2
 have k0_3 : X.cell? ⟨g, off + 3, none⟩ = some (.int .i64 d0) := t0.c3
 have k0_4 : X.cell? ⟨g, off + 4, none⟩ = some (.string s0) := t0.c4
 have k0_5 : X.cell? ⟨g, off + 5, none⟩ = some (x0) := t0.c5
 have t1 := six_rel hs1 RX hg
 have k1_0 : X.cell? ⟨g, off + 6, none⟩ = some (.int .i64 o1) := t1.c0
 have k1_1 : X.cell? ⟨g, off + 6 + 1, none⟩ = some (.int .i64 a1) := t1.c1
 have k1_2 : X.cell? ⟨g, off + 6 + 2, none⟩ = some (.int .i64 b1) := t1.c2
 have k1_3 : X.cell? ⟨g, off + 6 + 3, none⟩ = some (.int .i64 d1) := t1.c3
 have k1_4 : X.cell? ⟨g, off + 6 + 4, none⟩ = some (.string s1) := t1.c4
 have k1_5 : X.cell? ⟨g, off + 6 + 5, none⟩ = some (x1) := t1.c5
 have RXw := Lib.hid RX
 clear RX BT bt hs0 t0 hs1 t1
 go_enter Tryd.func35, Tryd.ntmps35
 go_wp2_with fail
 refine (LV.out _).mono ?_
 rintro e w1 ⟨rfl, rfl⟩
 go_wp2_with fail
 refine wp_region_calm (fun _ w' => Rel X w') (fun _ => false) [0, 1, 2, 3, 4, 5, 6, 7, 8, 9, 10, 11, 12, 13, 14, 15, 16, 17, 18, 19, 20] 0 (by kernel_rfl) (by kernel_rfl) ?hst ?hS0 (fun w0 h0 => ?_)
 case hst => exact fun _ _ _ h r => h.trans r
 case hS0 => exact Rel.refl _
 iterate 5
  refine wpCalm_go rfl (by kernel_rfl) (fun K hK => ?_)
  apply Exists.intro
  refine ⟨fun M w hM hS => ?_, hK _ ?_⟩
  ·have e0 := hS.cell b0_0
   have e1 := hS.cell b0_1
   have e2 := hS.cell b0_2
   have e3 := hS.cell b0_3
   have e4 := hS.cell b0_4
   have e5 := hS.cell b0_5
   have f0_0 := hS.cell k0_0
   have f0_1 := hS.cell k0_1
   have f0_2 := hS.cell k0_2
   have f0_3 := hS.cell k0_3
   have f0_4 := hS.cell k0_4
   have f0_5 := hS.cell k0_5
   have f1_0 := hS.cell k1_0
   have f1_1 := hS.cell k1_1
   have f1_2 := hS.cell k1_2
   have f1_3 := hS.cell k1_3
   have f1_4 := hS.cell k1_4
   have f1_5 := hS.cell k1_5
   unfold calmAt
   go_simp
   exact ⟨rfl, Rel.refl _⟩
  clear hK K
 refine wpCalm_go rfl (by kernel_rfl) (fun K hK => ?_)
 apply Exists.intro
 refine ⟨fun M w hM hS => ?_, hK _ ?_⟩
 ·unfold calmAt
  go_simp
  with_reducible refine (C0.out _ (RXw.out.trans hS)).mono ?_
  rintro e w1 ⟨rfl, hb⟩
  exact ⟨rfl, hb⟩
 clear hK K
 iterate 3
  refine wpCalm_go rfl (by kernel_rfl) (fun K hK => ?_)
  apply Exists.intro
  refine ⟨fun M w hM hS => ?_, hK _ ?_⟩
  ·have e0 := hS.cell b0_0
   have e1 := hS.cell b0_1
   have e2 := hS.cell b0_2
   have e3 := hS.cell b0_3
   have e4 := hS.cell b0_4
   have e5 := hS.cell b0_5
   have f0_0 := hS.cell k0_0
   have f0_1 := hS.cell k0_1
   have f0_2 := hS.cell k0_2
   have f0_3 := hS.cell k0_3
   have f0_4 := hS.cell k0_4
   have f0_5 := hS.cell k0_5
   have f1_0 := hS.cell k1_0
   have f1_1 := hS.cell k1_1
   have f1_2 := hS.cell k1_2
   have f1_3 := hS.cell k1_3
   have f1_4 := hS.cell k1_4
   have f1_5 := hS.cell k1_5
   unfold calmAt
   go_simp
   exact ⟨rfl, Rel.refl _⟩
  clear hK K
 refine wpCalm_go rfl (by kernel_rfl) (fun K hK => ?_)
 apply Exists.intro
 refine ⟨fun M w hM hS => ?_, hK _ ?_⟩
 ·unfold calmAt
  go_simp
  with_reducible refine (SG.out _).mono ?_
  rintro e w1 ⟨rfl, hb⟩
  exact ⟨rfl, hb⟩
 clear hK K
 iterate 8
  refine wpCalm_go rfl (by kernel_rfl) (fun K hK => ?_)
  apply Exists.intro
  refine ⟨fun M w hM hS => ?_, hK _ ?_⟩
  ·have e0 := hS.cell b0_0
   have e1 := hS.cell b0_1
   have e2 := hS.cell b0_2
   have e3 := hS.cell b0_3
   have e4 := hS.cell b0_4
   have e5 := hS.cell b0_5
   have f0_0 := hS.cell k0_0
   have f0_1 := hS.cell k0_1
   have f0_2 := hS.cell k0_2
   have f0_3 := hS.cell k0_3
   have f0_4 := hS.cell k0_4
   have f0_5 := hS.cell k0_5
   have f1_0 := hS.cell k1_0
   have f1_1 := hS.cell k1_1
   have f1_2 := hS.cell k1_2
   have f1_3 := hS.cell k1_3
   have f1_4 := hS.cell k1_4
   have f1_5 := hS.cell k1_5
   unfold calmAt
   go_simp
   exact ⟨rfl, Rel.refl _⟩
  clear hK K
 refine wpCalm_go rfl (by kernel_rfl) (fun K hK => ?_)
 apply Exists.intro
 refine ⟨fun M w hM hS => ?_, hK _ ?_⟩
 ·unfold calmAt
  go_simp
  with_reducible refine (C1.out _ (RXw.out.trans hS)).mono ?_
  rintro e w1 ⟨rfl, hb⟩
  exact ⟨rfl, hb⟩
 clear hK K
 iterate 2
  refine wpCalm_go rfl (by kernel_rfl) (fun K hK => ?_)
  apply Exists.intro
  refine ⟨fun M w hM hS => ?_, hK _ ?_⟩
  ·have e0 := hS.cell b0_0
   have e1 := hS.cell b0_1
   have e2 := hS.cell b0_2
   have e3 := hS.cell b0_3
   have e4 := hS.cell b0_4
   have e5 := hS.cell b0_5
   have f0_0 := hS.cell k0_0
   have f0_1 := hS.cell k0_1
   have f0_2 := hS.cell k0_2
   have f0_3 := hS.cell k0_3
   have f0_4 := hS.cell k0_4
   have f0_5 := hS.cell k0_5
   have f1_0 := hS.cell k1_0
   have f1_1 := hS.cell k1_1
   have f1_2 := hS.cell k1_2
   have f1_3 := hS.cell k1_3
   have f1_4 := hS.cell k1_4
   have f1_5 := hS.cell k1_5
   unfold calmAt
   go_simp
   exact ⟨rfl, Rel.refl _⟩
  clear hK K
 refine wpAnyR_end (by kernel_rfl) (fun w3 h3' => ?_)
 (try simp only [Act.put, List.setIfInBounds_toArray, List.set_cons_zero, List.set_cons_succ])
 have h3 := h0.trans h3'
 clear h0 h3'
 have kz3 := h3.size
 (try simp only [World.size_alloc, World.size_setCell, World.size_drew] at kz3)
 have H3 := Lib.hid h3
 clear h3
 go_wp2
 go_ret
 exact ⟨str_ret key.out, RXw.out.trans H3.out⟩
set_option maxRecDepth 20000 in
set_option maxHeartbeats 4000000 in
theorem text_bino (op L : Int) (a b d : Int) (s : ByteArray) (g off cap : Nat) (p : Nat → Int → ByteArray) (req : Int) (w : World) (h0 : 7 ≤ op) (h1 : op ≤ 18) (hL : levI op = L) (hL0 : 0 ≤ L) (hL6 : L ≤ 6) (h4 : ¬ L = 4) (hr : req ≤ L) (hg : g < w.heap.size) (K0 : TxK 35 w g off 0 p) (K1 : TxK 35 w g off 1 p) :
  Calls Tryd.prog 35 #[.agg #[.int .i64 op, .int .i64 a, .int .i64 b, .int .i64 d, .string s, .slice (some ⟨g, off, none⟩) 2 cap], .int .i64 req] w (StrRes (ndS op a b d s p) w) := by
 obtain ⟨o0, a0, b0, d0, s0, x0, hs0, hz0, hC0⟩ := K0
 obtain ⟨o1, a1, b1, d1, s1, x1, hs1, hz1, hC1⟩ := K1
 have key : Hid (((((p 0 (L) ++ ⟨#[32]⟩) ++ sgS op) ++ ⟨#[32]⟩) ++ p 1 (L + 1)) = ndS op a b d s p) := by
  show _ = _
  unfold ndS
  rw [if_neg (show ¬ op = 1 by omega), if_neg (show ¬ op = 2 by omega), if_neg (show ¬ op = 3 by omega), if_neg (show ¬ op = 4 by omega), if_neg (show ¬ op = 5 by omega), if_neg (show ¬ op = 6 by omega), if_neg (show ¬ op = 19 by omega), if_neg (show ¬ op = 20 by omega), if_neg (show ¬ op = 21 by omega), hL, if_neg h4]
 obtain ⟨P0, hP0⟩ : ∃ P, p 0 (L) = P := ⟨_, rfl⟩
 have z0 := hz0 (L)
 have C0 := Lib.hid fun w' (r : Rel w w') => hC0 w' (L) r (by omega) (by omega)
 rw [hP0] at key z0 C0
 obtain ⟨P1, hP1⟩ : ∃ P, p 1 (L + 1) = P := ⟨_, rfl⟩
 have z1 := hz1 (L + 1)
 have C1 := Lib.hid fun w' (r : Rel w w') => hC1 w' (L + 1) r (by omega) (by omega)
 rw [hP1] at key z1 C1
 have wp : IntKind.i64.wrap (L + 1) = L + 1 := IntWalk.i64_in _ ⟨by omega, by omega⟩
 have SG := Lib.hid fun w => fsign_any op w (by omega) (by omega)
 have zs := sg_size op
 obtain ⟨SS, hSS⟩ : ∃ SS, sgS op = SS := ⟨_, rfl⟩
 rw [hSS] at key SG zs
 have w2 : ¬ 9223372036854775807 < P0.size + 1 := by omega
 have y2 : ((P0 : ByteArray) ++ ⟨#[32]⟩).size ≤ 4201 := by simp only [ByteArray.size_append, szA, List.length]; omega
 have w3 : ¬ 9223372036854775807 < P0.size + 1 + SS.size := by omega
 have y3 : (((P0 : ByteArray) ++ ⟨#[32]⟩) ++ SS).size ≤ 4204 := by simp only [ByteArray.size_append, szA, List.length]; omega
 have w4 : ¬ 9223372036854775807 < P0.size + 1 + SS.size + 1 := by omega
 have y4 : ((((P0 : ByteArray) ++ ⟨#[32]⟩) ++ SS) ++ ⟨#[32]⟩).size ≤ 4205 := by simp only [ByteArray.size_append, szA, List.length]; omega
 have w5 : ¬ 9223372036854775807 < P0.size + 1 + SS.size + 1 + P1.size := by omega
 have y5 : (((((P0 : ByteArray) ++ ⟨#[32]⟩) ++ SS) ++ ⟨#[32]⟩) ++ P1).size ≤ 8405 := by simp only [ByteArray.size_append, szA, List.length]; omega
 obtain ⟨R, hR⟩ : ∃ R, ndS op a b d s p = R := ⟨_, rfl⟩
 rw [hR] at key ⊢
 have LV := Lib.hid fun w => level_any op w (by omega) (by omega)
 rw [hL] at LV
 have er : decide (L < req) = false := decide_eq_false (by omega)
 have q4 : (L == 4) = false := by rw [beq_eq_false_iff_ne]; exact h4
 have n1 : (op == 1) = false := by rw [beq_eq_false_iff_ne]; omega
 have n2 : (op == 2) = false := by rw [beq_eq_false_iff_ne]; omega
 have n3 : (op == 3) = false := by rw [beq_eq_false_iff_ne]; omega
 have n4 : (op == 4) = false := by rw [beq_eq_false_iff_ne]; omega
 have n5 : (op == 5) = false := by rw [beq_eq_false_iff_ne]; omega
 have n6 : (op == 6) = false := by rw [beq_eq_false_iff_ne]; omega
 have n19 : (op == 19) = false := by rw [beq_eq_false_iff_ne]; omega
 have n20 : (op == 20) = false := by rw [beq_eq_false_iff_ne]; omega
 have n21 : (op == 21) = false := by rw [beq_eq_false_iff_ne]; omega
 clear hR hP0 hz0 hC0 hP1 hz1 hC1 hSS
 unfold StrRes at C0 C1 ⊢
 obtain ⟨X, hX⟩ : ∃ X, w.alloc (.cells #[.int .i64 op, .int .i64 a, .int .i64 b, .int .i64 d, .string s, .slice (some ⟨g, off, none⟩) 2 cap] 42) = X := ⟨_, rfl⟩
 have RX : Rel w X := by rw [← hX]; exact (Rel.refl _).alloc _
 have BT := Lib.hid (BoxAt.new (w := w) (g := w.heap.size) rfl (.int .i64 op) (.int .i64 a) (.int .i64 b) (.int .i64 d) (.string s) (.slice (some ⟨g, off, none⟩) 2 cap) 42)
 rw [hX] at BT
 have bt := BT.out
 have b0_0 := bt.c0
 have b0_1 := bt.c1
 have b0_2 := bt.c2
 have b0_3 := bt.c3
 have b0_4 := bt.c4
 have b0_5 := bt.c5
 have t0 := six_rel hs0 RX hg
 have k0_0 : X.cell? ⟨g, off, none⟩ = some (.int .i64 o0) := t0.c0
 have k0_1 : X.cell? ⟨g, off + 1, none⟩ = some (.int .i64 a0) := t0.c1
 have k0_2 : X.cell? ⟨g, off + 2, none⟩ = some (.int .i64 b0) := t0.c2
 have k0_3 : X.cell? ⟨g, off + 3, none⟩ = some (.int .i64 d0) := t0.c3
 have k0_4 : X.cell? ⟨g, off + 4, none⟩ = some (.string s0) := t0.c4
 have k0_5 : X.cell? ⟨g, off + 5, none⟩ = some (x0) := t0.c5
 have t1 := six_rel hs1 RX hg
 have k1_0 : X.cell? ⟨g, off + 6, none⟩ = some (.int .i64 o1) := t1.c0
 have k1_1 : X.cell? ⟨g, off + 6 + 1, none⟩ = some (.int .i64 a1) := t1.c1
 have k1_2 : X.cell? ⟨g, off + 6 + 2, none⟩ = some (.int .i64 b1) := t1.c2
 have k1_3 : X.cell? ⟨g, off + 6 + 3, none⟩ = some (.int .i64 d1) := t1.c3
 have k1_4 : X.cell? ⟨g, off + 6 + 4, none⟩ = some (.string s1) := t1.c4
 have k1_5 : X.cell? ⟨g, off + 6 + 5, none⟩ = some (x1) := t1.c5
 have RXw := Lib.hid RX
 clear RX BT bt hs0 t0 hs1 t1
 go_enter Tryd.func35, Tryd.ntmps35
 go_wp2_with fail
 refine (LV.out _).mono ?_
 rintro e w1 ⟨rfl, rfl⟩
 go_wp2_with fail
 refine wp_region_calm (fun _ w' => Rel X w') (fun _ => false) [0, 1, 2, 3, 4, 5, 6, 7, 8, 9, 10, 11, 12, 13, 14, 15, 16, 17, 18, 19, 20] 0 (by kernel_rfl) (by kernel_rfl) ?hst ?hS0 (fun w0 h0 => ?_)
 case hst => exact fun _ _ _ h r => h.trans r
 case hS0 => exact Rel.refl _
 iterate 5
  refine wpCalm_go rfl (by kernel_rfl) (fun K hK => ?_)
  apply Exists.intro
  refine ⟨fun M w hM hS => ?_, hK _ ?_⟩
  ·have e0 := hS.cell b0_0
   have e1 := hS.cell b0_1
   have e2 := hS.cell b0_2
   have e3 := hS.cell b0_3
   have e4 := hS.cell b0_4
   have e5 := hS.cell b0_5
   have f0_0 := hS.cell k0_0
   have f0_1 := hS.cell k0_1
   have f0_2 := hS.cell k0_2
   have f0_3 := hS.cell k0_3
   have f0_4 := hS.cell k0_4
   have f0_5 := hS.cell k0_5
   have f1_0 := hS.cell k1_0
   have f1_1 := hS.cell k1_1
   have f1_2 := hS.cell k1_2
   have f1_3 := hS.cell k1_3
   have f1_4 := hS.cell k1_4
   have f1_5 := hS.cell k1_5
   unfold calmAt
   go_simp
   exact ⟨rfl, Rel.refl _⟩
  clear hK K
 refine wpCalm_go rfl (by kernel_rfl) (fun K hK => ?_)
 apply Exists.intro
 refine ⟨fun M w hM hS => ?_, hK _ ?_⟩
 ·unfold calmAt
  go_simp
  with_reducible refine (C0.out _ (RXw.out.trans hS)).mono ?_
  rintro e w1 ⟨rfl, hb⟩
  exact ⟨rfl, hb⟩
 clear hK K
 iterate 3
  refine wpCalm_go rfl (by kernel_rfl) (fun K hK => ?_)
  apply Exists.intro
  refine ⟨fun M w hM hS => ?_, hK _ ?_⟩
  ·have e0 := hS.cell b0_0
   have e1 := hS.cell b0_1
   have e2 := hS.cell b0_2
   have e3 := hS.cell b0_3
   have e4 := hS.cell b0_4
   have e5 := hS.cell b0_5
   have f0_0 := hS.cell k0_0
   have f0_1 := hS.cell k0_1
   have f0_2 := hS.cell k0_2
   have f0_3 := hS.cell k0_3
   have f0_4 := hS.cell k0_4
   have f0_5 := hS.cell k0_5
   have f1_0 := hS.cell k1_0
   have f1_1 := hS.cell k1_1
   have f1_2 := hS.cell k1_2
   have f1_3 := hS.cell k1_3
   have f1_4 := hS.cell k1_4
   have f1_5 := hS.cell k1_5
   unfold calmAt
   go_simp
   exact ⟨rfl, Rel.refl _⟩
  clear hK K
 refine wpCalm_go rfl (by kernel_rfl) (fun K hK => ?_)
 apply Exists.intro
 refine ⟨fun M w hM hS => ?_, hK _ ?_⟩
 ·unfold calmAt
  go_simp
  with_reducible refine (SG.out _).mono ?_
  rintro e w1 ⟨rfl, hb⟩
  exact ⟨rfl, hb⟩
 clear hK K
 iterate 8
  refine wpCalm_go rfl (by kernel_rfl) (fun K hK => ?_)
  apply Exists.intro
  refine ⟨fun M w hM hS => ?_, hK _ ?_⟩
  ·have e0 := hS.cell b0_0
   have e1 := hS.cell b0_1
   have e2 := hS.cell b0_2
   have e3 := hS.cell b0_3
   have e4 := hS.cell b0_4
   have e5 := hS.cell b0_5
   have f0_0 := hS.cell k0_0
   have f0_1 := hS.cell k0_1
   have f0_2 := hS.cell k0_2
   have f0_3 := hS.cell k0_3
   have f0_4 := hS.cell k0_4
   have f0_5 := hS.cell k0_5
   have f1_0 := hS.cell k1_0
   have f1_1 := hS.cell k1_1
   have f1_2 := hS.cell k1_2
   have f1_3 := hS.cell k1_3
   have f1_4 := hS.cell k1_4
   have f1_5 := hS.cell k1_5
   unfold calmAt
   go_simp
   exact ⟨rfl, Rel.refl _⟩
  clear hK K
 refine wpCalm_go rfl (by kernel_rfl) (fun K hK => ?_)
 apply Exists.intro
 refine ⟨fun M w hM hS => ?_, hK _ ?_⟩
 ·unfold calmAt
  go_simp
  with_reducible refine (C1.out _ (RXw.out.trans hS)).mono ?_
  rintro e w1 ⟨rfl, hb⟩
  exact ⟨rfl, hb⟩
 clear hK K
 iterate 2
  refine wpCalm_go rfl (by kernel_rfl) (fun K hK => ?_)
  apply Exists.intro
  refine ⟨fun M w hM hS => ?_, hK _ ?_⟩
  ·have e0 := hS.cell b0_0
   have e1 := hS.cell b0_1
   have e2 := hS.cell b0_2
   have e3 := hS.cell b0_3
   have e4 := hS.cell b0_4
   have e5 := hS.cell b0_5
   have f0_0 := hS.cell k0_0
   have f0_1 := hS.cell k0_1
   have f0_2 := hS.cell k0_2
   have f0_3 := hS.cell k0_3
   have f0_4 := hS.cell k0_4
   have f0_5 := hS.cell k0_5
   have f1_0 := hS.cell k1_0
   have f1_1 := hS.cell k1_1
   have f1_2 := hS.cell k1_2
   have f1_3 := hS.cell k1_3
   have f1_4 := hS.cell k1_4
   have f1_5 := hS.cell k1_5
   unfold calmAt
   go_simp
   exact ⟨rfl, Rel.refl _⟩
  clear hK K
 refine wpAnyR_end (by kernel_rfl) (fun w3 h3' => ?_)
 (try simp only [Act.put, List.setIfInBounds_toArray, List.set_cons_zero, List.set_cons_succ])
 have h3 := h0.trans h3'
 clear h0 h3'
 have kz3 := h3.size
 (try simp only [World.size_alloc, World.size_setCell, World.size_drew] at kz3)
 have H3 := Lib.hid h3
 clear h3
 go_wp2
 go_ret
 exact ⟨str_ret key.out, RXw.out.trans H3.out⟩
end Go.Proofs.YtohdmpchbiabmaaDoor

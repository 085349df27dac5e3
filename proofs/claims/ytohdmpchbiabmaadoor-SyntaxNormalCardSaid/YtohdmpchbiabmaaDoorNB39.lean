/- Bundle of texts: each says at its head what it proves; no conditions but those printed. -/
import Derived.Test.YtohdmpchbiabmaaDoorNB23
import Derived.Test.YtohdmpchbiabmaaDoorNB25
import Derived.Test.YtohdmpchbiabmaaDoorNB36
import Derived.Test.YtohdmpchbiabmaaDoorNB14
import Derived.Test.YtohdmpchbiabmaaDoorNB15
/- Walk of the law SyntaxNormal. No conditions but those printed. -/
namespace Go.Proofs.YtohdmpchbiabmaaDoor
open Go.RowKit Cal Str Tok Frac Txt Tree
attribute [local go_sem] calmUpon
set_option linter.unusedVariables false
set_option linter.unusedSimpArgs false
theorem prV_cases (s : ByteArray) : (¬ (prV s).2.2 = 0 ∧ (prV s).1 = zeroEx) ∨ ((prV s).2.2 = 0 ∧ (prV s).1.valid = true) := by
 unfold prV
 by_cases h1 : (allR s).2.2 = 0
 ·rw [if_pos h1]
  by_cases h2 : finB (allR s).1 (prQ s).2 = true
  ·rw [if_pos h2]
   by_cases h3 : (prQ s).1.valid = true
   ·rw [if_pos h3]; exact .inr ⟨rfl, h3⟩
   ·rw [if_neg h3]; exact .inl ⟨by decide, rfl⟩
  ·rw [if_neg h2]; exact .inl ⟨by simp, rfl⟩
 ·rw [if_neg h1]; exact .inl ⟨h1, rfl⟩
set_option maxRecDepth 20000 in
set_option maxHeartbeats 8000000 in
theorem walk_SyntaxNormal (w : World) (ht : TabW w) (a0 : Value) (n0 : Nat) (a1 : ByteArray) (a2 : Bool) (b0 : IntsIn w a0 n0) (b1 : a1.size ≤ 140737488355328) :
  Calls Tryd.prog 4 #[a0, .string a1, .bool a2] w (BRes true w) := by
 obtain ⟨s0, p0, rfl, hn, hin⟩ := id b0
 have HIN := Lib.hid hin
 have HT := Lib.hid ht
 clear ht b0 hin
 unfold BRes
 cases a2
 ·go_enter Tryd.func4, Tryd.ntmps4
  go_wp2_with fail
  go_loopw [1, 7] (fun s i wx => ∃ (k : Nat) (t : ByteArray), k ≤ 30 ∧ k ≤ n0 ∧ i = .int .i64 k ∧ s = .string t ∧ t.size ≤ 25 * k ∧ Hid (Rel w wx)) (fun _ i _ => 30 - (intOf i).toNat)
  case atStart => exact ⟨0, ⟨#[]⟩, by omega, by omega, rfl, rfl, by decide, Rel.refl _⟩
  case round =>
   obtain ⟨k, t, hk, hkn, rfl, rfl, ht, hR⟩ := hrel
   by_cases hlt : k < n0 ∧ k < 30
   ·obtain ⟨hl1, hl2⟩ := hlt
    obtain ⟨b, off, zs, rfl, hb, hz⟩ := HIN.out (by omega)
    obtain ⟨hcell, z0, z1⟩ := hz k hl1
    have hc : wr.cell? ⟨b, off + k, none⟩ = some (.int .i64 (zs.getD k 0)) := hR.out.cell hcell
    obtain ⟨z, hzz⟩ : ∃ z, zs.getD k 0 = z := ⟨_, rfl⟩
    rw [hzz] at hc z0 z1
    have hbr : b < wr.heap.size := hR.out.lt hb
    have e1 : decide ((k : Int) < (n0 : Int)) = true := decide_eq_true (by omega)
    have e2 : decide ((k : Int) < 30) = true := decide_eq_true (by omega)
    have ki : (k : Int) < (n0 : Int) := by omega
    have P1 := Lib.hid fun w => pick_any z 34 w z0 z1 (by decide) (by decide)
    obtain ⟨y, hy, y0, y1⟩ : ∃ y, z % 34 = y ∧ 0 ≤ y ∧ y < 34 := ⟨_, rfl, by omega, by omega⟩
    rw [hy] at P1
    clear hz hcell hzz hy
    go_wp2_with fail
    refine (P1.out _).mono ?_
    rintro e w1 ⟨rfl, rfl⟩
    go_wp2_with fail
    refine (words_any y _ (by omega) (by omega)).mono ?_
    rintro e w1 ⟨ps, rfl, hps, h1⟩
    have R1 := Lib.hid (hR.out.trans h1)
    clear h1
    have f1 : ¬ 9223372036854775807 < ps.size + 5 := by omega
    have f2 : ¬ 9223372036854775807 < t.size + (ps.size + 5) := by omega
    go_wp2
    go_roundw
    case rel => exact ⟨k + 1, t ++ (ps ++ ⟨#[32, 35, 32, 99, 10]⟩), by omega, by omega, by go_num, rfl, (by rw [ByteArray.size_append, ByteArray.size_append]; show _ + (_ + 5) ≤ _; omega), R1⟩
    case measure => simp [intOf]; omega
   ·have hsz : t.size ≤ 140737488355328 := by omega
    have hways : (¬ (k : Int) < (n0 : Int)) ∨ ((k : Int) < (n0 : Int) ∧ ¬ (k : Int) < 30) := by omega
    rcases hways with e1' | ⟨e1', e2'⟩
    ·have e1 : decide ((k : Int) < (n0 : Int)) = false := decide_eq_false e1'
     have TW := HT.out.rel hR.out
     rcases prV_cases t with ⟨hc, hf⟩ | ⟨hc, hv⟩
     ·obtain ⟨f, x, c, hp⟩ : ∃ f x c, prV t = (f, x, c) := ⟨_, _, _, rfl⟩
      rw [hp] at hc hf
      have hs : f.same zeroEx = true := by rw [show f = zeroEx from hf]; exact same_refl _
      have ec : (c == 0) = false := by rw [beq_eq_false_iff_ne]; exact hc
      have Q1 := Lib.hid (ParseExpr_any t wr hsz (Lib.hid TW))
      rw [hp] at Q1
      unfold PxRes at Q1
      dsimp only at Q1
      have HS := Lib.hid hs
      clear hp hf hc hs
      go_wp2_with fail
      refine (Q1.out).mono ?_
      rintro e w3 ⟨z, rfl, hU, h3⟩
      obtain ⟨xa, xc, rfl⟩ := kids_slice hU
      have BX := Lib.hid (BoxAt.new (w := w3) (g := w3.heap.size) rfl (.int .i64 f.op) (.int .i64 f.va) (.int .i64 f.vb) (.int .i64 f.dm) (.string f.nm) (.slice xa f.cnt xc) 42)
      obtain ⟨X, hX⟩ : ∃ X, w3.alloc (.cells #[.int .i64 f.op, .int .i64 f.va, .int .i64 f.vb, .int .i64 f.dm, .string f.nm, .slice xa f.cnt xc] 42) = X := ⟨_, rfl⟩
      have RX : Rel w3 X := by rw [← hX]; exact (Rel.refl _).alloc _
      rw [hX] at BX
      have HX := Lib.hid hX
      have KX := Lib.hid (kids_rel hU RX)
      have RX' : Hid (Rel w X) := Lib.hid (hR.out.trans (h3.trans RX))
      have A0 := Lib.hid fun w' (r : Rel X w') => awake_any w' (HT.out.rel (RX'.out.trans r))
      unfold BRes at A0
      have S2 := Lib.hid fun w' (r : Rel X w') => rSame_any f zeroEx _ _ w' (kids_rel KX.out r) (zero_kids w')
      rw [HS.out] at S2
      unfold BRes at S2
      clear hU h3 RX hX
      go_wp2_with fail
      (try rw [HX.out])
      clear HX
      refine (A0.out _ (Rel.refl _)).mono ?_
      rintro e w5 ⟨rfl, h5⟩
      obtain ⟨el, c0, c1, c2, c3, c4, c5, -⟩ := BX.out.rel h5
      have R5 := Lib.hid h5
      clear h5
      go_wp2_with fail
      refine (S2.out _ R5.out).mono ?_
      rintro e w6 ⟨rfl, h6⟩
      have R6 : Hid (Rel w w6) := RX'.out.trans (R5.out.trans h6)
      clear h6
      go_wp2
      go_ret
      exact ⟨ret_b2 (by simp), R6.out⟩
     ·obtain ⟨f, x, c, hp⟩ : ∃ f x c, prV t = (f, x, c) := ⟨_, _, _, rfl⟩
      rw [hp] at hc hv
      obtain rfl : c = 0 := hc
      have hV : f.valid = true := hv
      have Q1 := Lib.hid (ParseExpr_any t wr hsz (Lib.hid TW))
      rw [hp] at Q1
      unfold PxRes at Q1
      dsimp only at Q1
      obtain ⟨g, hs, hp2⟩ := prV_par hV
      obtain ⟨gV, gP⟩ := back_again hV hs
      have hz2 := (valid_form gV).2
      have hz1 := (valid_form hV).2
      have zS := put_size (valid_form hV).1 hz1 0
      clear hp hv hs
      go_wp2_with fail
      refine (Q1.out).mono ?_
      rintro e w3 ⟨z, rfl, hU, h3⟩
      obtain ⟨xa, xc, rfl⟩ := kids_slice hU
      have BX := Lib.hid (BoxAt.new (w := w3) (g := w3.heap.size) rfl (.int .i64 f.op) (.int .i64 f.va) (.int .i64 f.vb) (.int .i64 f.dm) (.string f.nm) (.slice xa f.cnt xc) 42)
      obtain ⟨X, hX⟩ : ∃ X, w3.alloc (.cells #[.int .i64 f.op, .int .i64 f.va, .int .i64 f.vb, .int .i64 f.dm, .string f.nm, .slice xa f.cnt xc] 42) = X := ⟨_, rfl⟩
      have RX : Rel w3 X := by rw [← hX]; exact (Rel.refl _).alloc _
      rw [hX] at BX
      have HX := Lib.hid hX
      have KX := Lib.hid (kids_rel hU RX)
      have RX' : Hid (Rel w X) := Lib.hid (hR.out.trans (h3.trans RX))
      have TX := HT.out.rel RX'.out
      have V1 := Lib.hid (FormatExpr_any f _ X KX.out (by omega) (Lib.hid TX))
      unfold SbRes at V1
      rw [show Ex.fmt f = f.put 0 by unfold Ex.fmt; rw [if_pos hV], hV] at V1
      have V2 := Lib.hid fun w' (r : Rel X w') (xx : Value) (kk : ExKids g w' xx) => FormatExpr_any g xx w' kk (by omega) (Lib.hid (TX.rel r))
      unfold SbRes at V2
      rw [show Ex.fmt g = g.put 0 by unfold Ex.fmt; rw [if_pos gV], gV, gP] at V2
      obtain ⟨T, hT⟩ : ∃ T, f.put 0 = T := ⟨_, rfl⟩
      rw [hT] at V1 V2 hp2 zS
      have Q2 := Lib.hid fun w' (r : Rel X w') => ParseExpr_any ((⟨#[40, 32]⟩ ++ T) ++ ⟨#[32, 41]⟩) w' (by simp only [ByteArray.size_append, szA, List.length]; omega) (Lib.hid (TX.rel r))
      rw [hp2] at Q2
      unfold PxRes at Q2
      dsimp only at Q2
      have A0 := Lib.hid fun w' (r : Rel X w') => awake_any w' (TX.rel r)
      unfold BRes at A0
      have c0 := BX.out.c0
      have c1 := BX.out.c1
      have c2 := BX.out.c2
      have c3 := BX.out.c3
      have c4 := BX.out.c4
      have c5 := BX.out.c5
      have f1 : ¬ 9223372036854775807 < 2 + T.size := by omega
      have f2 : ¬ 9223372036854775807 < 2 + T.size + 2 := by omega
      clear hU h3 RX hX hT hp2 hV gV gP
      go_wp2_with fail
      (try rw [HX.out])
      clear HX
      refine (V1.out).mono ?_
      rintro e w4 ⟨rfl, h4⟩
      have R4 := Lib.hid h4
      clear h4 c0 c1 c2 c3 c4 c5
      go_wp2_with fail
      refine (Q2.out _ R4.out).mono ?_
      rintro e w7 ⟨z, rfl, hU, h7⟩
      obtain ⟨ya, yc, rfl⟩ := kids_slice hU
      have BY := Lib.hid (BoxAt.new (w := w7) (g := w7.heap.size) rfl (.int .i64 g.op) (.int .i64 g.va) (.int .i64 g.vb) (.int .i64 g.dm) (.string g.nm) (.slice ya g.cnt yc) 42)
      obtain ⟨Y, hX⟩ : ∃ X, w7.alloc (.cells #[.int .i64 g.op, .int .i64 g.va, .int .i64 g.vb, .int .i64 g.dm, .string g.nm, .slice ya g.cnt yc] 42) = X := ⟨_, rfl⟩
      have RX : Rel w7 Y := by rw [← hX]; exact (Rel.refl _).alloc _
      rw [hX] at BY
      have HX := Lib.hid hX
      have KY := Lib.hid (kids_rel hU RX)
      have R7 := Lib.hid (R4.out.trans (h7.trans RX))
      have V3 := Lib.hid (V2.out Y R7.out _ KY.out)
      have c0 := BY.out.c0
      have c1 := BY.out.c1
      have c2 := BY.out.c2
      have c3 := BY.out.c3
      have c4 := BY.out.c4
      have c5 := BY.out.c5
      clear hU h7 RX hX V2
      go_wp2_with fail
      (try rw [HX.out])
      clear HX
      refine (V3.out).mono ?_
      rintro e w8 ⟨rfl, h8⟩
      have R8 := Lib.hid (R7.out.trans h8)
      clear h8 c0 c1 c2 c3 c4 c5
      go_wp2_with fail
      refine (A0.out _ R8.out).mono ?_
      rintro e w9 ⟨rfl, h9⟩
      have R9 : Hid (Rel w w9) := RX'.out.trans (R8.out.trans h9)
      clear h9
      go_wp2
      go_ret
      exact ⟨ret_b2 (by simp), R9.out⟩
    ·have e1 : decide ((k : Int) < (n0 : Int)) = true := decide_eq_true e1'
     have e2 : decide ((k : Int) < 30) = false := decide_eq_false e2'
     have TW := HT.out.rel hR.out
     rcases prV_cases t with ⟨hc, hf⟩ | ⟨hc, hv⟩
     ·obtain ⟨f, x, c, hp⟩ : ∃ f x c, prV t = (f, x, c) := ⟨_, _, _, rfl⟩
      rw [hp] at hc hf
      have hs : f.same zeroEx = true := by rw [show f = zeroEx from hf]; exact same_refl _
      have ec : (c == 0) = false := by rw [beq_eq_false_iff_ne]; exact hc
      have Q1 := Lib.hid (ParseExpr_any t wr hsz (Lib.hid TW))
      rw [hp] at Q1
      unfold PxRes at Q1
      dsimp only at Q1
      have HS := Lib.hid hs
      clear hp hf hc hs
      go_wp2_with fail
      refine (Q1.out).mono ?_
      rintro e w3 ⟨z, rfl, hU, h3⟩
      obtain ⟨xa, xc, rfl⟩ := kids_slice hU
      have BX := Lib.hid (BoxAt.new (w := w3) (g := w3.heap.size) rfl (.int .i64 f.op) (.int .i64 f.va) (.int .i64 f.vb) (.int .i64 f.dm) (.string f.nm) (.slice xa f.cnt xc) 42)
      obtain ⟨X, hX⟩ : ∃ X, w3.alloc (.cells #[.int .i64 f.op, .int .i64 f.va, .int .i64 f.vb, .int .i64 f.dm, .string f.nm, .slice xa f.cnt xc] 42) = X := ⟨_, rfl⟩
      have RX : Rel w3 X := by rw [← hX]; exact (Rel.refl _).alloc _
      rw [hX] at BX
      have HX := Lib.hid hX
      have KX := Lib.hid (kids_rel hU RX)
      have RX' : Hid (Rel w X) := Lib.hid (hR.out.trans (h3.trans RX))
      have A0 := Lib.hid fun w' (r : Rel X w') => awake_any w' (HT.out.rel (RX'.out.trans r))
      unfold BRes at A0
      have S2 := Lib.hid fun w' (r : Rel X w') => rSame_any f zeroEx _ _ w' (kids_rel KX.out r) (zero_kids w')
      rw [HS.out] at S2
      unfold BRes at S2
      clear hU h3 RX hX
      go_wp2_with fail
      (try rw [HX.out])
      clear HX
      refine (A0.out _ (Rel.refl _)).mono ?_
      rintro e w5 ⟨rfl, h5⟩
      obtain ⟨el, c0, c1, c2, c3, c4, c5, -⟩ := BX.out.rel h5
      have R5 := Lib.hid h5
      clear h5
      go_wp2_with fail
      refine (S2.out _ R5.out).mono ?_
      rintro e w6 ⟨rfl, h6⟩
      have R6 : Hid (Rel w w6) := RX'.out.trans (R5.out.trans h6)
      clear h6
      go_wp2
      go_ret
      exact ⟨ret_b2 (by simp), R6.out⟩
     ·obtain ⟨f, x, c, hp⟩ : ∃ f x c, prV t = (f, x, c) := ⟨_, _, _, rfl⟩
      rw [hp] at hc hv
      obtain rfl : c = 0 := hc
      have hV : f.valid = true := hv
      have Q1 := Lib.hid (ParseExpr_any t wr hsz (Lib.hid TW))
      rw [hp] at Q1
      unfold PxRes at Q1
      dsimp only at Q1
      obtain ⟨g, hs, hp2⟩ := prV_par hV
      obtain ⟨gV, gP⟩ := back_again hV hs
      have hz2 := (valid_form gV).2
      have hz1 := (valid_form hV).2
      have zS := put_size (valid_form hV).1 hz1 0
      clear hp hv hs
      go_wp2_with fail
      refine (Q1.out).mono ?_
      rintro e w3 ⟨z, rfl, hU, h3⟩
      obtain ⟨xa, xc, rfl⟩ := kids_slice hU
      have BX := Lib.hid (BoxAt.new (w := w3) (g := w3.heap.size) rfl (.int .i64 f.op) (.int .i64 f.va) (.int .i64 f.vb) (.int .i64 f.dm) (.string f.nm) (.slice xa f.cnt xc) 42)
      obtain ⟨X, hX⟩ : ∃ X, w3.alloc (.cells #[.int .i64 f.op, .int .i64 f.va, .int .i64 f.vb, .int .i64 f.dm, .string f.nm, .slice xa f.cnt xc] 42) = X := ⟨_, rfl⟩
      have RX : Rel w3 X := by rw [← hX]; exact (Rel.refl _).alloc _
      rw [hX] at BX
      have HX := Lib.hid hX
      have KX := Lib.hid (kids_rel hU RX)
      have RX' : Hid (Rel w X) := Lib.hid (hR.out.trans (h3.trans RX))
      have TX := HT.out.rel RX'.out
      have V1 := Lib.hid (FormatExpr_any f _ X KX.out (by omega) (Lib.hid TX))
      unfold SbRes at V1
      rw [show Ex.fmt f = f.put 0 by unfold Ex.fmt; rw [if_pos hV], hV] at V1
      have V2 := Lib.hid fun w' (r : Rel X w') (xx : Value) (kk : ExKids g w' xx) => FormatExpr_any g xx w' kk (by omega) (Lib.hid (TX.rel r))
      unfold SbRes at V2
      rw [show Ex.fmt g = g.put 0 by unfold Ex.fmt; rw [if_pos gV], gV, gP] at V2
      obtain ⟨T, hT⟩ : ∃ T, f.put 0 = T := ⟨_, rfl⟩
      rw [hT] at V1 V2 hp2 zS
      have Q2 := Lib.hid fun w' (r : Rel X w') => ParseExpr_any ((⟨#[40, 32]⟩ ++ T) ++ ⟨#[32, 41]⟩) w' (by simp only [ByteArray.size_append, szA, List.length]; omega) (Lib.hid (TX.rel r))
      rw [hp2] at Q2
      unfold PxRes at Q2
      dsimp only at Q2
      have A0 := Lib.hid fun w' (r : Rel X w') => awake_any w' (TX.rel r)
      unfold BRes at A0
      have c0 := BX.out.c0
      have c1 := BX.out.c1
      have c2 := BX.out.c2
      have c3 := BX.out.c3
      have c4 := BX.out.c4
      have c5 := BX.out.c5
      have f1 : ¬ 9223372036854775807 < 2 + T.size := by omega
      have f2 : ¬ 9223372036854775807 < 2 + T.size + 2 := by omega
      clear hU h3 RX hX hT hp2 hV gV gP
      go_wp2_with fail
      (try rw [HX.out])
      clear HX
      refine (V1.out).mono ?_
      rintro e w4 ⟨rfl, h4⟩
      have R4 := Lib.hid h4
      clear h4 c0 c1 c2 c3 c4 c5
      go_wp2_with fail
      refine (Q2.out _ R4.out).mono ?_
      rintro e w7 ⟨z, rfl, hU, h7⟩
      obtain ⟨ya, yc, rfl⟩ := kids_slice hU
      have BY := Lib.hid (BoxAt.new (w := w7) (g := w7.heap.size) rfl (.int .i64 g.op) (.int .i64 g.va) (.int .i64 g.vb) (.int .i64 g.dm) (.string g.nm) (.slice ya g.cnt yc) 42)
      obtain ⟨Y, hX⟩ : ∃ X, w7.alloc (.cells #[.int .i64 g.op, .int .i64 g.va, .int .i64 g.vb, .int .i64 g.dm, .string g.nm, .slice ya g.cnt yc] 42) = X := ⟨_, rfl⟩
      have RX : Rel w7 Y := by rw [← hX]; exact (Rel.refl _).alloc _
      rw [hX] at BY
      have HX := Lib.hid hX
      have KY := Lib.hid (kids_rel hU RX)
      have R7 := Lib.hid (R4.out.trans (h7.trans RX))
      have V3 := Lib.hid (V2.out Y R7.out _ KY.out)
      have c0 := BY.out.c0
      have c1 := BY.out.c1
      have c2 := BY.out.c2
      have c3 := BY.out.c3
      have c4 := BY.out.c4
      have c5 := BY.out.c5
      clear hU h7 RX hX V2
      go_wp2_with fail
      (try rw [HX.out])
      clear HX
      refine (V3.out).mono ?_
      rintro e w8 ⟨rfl, h8⟩
      have R8 := Lib.hid (R7.out.trans h8)
      clear h8 c0 c1 c2 c3 c4 c5
      go_wp2_with fail
      refine (A0.out _ R8.out).mono ?_
      rintro e w9 ⟨rfl, h9⟩
      have R9 : Hid (Rel w w9) := RX'.out.trans (R8.out.trans h9)
      clear h9
      go_wp2
      go_ret
      exact ⟨ret_b2 (by simp), R9.out⟩
 ·have hsz : a1.size ≤ 140737488355328 := b1
  have hR : Hid (Rel w w) := Rel.refl w
  go_enter Tryd.func4, Tryd.ntmps4
  have TW := HT.out.rel hR.out
  rcases prV_cases a1 with ⟨hc, hf⟩ | ⟨hc, hv⟩
  ·obtain ⟨f, x, c, hp⟩ : ∃ f x c, prV a1 = (f, x, c) := ⟨_, _, _, rfl⟩
   rw [hp] at hc hf
   have hs : f.same zeroEx = true := by rw [show f = zeroEx from hf]; exact same_refl _
   have ec : (c == 0) = false := by rw [beq_eq_false_iff_ne]; exact hc
   have Q1 := Lib.hid (ParseExpr_any a1 w hsz (Lib.hid TW))
   rw [hp] at Q1
   unfold PxRes at Q1
   dsimp only at Q1
   have HS := Lib.hid hs
   clear hp hf hc hs
   go_wp2_with fail
   refine (Q1.out).mono ?_
   rintro e w3 ⟨z, rfl, hU, h3⟩
   obtain ⟨xa, xc, rfl⟩ := kids_slice hU
   have BX := Lib.hid (BoxAt.new (w := w3) (g := w3.heap.size) rfl (.int .i64 f.op) (.int .i64 f.va) (.int .i64 f.vb) (.int .i64 f.dm) (.string f.nm) (.slice xa f.cnt xc) 42)
   obtain ⟨X, hX⟩ : ∃ X, w3.alloc (.cells #[.int .i64 f.op, .int .i64 f.va, .int .i64 f.vb, .int .i64 f.dm, .string f.nm, .slice xa f.cnt xc] 42) = X := ⟨_, rfl⟩
   have RX : Rel w3 X := by rw [← hX]; exact (Rel.refl _).alloc _
   rw [hX] at BX
   have HX := Lib.hid hX
   have KX := Lib.hid (kids_rel hU RX)
   have RX' : Hid (Rel w X) := Lib.hid (hR.out.trans (h3.trans RX))
   have A0 := Lib.hid fun w' (r : Rel X w') => awake_any w' (HT.out.rel (RX'.out.trans r))
   unfold BRes at A0
   have S2 := Lib.hid fun w' (r : Rel X w') => rSame_any f zeroEx _ _ w' (kids_rel KX.out r) (zero_kids w')
   rw [HS.out] at S2
   unfold BRes at S2
   clear hU h3 RX hX
   go_wp2_with fail
   (try rw [HX.out])
   clear HX
   refine (A0.out _ (Rel.refl _)).mono ?_
   rintro e w5 ⟨rfl, h5⟩
   obtain ⟨el, c0, c1, c2, c3, c4, c5, -⟩ := BX.out.rel h5
   have R5 := Lib.hid h5
   clear h5
   go_wp2_with fail
   refine (S2.out _ R5.out).mono ?_
   rintro e w6 ⟨rfl, h6⟩
   have R6 : Hid (Rel w w6) := RX'.out.trans (R5.out.trans h6)
   clear h6
   go_wp2
   go_ret
   exact ⟨ret_b2 (by simp), R6.out⟩
  ·obtain ⟨f, x, c, hp⟩ : ∃ f x c, prV a1 = (f, x, c) := ⟨_, _, _, rfl⟩
   rw [hp] at hc hv
   obtain rfl : c = 0 := hc
   have hV : f.valid = true := hv
   have Q1 := Lib.hid (ParseExpr_any a1 w hsz (Lib.hid TW))
   rw [hp] at Q1
   unfold PxRes at Q1
   dsimp only at Q1
   obtain ⟨g, hs, hp2⟩ := prV_par hV
   obtain ⟨gV, gP⟩ := back_again hV hs
   have hz2 := (valid_form gV).2
   have hz1 := (valid_form hV).2
   have zS := put_size (valid_form hV).1 hz1 0
   clear hp hv hs
   go_wp2_with fail
   refine (Q1.out).mono ?_
   rintro e w3 ⟨z, rfl, hU, h3⟩
   obtain ⟨xa, xc, rfl⟩ := kids_slice hU
   have BX := Lib.hid (BoxAt.new (w := w3) (g := w3.heap.size) rfl (.int .i64 f.op) (.int .i64 f.va) (.int .i64 f.vb) (.int .i64 f.dm) (.string f.nm) (.slice xa f.cnt xc) 42)
   obtain ⟨X, hX⟩ : ∃ X, w3.alloc (.cells #[.int .i64 f.op, .int .i64 f.va, .int .i64 f.vb, .int .i64 f.dm, .string f.nm, .slice xa f.cnt xc] 42) = X := ⟨_, rfl⟩
   have RX : Rel w3 X := by rw [← hX]; exact (Rel.refl _).alloc _
   rw [hX] at BX
   have HX := Lib.hid hX
   have KX := Lib.hid (kids_rel hU RX)
   have RX' : Hid (Rel w X) := Lib.hid (hR.out.trans (h3.trans RX))
   have TX := HT.out.rel RX'.out
   have V1 := Lib.hid (FormatExpr_any f _ X KX.out (by omega) (Lib.hid TX))
   unfold SbRes at V1
   rw [show Ex.fmt f = f.put 0 by unfold Ex.fmt; rw [if_pos hV], hV] at V1
   have V2 := Lib.hid fun w' (r : Rel X w') (xx : Value) (kk : ExKids g w' xx) => FormatExpr_any g xx w' kk (by omega) (Lib.hid (TX.rel r))
   unfold SbRes at V2
   rw [show Ex.fmt g = g.put 0 by unfold Ex.fmt; rw [if_pos gV], gV, gP] at V2
   obtain ⟨T, hT⟩ : ∃ T, f.put 0 = T := ⟨_, rfl⟩
   rw [hT] at V1 V2 hp2 zS
   have Q2 := Lib.hid fun w' (r : Rel X w') => ParseExpr_any ((⟨#[40, 32]⟩ ++ T) ++ ⟨#[32, 41]⟩) w' (by simp only [ByteArray.size_append, szA, List.length]; omega) (Lib.hid (TX.rel r))
   rw [hp2] at Q2
   unfold PxRes at Q2
   dsimp only at Q2
   have A0 := Lib.hid fun w' (r : Rel X w') => awake_any w' (TX.rel r)
   unfold BRes at A0
   have c0 := BX.out.c0
   have c1 := BX.out.c1
   have c2 := BX.out.c2
   have c3 := BX.out.c3
   have c4 := BX.out.c4
   have c5 := BX.out.c5
   have f1 : ¬ 9223372036854775807 < 2 + T.size := by omega
   have f2 : ¬ 9223372036854775807 < 2 + T.size + 2 := by omega
   clear hU h3 RX hX hT hp2 hV gV gP
   go_wp2_with fail
   (try rw [HX.out])
   clear HX
   refine (V1.out).mono ?_
   rintro e w4 ⟨rfl, h4⟩
   have R4 := Lib.hid h4
   clear h4 c0 c1 c2 c3 c4 c5
   go_wp2_with fail
   refine (Q2.out _ R4.out).mono ?_
   rintro e w7 ⟨z, rfl, hU, h7⟩
   obtain ⟨ya, yc, rfl⟩ := kids_slice hU
   have BY := Lib.hid (BoxAt.new (w := w7) (g := w7.heap.size) rfl (.int .i64 g.op) (.int .i64 g.va) (.int .i64 g.vb) (.int .i64 g.dm) (.string g.nm) (.slice ya g.cnt yc) 42)
   obtain ⟨Y, hX⟩ : ∃ X, w7.alloc (.cells #[.int .i64 g.op, .int .i64 g.va, .int .i64 g.vb, .int .i64 g.dm, .string g.nm, .slice ya g.cnt yc] 42) = X := ⟨_, rfl⟩
   have RX : Rel w7 Y := by rw [← hX]; exact (Rel.refl _).alloc _
   rw [hX] at BY
   have HX := Lib.hid hX
   have KY := Lib.hid (kids_rel hU RX)
   have R7 := Lib.hid (R4.out.trans (h7.trans RX))
   have V3 := Lib.hid (V2.out Y R7.out _ KY.out)
   have c0 := BY.out.c0
   have c1 := BY.out.c1
   have c2 := BY.out.c2
   have c3 := BY.out.c3
   have c4 := BY.out.c4
   have c5 := BY.out.c5
   clear hU h7 RX hX V2
   go_wp2_with fail
   (try rw [HX.out])
   clear HX
   refine (V3.out).mono ?_
   rintro e w8 ⟨rfl, h8⟩
   have R8 := Lib.hid (R7.out.trans h8)
   clear h8 c0 c1 c2 c3 c4 c5
   go_wp2_with fail
   refine (A0.out _ R8.out).mono ?_
   rintro e w9 ⟨rfl, h9⟩
   have R9 : Hid (Rel w w9) := RX'.out.trans (R8.out.trans h9)
   clear h9
   go_wp2
   go_ret
   exact ⟨ret_b2 (by simp), R9.out⟩
end Go.Proofs.YtohdmpchbiabmaaDoor

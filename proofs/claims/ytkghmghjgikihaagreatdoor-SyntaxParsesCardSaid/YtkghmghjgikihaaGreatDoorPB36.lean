/- Bundle of texts: each says at its head what it proves; no conditions but those printed. -/
import Derived.Test.YtkghmghjgikihaaGreatDoorPB4
import Derived.Great.Walk
import Derived.Test.YtkghmghjgikihaaGreatDoorPB35
import Derived.Test.YtkghmghjgikihaaGreatDoorPB14
import Derived.Test.YtkghmghjgikihaaGreatDoorPB15
/- Contract of words. No conditions but those printed. -/
namespace Go.Proofs.YtkghmghjgikihaaGreatDoor
open Go.RowKit Cal Str Tok Frac
attribute [local go_sem] calmUpon
set_option linter.unusedVariables false
set_option linter.unusedSimpArgs false
def tabWo : Array Value := #[.string ⟨#[105, 102]⟩, .string ⟨#[116, 104, 101, 110]⟩, .string ⟨#[101, 108, 115, 101]⟩, .string ⟨#[97, 110, 100]⟩, .string ⟨#[111, 114]⟩, .string ⟨#[110, 111, 116]⟩, .string ⟨#[60]⟩, .string ⟨#[60, 61]⟩, .string ⟨#[61]⟩, .string ⟨#[60, 62]⟩, .string ⟨#[62]⟩, .string ⟨#[62, 61]⟩, .string ⟨#[43]⟩, .string ⟨#[45]⟩, .string ⟨#[42]⟩, .string ⟨#[47]⟩, .string ⟨#[40]⟩, .string ⟨#[41]⟩, .string ⟨#[44]⟩, .string ⟨#[109, 105, 110]⟩, .string ⟨#[109, 97, 120]⟩, .string ⟨#[102, 108, 111, 111, 114]⟩, .string ⟨#[98, 101, 115, 116]⟩, .string ⟨#[97]⟩, .string ⟨#[98]⟩, .string ⟨#[97, 103, 101]⟩, .string ⟨#[105, 110, 115, 117, 114, 101, 100]⟩, .string ⟨#[98, 97, 115, 101]⟩, .string ⟨#[49]⟩, .string ⟨#[50, 46, 53]⟩, .string ⟨#[51, 54, 53, 100]⟩, .string ⟨#[49, 48, 109]⟩, .string ⟨#[48]⟩, .string ⟨#[52, 54]⟩, .string ⟨#[115, 116, 97, 116, 117, 116, 101]⟩, .string ⟨#[108, 97, 119]⟩, .string ⟨#[99, 117, 114, 114, 101, 110, 99, 121]⟩, .string ⟨#[57, 55, 56]⟩, .string ⟨#[123]⟩, .string ⟨#[125]⟩, .string ⟨#[102, 114, 111, 109]⟩, .string ⟨#[64, 49, 57, 54, 48, 45, 48, 49, 45, 48, 49]⟩, .string ⟨#[64, 49, 57, 57, 48, 45, 48, 55, 45, 48, 49]⟩, .string ⟨#[114, 111, 117, 110, 100]⟩, .string ⟨#[100, 111, 119, 110]⟩, .string ⟨#[104, 97, 108, 102]⟩, .string ⟨#[59]⟩, .string ⟨#[99, 114, 101, 100, 105, 116]⟩, .string ⟨#[115, 105, 99, 107]⟩, .string ⟨#[99, 104, 105, 108, 100]⟩, .string ⟨#[108, 105, 109, 105, 116]⟩, .string ⟨#[105, 110, 100, 101, 120]⟩, .string ⟨#[49, 57, 55, 48]⟩, .string ⟨#[108, 101, 116]⟩, .string ⟨#[103, 114, 97, 110, 116]⟩, .string ⟨#[111, 108, 100]⟩, .string ⟨#[112, 97, 121]⟩, .string ⟨#[114, 101, 100, 117, 99, 101]⟩, .string ⟨#[98, 121]⟩, .string ⟨#[120]⟩, .string ⟨#[49, 48, 48, 48, 48, 49]⟩, .string ⟨#[49, 48, 48, 48, 100]⟩]
theorem tabWo_ok : ∀ k, k < 62 → ∃ s : ByteArray, tabWo[k]? = some (.string s) ∧ s.size ≤ 20 := by
 have h : (List.range 62).all (fun k => match tabWo[k]? with | some (.string s) => decide (s.size ≤ 20) | _ => false) = true := by kernel_rfl
 intro k hk
 have := List.all_eq_true.1 h k (List.mem_range.2 hk)
 split at this
 ·rename_i s hs; exact ⟨s, hs, by simpa using this⟩
 ·cases this
theorem built_wo (a : Act) : Tryz.prog.builtSlice 9 62 ((#[(0, Operand.const (.string ⟨#[105, 102]⟩)), (1, Operand.const (.string ⟨#[116, 104, 101, 110]⟩)), (2, Operand.const (.string ⟨#[101, 108, 115, 101]⟩)), (3, Operand.const (.string ⟨#[97, 110, 100]⟩)), (4, Operand.const (.string ⟨#[111, 114]⟩)), (5, Operand.const (.string ⟨#[110, 111, 116]⟩)), (6, Operand.const (.string ⟨#[60]⟩)), (7, Operand.const (.string ⟨#[60, 61]⟩)), (8, Operand.const (.string ⟨#[61]⟩)), (9, Operand.const (.string ⟨#[60, 62]⟩)), (10, Operand.const (.string ⟨#[62]⟩)), (11, Operand.const (.string ⟨#[62, 61]⟩)), (12, Operand.const (.string ⟨#[43]⟩)), (13, Operand.const (.string ⟨#[45]⟩)), (14, Operand.const (.string ⟨#[42]⟩)), (15, Operand.const (.string ⟨#[47]⟩)), (16, Operand.const (.string ⟨#[40]⟩)), (17, Operand.const (.string ⟨#[41]⟩)), (18, Operand.const (.string ⟨#[44]⟩)), (19, Operand.const (.string ⟨#[109, 105, 110]⟩)), (20, Operand.const (.string ⟨#[109, 97, 120]⟩)), (21, Operand.const (.string ⟨#[102, 108, 111, 111, 114]⟩)), (22, Operand.const (.string ⟨#[98, 101, 115, 116]⟩)), (23, Operand.const (.string ⟨#[97]⟩)), (24, Operand.const (.string ⟨#[98]⟩)), (25, Operand.const (.string ⟨#[97, 103, 101]⟩)), (26, Operand.const (.string ⟨#[105, 110, 115, 117, 114, 101, 100]⟩)), (27, Operand.const (.string ⟨#[98, 97, 115, 101]⟩)), (28, Operand.const (.string ⟨#[49]⟩)), (29, Operand.const (.string ⟨#[50, 46, 53]⟩)), (30, Operand.const (.string ⟨#[51, 54, 53, 100]⟩)), (31, Operand.const (.string ⟨#[49, 48, 109]⟩)), (32, Operand.const (.string ⟨#[48]⟩)), (33, Operand.const (.string ⟨#[52, 54]⟩)), (34, Operand.const (.string ⟨#[115, 116, 97, 116, 117, 116, 101]⟩)), (35, Operand.const (.string ⟨#[108, 97, 119]⟩)), (36, Operand.const (.string ⟨#[99, 117, 114, 114, 101, 110, 99, 121]⟩)), (37, Operand.const (.string ⟨#[57, 55, 56]⟩)), (38, Operand.const (.string ⟨#[123]⟩)), (39, Operand.const (.string ⟨#[125]⟩)), (40, Operand.const (.string ⟨#[102, 114, 111, 109]⟩)), (41, Operand.const (.string ⟨#[64, 49, 57, 54, 48, 45, 48, 49, 45, 48, 49]⟩)), (42, Operand.const (.string ⟨#[64, 49, 57, 57, 48, 45, 48, 55, 45, 48, 49]⟩)), (43, Operand.const (.string ⟨#[114, 111, 117, 110, 100]⟩)), (44, Operand.const (.string ⟨#[100, 111, 119, 110]⟩)), (45, Operand.const (.string ⟨#[104, 97, 108, 102]⟩)), (46, Operand.const (.string ⟨#[59]⟩)), (47, Operand.const (.string ⟨#[99, 114, 101, 100, 105, 116]⟩)), (48, Operand.const (.string ⟨#[115, 105, 99, 107]⟩)), (49, Operand.const (.string ⟨#[99, 104, 105, 108, 100]⟩)), (50, Operand.const (.string ⟨#[108, 105, 109, 105, 116]⟩)), (51, Operand.const (.string ⟨#[105, 110, 100, 101, 120]⟩)), (52, Operand.const (.string ⟨#[49, 57, 55, 48]⟩)), (53, Operand.const (.string ⟨#[108, 101, 116]⟩)), (54, Operand.const (.string ⟨#[103, 114, 97, 110, 116]⟩)), (55, Operand.const (.string ⟨#[111, 108, 100]⟩)), (56, Operand.const (.string ⟨#[112, 97, 121]⟩)), (57, Operand.const (.string ⟨#[114, 101, 100, 117, 99, 101]⟩)), (58, Operand.const (.string ⟨#[98, 121]⟩)), (59, Operand.const (.string ⟨#[120]⟩)), (60, Operand.const (.string ⟨#[49, 48, 48, 48, 48, 49]⟩)), (61, Operand.const (.string ⟨#[49, 48, 48, 48, 100]⟩))] : Array (Nat × Operand)).map (fun (i, x) => (i, a.eval x))).toList = some tabWo := by kernel_rfl
set_option maxRecDepth 20000 in
set_option maxHeartbeats 4000000 in
theorem words_any (n : Int) (w : World) (h0 : -9223372036854775808 ≤ n) (h1 : n ≤ 9223372036854775807) :
  Calls Tryz.prog 12 #[.int .i64 n] w (SomeStr 20 w) := by
 obtain ⟨s, hs, hz⟩ := tabWo_ok (n % 62).toNat (by omega)
 have P1 := Lib.hid fun w => pick_any n 62 w h0 h1 (by decide) (by decide)
 obtain ⟨q, hq, q0⟩ : ∃ q : Nat, n % 62 = (q : Int) ∧ q < 62 := ⟨(n % 62).toNat, by omega, by omega⟩
 rw [hq] at P1 hs
 rw [show ((q : Nat) : Int).toNat = q by omega] at hs
 have HS := Lib.hid hs
 have q1 : (q : Int) < 62 := by omega
 clear hs hq
 go_enter Tryz.func12, Tryz.ntmps12
 go_upto_region 1 with (fail)
 refine wp_region_lit ?_
 refine Go.Great.wpList_buildSliceTo rfl 77 9 62 _ rfl w.heap.size rfl _ rfl Tryz.underlying77 tabWo (by rw [built_wo]) ?_
 simp only [Act.put, List.setIfInBounds_toArray, List.set_cons_zero, List.set_cons_succ]
 refine wpList_plain rfl (fun K hK => ?_)
 go_simp
 refine hK _ _ ?_
 clear hK K
 refine wpList_nil ?_
 have c : (w.alloc (.cells tabWo 9)).cell? ⟨w.heap.size, q, none⟩ = some (.string s) := by simpa using HS.out
 have R : Hid (Rel w (w.alloc (.cells tabWo 9))) := (Rel.refl w).alloc _
 obtain ⟨X, hX⟩ : ∃ X, w.alloc (.cells tabWo 9) = X := ⟨_, rfl⟩
 rw [hX] at c R ⊢
 clear hX HS
 go_wp2_with fail
 refine (P1.out _).mono ?_
 rintro e w1 ⟨rfl, rfl⟩
 go_wp2
 go_ret
 exact ⟨s, rfl, hz, R.out⟩
end Go.Proofs.YtkghmghjgikihaaGreatDoor

/- Walk of the law SyntaxParses. No conditions but those printed. -/
namespace Go.Proofs.YtkghmghjgikihaaGreatDoor
open Go.RowKit Cal Str Tok Frac Txt Tree
attribute [local go_sem] calmUpon
set_option linter.unusedVariables false
set_option linter.unusedSimpArgs false
set_option maxRecDepth 20000 in
set_option maxHeartbeats 8000000 in
theorem walk_SyntaxParses (w : World) (ht : TabW w) (a0 : Value) (n0 : Nat) (a1 : ByteArray) (a2 : Bool) (b0 : IntsIn w a0 n0) (b1 : a1.size ≤ 140737488355328) :
  Calls Tryz.prog 3 #[a0, .string a1, .bool a2] w (BRes true w) := by
 obtain ⟨s0, p0, rfl, hn, hin⟩ := id b0
 have HIN := Lib.hid hin
 have HT := Lib.hid ht
 clear ht b0 hin
 unfold BRes
 cases a2
 ·go_enter Tryz.func3, Tryz.ntmps3
  go_wp2_with fail
  go_loopw [1, 7] (fun s i wx => ∃ (k : Nat) (t : ByteArray), k ≤ 30 ∧ k ≤ n0 ∧ i = .int .i64 k ∧ s = .string t ∧ t.size ≤ 21 * k ∧ Hid (Rel w wx)) (fun _ i _ => 30 - (intOf i).toNat)
  case atStart => exact ⟨0, ⟨#[]⟩, by omega, by omega, rfl, rfl, by decide, Rel.refl _⟩
  case round =>
   obtain ⟨k, t, hk, hkn, rfl, rfl, ht, hR⟩ := hrel
   by_cases hlt : k < n0 ∧ k < 30
   ·obtain ⟨hl1, hl2⟩ := hlt
    obtain ⟨b, off, zs, rfl, hb, hz⟩ := HIN.out (by omega)
    obtain ⟨hcell, z0, z1⟩ := hz k hl1
    have hc : wr.cell? ⟨b, off + k, none⟩ = some (.int .i64 (zs.getD k 0)) := hR.out.cell hcell
    obtain ⟨z, hzz⟩ : ∃ z, zs.getD k 0 = z := ⟨_, rfl⟩
    rw [hzz] at hc z0 z1
    have hbr : b < wr.heap.size := hR.out.lt hb
    have e1 : decide ((k : Int) < (n0 : Int)) = true := decide_eq_true (by omega)
    have e2 : decide ((k : Int) < 30) = true := decide_eq_true (by omega)
    have ki : (k : Int) < (n0 : Int) := by omega
    have P1 := Lib.hid fun w => pick_any z 34 w z0 z1 (by decide) (by decide)
    obtain ⟨y, hy, y0, y1⟩ : ∃ y, z % 34 = y ∧ 0 ≤ y ∧ y < 34 := ⟨_, rfl, by omega, by omega⟩
    rw [hy] at P1
    clear hz hcell hzz hy
    go_wp2_with fail
    refine (P1.out _).mono ?_
    rintro e w1 ⟨rfl, rfl⟩
    go_wp2_with fail
    refine (words_any y _ (by omega) (by omega)).mono ?_
    rintro e w1 ⟨ps, rfl, hps, h1⟩
    have R1 := Lib.hid (hR.out.trans h1)
    clear h1
    have f1 : ¬ 9223372036854775807 < ps.size + 1 := by omega
    have f2 : ¬ 9223372036854775807 < t.size + (ps.size + 1) := by omega
    go_wp2
    go_roundw
    case rel => exact ⟨k + 1, t ++ (ps ++ ⟨#[32]⟩), by omega, by omega, by go_num, rfl, (by rw [ByteArray.size_append, ByteArray.size_append]; show _ + (_ + 1) ≤ _; omega), R1⟩
    case measure => simp [intOf]; omega
   ·have hways : (k = n0 ∧ k < 30) ∨ (k = 30 ∧ k < n0) ∨ (k = 30 ∧ k = n0) := by omega
    have hsz : t.size ≤ 140737488355328 := by omega
    rcases hways with ⟨rfl, h8⟩ | ⟨rfl, h8⟩ | ⟨rfl, rfl⟩
    ·have e1 : decide ((k : Int) < (k : Int)) = false := decide_eq_false (by omega)
     obtain ⟨f, x, c, hp⟩ : ∃ f x c, prV t = (f, x, c) := ⟨_, _, _, rfl⟩
     have TW := Lib.hid (HT.out.rel hR.out)
     have Q1 := Lib.hid fun w' (r : Rel wr w') => ParseExpr_any t w' hsz (Lib.hid (TW.out.rel r))
     have Q2 := Lib.hid fun w' => rParseExpr_any t w' hsz
     rw [hp] at Q1 Q2
     unfold PxRes at Q1 Q2
     dsimp only at Q1 Q2
     have A0 := Lib.hid fun w' (r : Rel wr w') => awake_any w' (TW.out.rel r)
     unfold BRes at A0
     clear hp
     go_wp2_with fail
     refine (Q1.out _ (Rel.refl _)).mono ?_
     rintro e w3 ⟨z, rfl, hU, h3⟩
     obtain ⟨xa, xc, rfl⟩ := kids_slice hU
     have BT := Lib.hid (BoxAt.new (w := w3) (g := w3.heap.size) rfl (.int .i64 f.op) (.int .i64 f.va) (.int .i64 f.vb) (.int .i64 f.dm) (.string f.nm) (.slice xa f.cnt xc) 29)
     obtain ⟨X, hX⟩ : ∃ X, w3.alloc (.cells #[.int .i64 f.op, .int .i64 f.va, .int .i64 f.vb, .int .i64 f.dm, .string f.nm, .slice xa f.cnt xc] 29) = X := ⟨_, rfl⟩
     have RX : Rel w3 X := by rw [← hX]; exact (Rel.refl _).alloc _
     rw [hX] at BT
     have HX := Lib.hid hX
     have KX := Lib.hid (kids_rel hU RX)
     have R3 := Lib.hid (h3.trans RX)
     clear hU h3 RX
     go_wp2_with fail
     (try rw [HX.out])
     clear hX HX
     refine (Q2.out _).mono ?_
     rintro e w4 ⟨z, rfl, hU, h4⟩
     obtain ⟨ya, yc, rfl⟩ := kids_slice hU
     have BU := Lib.hid (BoxAt.new (w := w4) (g := w4.heap.size) rfl (.int .i64 f.op) (.int .i64 f.va) (.int .i64 f.vb) (.int .i64 f.dm) (.string f.nm) (.slice ya f.cnt yc) 29)
     obtain ⟨Y, hY⟩ : ∃ Y, w4.alloc (.cells #[.int .i64 f.op, .int .i64 f.va, .int .i64 f.vb, .int .i64 f.dm, .string f.nm, .slice ya f.cnt yc] 29) = Y := ⟨_, rfl⟩
     have RY : Rel w4 Y := by rw [← hY]; exact (Rel.refl _).alloc _
     rw [hY] at BU
     have HY := Lib.hid hY
     have KY := Lib.hid (kids_rel hU RY)
     have RXY := Lib.hid (h4.trans RY)
     have BT' := Lib.hid (BT.out.rel RXY.out)
     have KX' := Lib.hid (kids_rel KX.out RXY.out)
     have R4 := Lib.hid (R3.out.trans RXY.out)
     clear hU h4 RY
     have S2 := Lib.hid fun w' (r : Rel Y w') => rSame_any f f _ _ w' (kids_rel KX'.out r) (kids_rel KY.out r)
     rw [same_refl] at S2
     unfold BRes at S2
     go_wp2_with fail
     (try rw [HY.out])
     clear hY HY
     refine (A0.out _ R4.out).mono ?_
     rintro e w5 ⟨rfl, h5⟩
     obtain ⟨el, c0, c1, c2, c3, c4, c5, -⟩ := BT'.out.rel h5
     obtain ⟨el', d0, d1, d2, d3, d4, d5, -⟩ := BU.out.rel h5
     have R5 := Lib.hid h5
     clear h5
     go_wp2_with fail
     refine (S2.out _ R5.out).mono ?_
     rintro e w6 ⟨rfl, h6⟩
     have R6 := Lib.hid (R4.out.trans (R5.out.trans h6))
     clear h6
     go_wp2
     go_ret
     exact ⟨ret_b2 (by simp), (hR.out).trans R6.out⟩
    ·have e1 : decide ((30 : Int) < (n0 : Int)) = true := decide_eq_true (by omega)
     obtain ⟨f, x, c, hp⟩ : ∃ f x c, prV t = (f, x, c) := ⟨_, _, _, rfl⟩
     have TW := Lib.hid (HT.out.rel hR.out)
     have Q1 := Lib.hid fun w' (r : Rel wr w') => ParseExpr_any t w' hsz (Lib.hid (TW.out.rel r))
     have Q2 := Lib.hid fun w' => rParseExpr_any t w' hsz
     rw [hp] at Q1 Q2
     unfold PxRes at Q1 Q2
     dsimp only at Q1 Q2
     have A0 := Lib.hid fun w' (r : Rel wr w') => awake_any w' (TW.out.rel r)
     unfold BRes at A0
     clear hp
     go_wp2_with fail
     refine (Q1.out _ (Rel.refl _)).mono ?_
     rintro e w3 ⟨z, rfl, hU, h3⟩
     obtain ⟨xa, xc, rfl⟩ := kids_slice hU
     have BT := Lib.hid (BoxAt.new (w := w3) (g := w3.heap.size) rfl (.int .i64 f.op) (.int .i64 f.va) (.int .i64 f.vb) (.int .i64 f.dm) (.string f.nm) (.slice xa f.cnt xc) 29)
     obtain ⟨X, hX⟩ : ∃ X, w3.alloc (.cells #[.int .i64 f.op, .int .i64 f.va, .int .i64 f.vb, .int .i64 f.dm, .string f.nm, .slice xa f.cnt xc] 29) = X := ⟨_, rfl⟩
     have RX : Rel w3 X := by rw [← hX]; exact (Rel.refl _).alloc _
     rw [hX] at BT
     have HX := Lib.hid hX
     have KX := Lib.hid (kids_rel hU RX)
     have R3 := Lib.hid (h3.trans RX)
     clear hU h3 RX
     go_wp2_with fail
     (try rw [HX.out])
     clear hX HX
     refine (Q2.out _).mono ?_
     rintro e w4 ⟨z, rfl, hU, h4⟩
     obtain ⟨ya, yc, rfl⟩ := kids_slice hU
     have BU := Lib.hid (BoxAt.new (w := w4) (g := w4.heap.size) rfl (.int .i64 f.op) (.int .i64 f.va) (.int .i64 f.vb) (.int .i64 f.dm) (.string f.nm) (.slice ya f.cnt yc) 29)
     obtain ⟨Y, hY⟩ : ∃ Y, w4.alloc (.cells #[.int .i64 f.op, .int .i64 f.va, .int .i64 f.vb, .int .i64 f.dm, .string f.nm, .slice ya f.cnt yc] 29) = Y := ⟨_, rfl⟩
     have RY : Rel w4 Y := by rw [← hY]; exact (Rel.refl _).alloc _
     rw [hY] at BU
     have HY := Lib.hid hY
     have KY := Lib.hid (kids_rel hU RY)
     have RXY := Lib.hid (h4.trans RY)
     have BT' := Lib.hid (BT.out.rel RXY.out)
     have KX' := Lib.hid (kids_rel KX.out RXY.out)
     have R4 := Lib.hid (R3.out.trans RXY.out)
     clear hU h4 RY
     have S2 := Lib.hid fun w' (r : Rel Y w') => rSame_any f f _ _ w' (kids_rel KX'.out r) (kids_rel KY.out r)
     rw [same_refl] at S2
     unfold BRes at S2
     go_wp2_with fail
     (try rw [HY.out])
     clear hY HY
     refine (A0.out _ R4.out).mono ?_
     rintro e w5 ⟨rfl, h5⟩
     obtain ⟨el, c0, c1, c2, c3, c4, c5, -⟩ := BT'.out.rel h5
     obtain ⟨el', d0, d1, d2, d3, d4, d5, -⟩ := BU.out.rel h5
     have R5 := Lib.hid h5
     clear h5
     go_wp2_with fail
     refine (S2.out _ R5.out).mono ?_
     rintro e w6 ⟨rfl, h6⟩
     have R6 := Lib.hid (R4.out.trans (R5.out.trans h6))
     clear h6
     go_wp2
     go_ret
     exact ⟨ret_b2 (by simp), (hR.out).trans R6.out⟩
    ·have e1 : decide ((30 : Int) < (30 : Int)) = false := decide_eq_false (by omega)
     obtain ⟨f, x, c, hp⟩ : ∃ f x c, prV t = (f, x, c) := ⟨_, _, _, rfl⟩
     have TW := Lib.hid (HT.out.rel hR.out)
     have Q1 := Lib.hid fun w' (r : Rel wr w') => ParseExpr_any t w' hsz (Lib.hid (TW.out.rel r))
     have Q2 := Lib.hid fun w' => rParseExpr_any t w' hsz
     rw [hp] at Q1 Q2
     unfold PxRes at Q1 Q2
     dsimp only at Q1 Q2
     have A0 := Lib.hid fun w' (r : Rel wr w') => awake_any w' (TW.out.rel r)
     unfold BRes at A0
     clear hp
     go_wp2_with fail
     refine (Q1.out _ (Rel.refl _)).mono ?_
     rintro e w3 ⟨z, rfl, hU, h3⟩
     obtain ⟨xa, xc, rfl⟩ := kids_slice hU
     have BT := Lib.hid (BoxAt.new (w := w3) (g := w3.heap.size) rfl (.int .i64 f.op) (.int .i64 f.va) (.int .i64 f.vb) (.int .i64 f.dm) (.string f.nm) (.slice xa f.cnt xc) 29)
     obtain ⟨X, hX⟩ : ∃ X, w3.alloc (.cells #[.int .i64 f.op, .int .i64 f.va, .int .i64 f.vb, .int .i64 f.dm, .string f.nm, .slice xa f.cnt xc] 29) = X := ⟨_, rfl⟩
     have RX : Rel w3 X := by rw [← hX]; exact (Rel.refl _).alloc _
     rw [hX] at BT
     have HX := Lib.hid hX
     have KX := Lib.hid (kids_rel hU RX)
     have R3 := Lib.hid (h3.trans RX)
     clear hU h3 RX
     go_wp2_with fail
     (try rw [HX.out])
     clear hX HX
     refine (Q2.out _).mono ?_
     rintro e w4 ⟨z, rfl, hU, h4⟩
     obtain ⟨ya, yc, rfl⟩ := kids_slice hU
     have BU := Lib.hid (BoxAt.new (w := w4) (g := w4.heap.size) rfl (.int .i64 f.op) (.int .i64 f.va) (.int .i64 f.vb) (.int .i64 f.dm) (.string f.nm) (.slice ya f.cnt yc) 29)
     obtain ⟨Y, hY⟩ : ∃ Y, w4.alloc (.cells #[.int .i64 f.op, .int .i64 f.va, .int .i64 f.vb, .int .i64 f.dm, .string f.nm, .slice ya f.cnt yc] 29) = Y := ⟨_, rfl⟩
     have RY : Rel w4 Y := by rw [← hY]; exact (Rel.refl _).alloc _
     rw [hY] at BU
     have HY := Lib.hid hY
     have KY := Lib.hid (kids_rel hU RY)
     have RXY := Lib.hid (h4.trans RY)
     have BT' := Lib.hid (BT.out.rel RXY.out)
     have KX' := Lib.hid (kids_rel KX.out RXY.out)
     have R4 := Lib.hid (R3.out.trans RXY.out)
     clear hU h4 RY
     have S2 := Lib.hid fun w' (r : Rel Y w') => rSame_any f f _ _ w' (kids_rel KX'.out r) (kids_rel KY.out r)
     rw [same_refl] at S2
     unfold BRes at S2
     go_wp2_with fail
     (try rw [HY.out])
     clear hY HY
     refine (A0.out _ R4.out).mono ?_
     rintro e w5 ⟨rfl, h5⟩
     obtain ⟨el, c0, c1, c2, c3, c4, c5, -⟩ := BT'.out.rel h5
     obtain ⟨el', d0, d1, d2, d3, d4, d5, -⟩ := BU.out.rel h5
     have R5 := Lib.hid h5
     clear h5
     go_wp2_with fail
     refine (S2.out _ R5.out).mono ?_
     rintro e w6 ⟨rfl, h6⟩
     have R6 := Lib.hid (R4.out.trans (R5.out.trans h6))
     clear h6
     go_wp2
     go_ret
     exact ⟨ret_b2 (by simp), (hR.out).trans R6.out⟩
 ·have hsz : a1.size ≤ 140737488355328 := b1
  go_enter Tryz.func3, Tryz.ntmps3
  obtain ⟨f, x, c, hp⟩ : ∃ f x c, prV a1 = (f, x, c) := ⟨_, _, _, rfl⟩
  have TW := Lib.hid (HT.out.rel (Rel.refl w))
  have Q1 := Lib.hid fun w' (r : Rel w w') => ParseExpr_any a1 w' hsz (Lib.hid (TW.out.rel r))
  have Q2 := Lib.hid fun w' => rParseExpr_any a1 w' hsz
  rw [hp] at Q1 Q2
  unfold PxRes at Q1 Q2
  dsimp only at Q1 Q2
  have A0 := Lib.hid fun w' (r : Rel w w') => awake_any w' (TW.out.rel r)
  unfold BRes at A0
  clear hp
  go_wp2_with fail
  refine (Q1.out _ (Rel.refl _)).mono ?_
  rintro e w3 ⟨z, rfl, hU, h3⟩
  obtain ⟨xa, xc, rfl⟩ := kids_slice hU
  have BT := Lib.hid (BoxAt.new (w := w3) (g := w3.heap.size) rfl (.int .i64 f.op) (.int .i64 f.va) (.int .i64 f.vb) (.int .i64 f.dm) (.string f.nm) (.slice xa f.cnt xc) 29)
  obtain ⟨X, hX⟩ : ∃ X, w3.alloc (.cells #[.int .i64 f.op, .int .i64 f.va, .int .i64 f.vb, .int .i64 f.dm, .string f.nm, .slice xa f.cnt xc] 29) = X := ⟨_, rfl⟩
  have RX : Rel w3 X := by rw [← hX]; exact (Rel.refl _).alloc _
  rw [hX] at BT
  have HX := Lib.hid hX
  have KX := Lib.hid (kids_rel hU RX)
  have R3 := Lib.hid (h3.trans RX)
  clear hU h3 RX
  go_wp2_with fail
  (try rw [HX.out])
  clear hX HX
  refine (Q2.out _).mono ?_
  rintro e w4 ⟨z, rfl, hU, h4⟩
  obtain ⟨ya, yc, rfl⟩ := kids_slice hU
  have BU := Lib.hid (BoxAt.new (w := w4) (g := w4.heap.size) rfl (.int .i64 f.op) (.int .i64 f.va) (.int .i64 f.vb) (.int .i64 f.dm) (.string f.nm) (.slice ya f.cnt yc) 29)
  obtain ⟨Y, hY⟩ : ∃ Y, w4.alloc (.cells #[.int .i64 f.op, .int .i64 f.va, .int .i64 f.vb, .int .i64 f.dm, .string f.nm, .slice ya f.cnt yc] 29) = Y := ⟨_, rfl⟩
  have RY : Rel w4 Y := by rw [← hY]; exact (Rel.refl _).alloc _
  rw [hY] at BU
  have HY := Lib.hid hY
  have KY := Lib.hid (kids_rel hU RY)
  have RXY := Lib.hid (h4.trans RY)
  have BT' := Lib.hid (BT.out.rel RXY.out)
  have KX' := Lib.hid (kids_rel KX.out RXY.out)
  have R4 := Lib.hid (R3.out.trans RXY.out)
  clear hU h4 RY
  have S2 := Lib.hid fun w' (r : Rel Y w') => rSame_any f f _ _ w' (kids_rel KX'.out r) (kids_rel KY.out r)
  rw [same_refl] at S2
  unfold BRes at S2
  go_wp2_with fail
  (try rw [HY.out])
  clear hY HY
  refine (A0.out _ R4.out).mono ?_
  rintro e w5 ⟨rfl, h5⟩
  obtain ⟨el, c0, c1, c2, c3, c4, c5, -⟩ := BT'.out.rel h5
  obtain ⟨el', d0, d1, d2, d3, d4, d5, -⟩ := BU.out.rel h5
  have R5 := Lib.hid h5
  clear h5
  go_wp2_with fail
  refine (S2.out _ R5.out).mono ?_
  rintro e w6 ⟨rfl, h6⟩
  have R6 := Lib.hid (R4.out.trans (R5.out.trans h6))
  clear h6
  go_wp2
  go_ret
  exact ⟨ret_b2 (by simp), ((Rel.refl w)).trans R6.out⟩
end Go.Proofs.YtkghmghjgikihaaGreatDoor

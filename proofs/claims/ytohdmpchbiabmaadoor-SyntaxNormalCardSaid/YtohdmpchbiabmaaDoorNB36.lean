/- Bundle of texts: each says at its head what it proves; no conditions but those printed. -/
import Derived.Test.YtohdmpchbiabmaaDoorNB4
import Derived.Great.Walk
/- Contract of words. No conditions but those printed. -/
namespace Go.Proofs.YtohdmpchbiabmaaDoor
open Go.RowKit Cal Str Tok Frac
attribute [local go_sem] calmUpon
set_option linter.unusedVariables false
set_option linter.unusedSimpArgs false
def tabWo : Array Value := #[.string ⟨#[105, 102]⟩, .string ⟨#[116, 104, 101, 110]⟩, .string ⟨#[101, 108, 115, 101]⟩, .string ⟨#[97, 110, 100]⟩, .string ⟨#[111, 114]⟩, .string ⟨#[110, 111, 116]⟩, .string ⟨#[60]⟩, .string ⟨#[60, 61]⟩, .string ⟨#[61]⟩, .string ⟨#[60, 62]⟩, .string ⟨#[62]⟩, .string ⟨#[62, 61]⟩, .string ⟨#[43]⟩, .string ⟨#[45]⟩, .string ⟨#[42]⟩, .string ⟨#[47]⟩, .string ⟨#[40]⟩, .string ⟨#[41]⟩, .string ⟨#[44]⟩, .string ⟨#[109, 105, 110]⟩, .string ⟨#[109, 97, 120]⟩, .string ⟨#[102, 108, 111, 111, 114]⟩, .string ⟨#[98, 101, 115, 116]⟩, .string ⟨#[97]⟩, .string ⟨#[98]⟩, .string ⟨#[97, 103, 101]⟩, .string ⟨#[105, 110, 115, 117, 114, 101, 100]⟩, .string ⟨#[98, 97, 115, 101]⟩, .string ⟨#[49]⟩, .string ⟨#[50, 46, 53]⟩, .string ⟨#[51, 54, 53, 100]⟩, .string ⟨#[49, 48, 109]⟩, .string ⟨#[48]⟩, .string ⟨#[52, 54]⟩, .string ⟨#[115, 116, 97, 116, 117, 116, 101]⟩, .string ⟨#[108, 97, 119]⟩, .string ⟨#[99, 117, 114, 114, 101, 110, 99, 121]⟩, .string ⟨#[57, 55, 56]⟩, .string ⟨#[123]⟩, .string ⟨#[125]⟩, .string ⟨#[102, 114, 111, 109]⟩, .string ⟨#[64, 49, 57, 54, 48, 45, 48, 49, 45, 48, 49]⟩, .string ⟨#[64, 49, 57, 57, 48, 45, 48, 55, 45, 48, 49]⟩, .string ⟨#[114, 111, 117, 110, 100]⟩, .string ⟨#[100, 111, 119, 110]⟩, .string ⟨#[104, 97, 108, 102]⟩, .string ⟨#[59]⟩, .string ⟨#[99, 114, 101, 100, 105, 116]⟩, .string ⟨#[115, 105, 99, 107]⟩, .string ⟨#[99, 104, 105, 108, 100]⟩, .string ⟨#[108, 105, 109, 105, 116]⟩, .string ⟨#[105, 110, 100, 101, 120]⟩, .string ⟨#[49, 57, 55, 48]⟩, .string ⟨#[108, 101, 116]⟩, .string ⟨#[103, 114, 97, 110, 116]⟩, .string ⟨#[111, 108, 100]⟩, .string ⟨#[112, 97, 121]⟩, .string ⟨#[114, 101, 100, 117, 99, 101]⟩, .string ⟨#[98, 121]⟩, .string ⟨#[120]⟩, .string ⟨#[49, 48, 48, 48, 48, 49]⟩, .string ⟨#[49, 48, 48, 48, 100]⟩]
theorem tabWo_ok : ∀ k, k < 62 → ∃ s : ByteArray, tabWo[k]? = some (.string s) ∧ s.size ≤ 20 := by
 have h : (List.range 62).all (fun k => match tabWo[k]? with | some (.string s) => decide (s.size ≤ 20) | _ => false) = true := by kernel_rfl
 intro k hk
 have := List.all_eq_true.1 h k (List.mem_range.2 hk)
 split at this
 ·rename_i s hs; exact ⟨s, hs, by simpa using this⟩
 ·cases this
theorem built_wo (a : Act) : Tryd.prog.builtSlice 9 62 ((#[(0, Operand.const (.string ⟨#[105, 102]⟩)), (1, Operand.const (.string ⟨#[116, 104, 101, 110]⟩)), (2, Operand.const (.string ⟨#[101, 108, 115, 101]⟩)), (3, Operand.const (.string ⟨#[97, 110, 100]⟩)), (4, Operand.const (.string ⟨#[111, 114]⟩)), (5, Operand.const (.string ⟨#[110, 111, 116]⟩)), (6, Operand.const (.string ⟨#[60]⟩)), (7, Operand.const (.string ⟨#[60, 61]⟩)), (8, Operand.const (.string ⟨#[61]⟩)), (9, Operand.const (.string ⟨#[60, 62]⟩)), (10, Operand.const (.string ⟨#[62]⟩)), (11, Operand.const (.string ⟨#[62, 61]⟩)), (12, Operand.const (.string ⟨#[43]⟩)), (13, Operand.const (.string ⟨#[45]⟩)), (14, Operand.const (.string ⟨#[42]⟩)), (15, Operand.const (.string ⟨#[47]⟩)), (16, Operand.const (.string ⟨#[40]⟩)), (17, Operand.const (.string ⟨#[41]⟩)), (18, Operand.const (.string ⟨#[44]⟩)), (19, Operand.const (.string ⟨#[109, 105, 110]⟩)), (20, Operand.const (.string ⟨#[109, 97, 120]⟩)), (21, Operand.const (.string ⟨#[102, 108, 111, 111, 114]⟩)), (22, Operand.const (.string ⟨#[98, 101, 115, 116]⟩)), (23, Operand.const (.string ⟨#[97]⟩)), (24, Operand.const (.string ⟨#[98]⟩)), (25, Operand.const (.string ⟨#[97, 103, 101]⟩)), (26, Operand.const (.string ⟨#[105, 110, 115, 117, 114, 101, 100]⟩)), (27, Operand.const (.string ⟨#[98, 97, 115, 101]⟩)), (28, Operand.const (.string ⟨#[49]⟩)), (29, Operand.const (.string ⟨#[50, 46, 53]⟩)), (30, Operand.const (.string ⟨#[51, 54, 53, 100]⟩)), (31, Operand.const (.string ⟨#[49, 48, 109]⟩)), (32, Operand.const (.string ⟨#[48]⟩)), (33, Operand.const (.string ⟨#[52, 54]⟩)), (34, Operand.const (.string ⟨#[115, 116, 97, 116, 117, 116, 101]⟩)), (35, Operand.const (.string ⟨#[108, 97, 119]⟩)), (36, Operand.const (.string ⟨#[99, 117, 114, 114, 101, 110, 99, 121]⟩)), (37, Operand.const (.string ⟨#[57, 55, 56]⟩)), (38, Operand.const (.string ⟨#[123]⟩)), (39, Operand.const (.string ⟨#[125]⟩)), (40, Operand.const (.string ⟨#[102, 114, 111, 109]⟩)), (41, Operand.const (.string ⟨#[64, 49, 57, 54, 48, 45, 48, 49, 45, 48, 49]⟩)), (42, Operand.const (.string ⟨#[64, 49, 57, 57, 48, 45, 48, 55, 45, 48, 49]⟩)), (43, Operand.const (.string ⟨#[114, 111, 117, 110, 100]⟩)), (44, Operand.const (.string ⟨#[100, 111, 119, 110]⟩)), (45, Operand.const (.string ⟨#[104, 97, 108, 102]⟩)), (46, Operand.const (.string ⟨#[59]⟩)), (47, Operand.const (.string ⟨#[99, 114, 101, 100, 105, 116]⟩)), (48, Operand.const (.string ⟨#[115, 105, 99, 107]⟩)), (49, Operand.const (.string ⟨#[99, 104, 105, 108, 100]⟩)), (50, Operand.const (.string ⟨#[108, 105, 109, 105, 116]⟩)), (51, Operand.const (.string ⟨#[105, 110, 100, 101, 120]⟩)), (52, Operand.const (.string ⟨#[49, 57, 55, 48]⟩)), (53, Operand.const (.string ⟨#[108, 101, 116]⟩)), (54, Operand.const (.string ⟨#[103, 114, 97, 110, 116]⟩)), (55, Operand.const (.string ⟨#[111, 108, 100]⟩)), (56, Operand.const (.string ⟨#[112, 97, 121]⟩)), (57, Operand.const (.string ⟨#[114, 101, 100, 117, 99, 101]⟩)), (58, Operand.const (.string ⟨#[98, 121]⟩)), (59, Operand.const (.string ⟨#[120]⟩)), (60, Operand.const (.string ⟨#[49, 48, 48, 48, 48, 49]⟩)), (61, Operand.const (.string ⟨#[49, 48, 48, 48, 100]⟩))] : Array (Nat × Operand)).map (fun (i, x) => (i, a.eval x))).toList = some tabWo := by kernel_rfl
set_option maxRecDepth 20000 in
set_option maxHeartbeats 4000000 in
theorem words_any (n : Int) (w : World) (h0 : -9223372036854775808 ≤ n) (h1 : n ≤ 9223372036854775807) :
  Calls Tryd.prog 12 #[.int .i64 n] w (SomeStr 20 w) := by
 obtain ⟨s, hs, hz⟩ := tabWo_ok (n % 62).toNat (by omega)
 have P1 := Lib.hid fun w => pick_any n 62 w h0 h1 (by decide) (by decide)
 obtain ⟨q, hq, q0⟩ : ∃ q : Nat, n % 62 = (q : Int) ∧ q < 62 := ⟨(n % 62).toNat, by omega, by omega⟩
 rw [hq] at P1 hs
 rw [show ((q : Nat) : Int).toNat = q by omega] at hs
 have HS := Lib.hid hs
 have q1 : (q : Int) < 62 := by omega
 clear hs hq
 go_enter Tryd.func12, Tryd.ntmps12
 go_upto_region 1 with (fail)
 refine wp_region_lit ?_
 refine Go.Great.wpList_buildSliceTo rfl 45 9 62 _ rfl w.heap.size rfl _ rfl Tryd.underlying45 tabWo (by rw [built_wo]) ?_
 simp only [Act.put, List.setIfInBounds_toArray, List.set_cons_zero, List.set_cons_succ]
 refine wpList_plain rfl (fun K hK => ?_)
 go_simp
 refine hK _ _ ?_
 clear hK K
 refine wpList_nil ?_
 have c : (w.alloc (.cells tabWo 9)).cell? ⟨w.heap.size, q, none⟩ = some (.string s) := by simpa using HS.out
 have R : Hid (Rel w (w.alloc (.cells tabWo 9))) := (Rel.refl w).alloc _
 obtain ⟨X, hX⟩ : ∃ X, w.alloc (.cells tabWo 9) = X := ⟨_, rfl⟩
 rw [hX] at c R ⊢
 clear hX HS
 go_wp2_with fail
 refine (P1.out _).mono ?_
 rintro e w1 ⟨rfl, rfl⟩
 go_wp2
 go_ret
 exact ⟨s, rfl, hz, R.out⟩
end Go.Proofs.YtohdmpchbiabmaaDoor

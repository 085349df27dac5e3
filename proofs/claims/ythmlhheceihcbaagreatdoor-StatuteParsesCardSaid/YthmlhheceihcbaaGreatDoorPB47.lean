/- Lemmas, each as it is printed; no conditions but those printed. -/
import Derived.Great.Walk
import Derived.Test.YthmlhheceihcbaaGreatDoorPB8
import Derived.WalkKit
import Derived.ProofKit
import Derived.OpenShut
import Derived.ShutString
import Derived.ChangeOld
import Derived.Below
import Derived.SizedLaws
import Derived.ChangeSlices
import Derived.Deep.Slices
import Derived.Deep.Fields
import Derived.ChangeSame
namespace Go.Proofs.YthmlhheceihcbaaGreatDoor
set_option maxHeartbeats 16000000
open Go.RowKit Cal Str Tok Frac Tryz
attribute [local go_sem] calmUpon
set_option linter.unusedVariables false
set_option linter.unusedSimpArgs false
def tabWo : Array Value := #[.string ⟨#[105, 102]⟩, .string ⟨#[116, 104, 101, 110]⟩, .string ⟨#[101, 108, 115, 101]⟩, .string ⟨#[97, 110, 100]⟩, .string ⟨#[111, 114]⟩, .string ⟨#[110, 111, 116]⟩, .string ⟨#[60]⟩, .string ⟨#[60, 61]⟩, .string ⟨#[61]⟩, .string ⟨#[60, 62]⟩, .string ⟨#[62]⟩, .string ⟨#[62, 61]⟩, .string ⟨#[43]⟩, .string ⟨#[45]⟩, .string ⟨#[42]⟩, .string ⟨#[47]⟩, .string ⟨#[40]⟩, .string ⟨#[41]⟩, .string ⟨#[44]⟩, .string ⟨#[109, 105, 110]⟩, .string ⟨#[109, 97, 120]⟩, .string ⟨#[102, 108, 111, 111, 114]⟩, .string ⟨#[98, 101, 115, 116]⟩, .string ⟨#[97]⟩, .string ⟨#[98]⟩, .string ⟨#[97, 103, 101]⟩, .string ⟨#[105, 110, 115, 117, 114, 101, 100]⟩, .string ⟨#[98, 97, 115, 101]⟩, .string ⟨#[49]⟩, .string ⟨#[50, 46, 53]⟩, .string ⟨#[51, 54, 53, 100]⟩, .string ⟨#[49, 48, 109]⟩, .string ⟨#[48]⟩, .string ⟨#[52, 54]⟩, .string ⟨#[115, 116, 97, 116, 117, 116, 101]⟩, .string ⟨#[108, 97, 119]⟩, .string ⟨#[99, 117, 114, 114, 101, 110, 99, 121]⟩, .string ⟨#[57, 55, 56]⟩, .string ⟨#[123]⟩, .string ⟨#[125]⟩, .string ⟨#[102, 114, 111, 109]⟩, .string ⟨#[64, 49, 57, 54, 48, 45, 48, 49, 45, 48, 49]⟩, .string ⟨#[64, 49, 57, 57, 48, 45, 48, 55, 45, 48, 49]⟩, .string ⟨#[114, 111, 117, 110, 100]⟩, .string ⟨#[100, 111, 119, 110]⟩, .string ⟨#[104, 97, 108, 102]⟩, .string ⟨#[59]⟩, .string ⟨#[99, 114, 101, 100, 105, 116]⟩, .string ⟨#[115, 105, 99, 107]⟩, .string ⟨#[99, 104, 105, 108, 100]⟩, .string ⟨#[108, 105, 109, 105, 116]⟩, .string ⟨#[105, 110, 100, 101, 120]⟩, .string ⟨#[49, 57, 55, 48]⟩, .string ⟨#[108, 101, 116]⟩, .string ⟨#[103, 114, 97, 110, 116]⟩, .string ⟨#[111, 108, 100]⟩, .string ⟨#[112, 97, 121]⟩, .string ⟨#[114, 101, 100, 117, 99, 101]⟩, .string ⟨#[98, 121]⟩, .string ⟨#[120]⟩, .string ⟨#[49, 48, 48, 48, 48, 49]⟩, .string ⟨#[49, 48, 48, 48, 100]⟩]
theorem tabWo_ok : ∀ k, k < 62 -> ∃ s : ByteArray, tabWo[k]? = some (.string s) /\ s.size <= 20 := by
 have h : (List.range 62).all (fun k => match tabWo[k]? with | some (.string s) => decide (s.size <= 20) | _ => false) = true := by kernel_rfl
 intro k hk;have := List.all_eq_true.1 h k (List.mem_range.2 hk)
 split at this
 ·rename_i s hs; exact ⟨s, hs, by simpa using this⟩
 ·cases this
theorem built_wo (a : Act) : prog.builtSlice 9 62 ((#[(0, Operand.const (.string ⟨#[105, 102]⟩)), (1, Operand.const (.string ⟨#[116, 104, 101, 110]⟩)), (2, Operand.const (.string ⟨#[101, 108, 115, 101]⟩)), (3, Operand.const (.string ⟨#[97, 110, 100]⟩)), (4, Operand.const (.string ⟨#[111, 114]⟩)), (5, Operand.const (.string ⟨#[110, 111, 116]⟩)), (6, Operand.const (.string ⟨#[60]⟩)), (7, Operand.const (.string ⟨#[60, 61]⟩)), (8, Operand.const (.string ⟨#[61]⟩)), (9, Operand.const (.string ⟨#[60, 62]⟩)), (10, Operand.const (.string ⟨#[62]⟩)), (11, Operand.const (.string ⟨#[62, 61]⟩)), (12, Operand.const (.string ⟨#[43]⟩)), (13, Operand.const (.string ⟨#[45]⟩)), (14, Operand.const (.string ⟨#[42]⟩)), (15, Operand.const (.string ⟨#[47]⟩)), (16, Operand.const (.string ⟨#[40]⟩)), (17, Operand.const (.string ⟨#[41]⟩)), (18, Operand.const (.string ⟨#[44]⟩)), (19, Operand.const (.string ⟨#[109, 105, 110]⟩)), (20, Operand.const (.string ⟨#[109, 97, 120]⟩)), (21, Operand.const (.string ⟨#[102, 108, 111, 111, 114]⟩)), (22, Operand.const (.string ⟨#[98, 101, 115, 116]⟩)), (23, Operand.const (.string ⟨#[97]⟩)), (24, Operand.const (.string ⟨#[98]⟩)), (25, Operand.const (.string ⟨#[97, 103, 101]⟩)), (26, Operand.const (.string ⟨#[105, 110, 115, 117, 114, 101, 100]⟩)), (27, Operand.const (.string ⟨#[98, 97, 115, 101]⟩)), (28, Operand.const (.string ⟨#[49]⟩)), (29, Operand.const (.string ⟨#[50, 46, 53]⟩)), (30, Operand.const (.string ⟨#[51, 54, 53, 100]⟩)), (31, Operand.const (.string ⟨#[49, 48, 109]⟩)), (32, Operand.const (.string ⟨#[48]⟩)), (33, Operand.const (.string ⟨#[52, 54]⟩)), (34, Operand.const (.string ⟨#[115, 116, 97, 116, 117, 116, 101]⟩)), (35, Operand.const (.string ⟨#[108, 97, 119]⟩)), (36, Operand.const (.string ⟨#[99, 117, 114, 114, 101, 110, 99, 121]⟩)), (37, Operand.const (.string ⟨#[57, 55, 56]⟩)), (38, Operand.const (.string ⟨#[123]⟩)), (39, Operand.const (.string ⟨#[125]⟩)), (40, Operand.const (.string ⟨#[102, 114, 111, 109]⟩)), (41, Operand.const (.string ⟨#[64, 49, 57, 54, 48, 45, 48, 49, 45, 48, 49]⟩)), (42, Operand.const (.string ⟨#[64, 49, 57, 57, 48, 45, 48, 55, 45, 48, 49]⟩)), (43, Operand.const (.string ⟨#[114, 111, 117, 110, 100]⟩)), (44, Operand.const (.string ⟨#[100, 111, 119, 110]⟩)), (45, Operand.const (.string ⟨#[104, 97, 108, 102]⟩)), (46, Operand.const (.string ⟨#[59]⟩)), (47, Operand.const (.string ⟨#[99, 114, 101, 100, 105, 116]⟩)), (48, Operand.const (.string ⟨#[115, 105, 99, 107]⟩)), (49, Operand.const (.string ⟨#[99, 104, 105, 108, 100]⟩)), (50, Operand.const (.string ⟨#[108, 105, 109, 105, 116]⟩)), (51, Operand.const (.string ⟨#[105, 110, 100, 101, 120]⟩)), (52, Operand.const (.string ⟨#[49, 57, 55, 48]⟩)), (53, Operand.const (.string ⟨#[108, 101, 116]⟩)), (54, Operand.const (.string ⟨#[103, 114, 97, 110, 116]⟩)), (55, Operand.const (.string ⟨#[111, 108, 100]⟩)), (56, Operand.const (.string ⟨#[112, 97, 121]⟩)), (57, Operand.const (.string ⟨#[114, 101, 100, 117, 99, 101]⟩)), (58, Operand.const (.string ⟨#[98, 121]⟩)), (59, Operand.const (.string ⟨#[120]⟩)), (60, Operand.const (.string ⟨#[49, 48, 48, 48, 48, 49]⟩)), (61, Operand.const (.string ⟨#[49, 48, 48, 48, 100]⟩))] : Array (Nat × Operand)).map (fun (i, x) => (i, a.eval x))).toList = some tabWo := by kernel_rfl
set_option maxRecDepth 20000 in
theorem words_any (n : Int) (w : World) (h0 : -9223372036854775808 <= n) (h1 : n <= 9223372036854775807) :
  Calls prog 21 #[.int .i64 n] w (SomeStr 20 w) := by
 obtain ⟨s, hs, hz⟩ := tabWo_ok (n % 62).toNat (by omega);have P1 := Hj fun w => pick_any n 62 w h0 h1 (by decide) (by decide)
 obtain ⟨q, hq, q0⟩ : ∃ q : Nat, n % 62 = (q : Int) /\ q < 62 := ⟨(n % 62).toNat, by omega, by omega⟩;rw [hq] at P1 hs;rw [show ((q : Nat) : Int).toNat = q by omega] at hs;have HS := Hj hs;have q1 : (q : Int) < 62 := by omega
 clear hs hq;go_enter func21, ntmps21;go_upto_region 1 with (fail);refine wp_region_lit ?_;refine Go.Great.wpList_buildSliceTo rfl 73 9 62 _ rfl w.heap.size rfl _ rfl underlying73 tabWo (by rw [built_wo]) ?_;simp only [Act.put, zla, zlb, zlc];refine wpList_plain rfl (fun K hK => ?_);go_simp;refine hK _ _ ?_;clear hK K;refine wpList_nil ?_;have c : (w.alloc (.cells tabWo 9)).cell? ⟨w.heap.size, q, none⟩ = some (.string s) := by simpa using HS.out
 have R : Hid (Rel w (w.alloc (.cells tabWo 9))) := (Rel.refl w).alloc _;obtain ⟨X, hX⟩ : ∃ X, w.alloc (.cells tabWo 9) = X := ⟨_, rfl⟩;rw [hX] at c R |-;clear hX HS;go_wp2_with fail;refine (P1.out _).mono ?_;rintro e w1 ⟨rfl, rfl⟩;go_wp2;go_ret;exact ⟨s, rfl, hz, R.out⟩
def EditsAt (w : World) (n : Nat) (x y z : Nat -> Int) (ad : Option Addr) : Prop := 0 < n -> ∃ b off, ad = some ⟨b, off, none⟩ /\ b < w.heap.size /\
 ∀ j, j < n -> w.cell? ⟨b, off + j * 3, none⟩ = some (.int .i64 (x j)) /\ w.cell? ⟨b, off + j * 3 + 1, none⟩ = some (.int .i64 (y j)) /\ w.cell? ⟨b, off + j * 3 + 2, none⟩ = some (.int .i64 (z j)) /\
  (-9223372036854775808 <= x j /\ x j <= 9223372036854775807) /\ (-9223372036854775808 <= y j /\ y j <= 9223372036854775807) /\ (-9223372036854775808 <= z j /\ z j <= 9223372036854775807)
theorem edits_rel {w w' : World} {n : Nat} {x y z : Nat -> Int} {ad : Option Addr} (h : EditsAt w n x y z ad) (r : Rel w w') : EditsAt w' n x y z ad := fun h0 => by
 obtain ⟨b, off, e, hb, hc⟩ := h h0;exact ⟨b, off, e, Nat.lt_of_lt_of_le hb r.size, fun j hj => by obtain ⟨c0, c1, c2, rest⟩ := hc j hj; exact ⟨r.cell c0, r.cell c1, r.cell c2, rest⟩⟩
def Sml (L : List ByteArray) : Prop := ∀ s ∈ L, s.size <= 1000000
theorem sml_app {L M : List ByteArray} (h : Sml L) (k : Sml M) : Sml (L ++ M) := fun s hs => (List.mem_append.1 hs).elim (h s) (k s)
theorem sml_take {L : List ByteArray} (h : Sml L) (k : Nat) : Sml (L.take k) := fun s hs => h s (List.mem_of_mem_take hs)
theorem sml_drop {L : List ByteArray} (h : Sml L) (k : Nat) : Sml (L.drop k) := fun s hs => h s (List.mem_of_mem_drop hs)
theorem sml_one {s : ByteArray} (h : s.size <= 1000000) : Sml [s] := fun t ht => by simp at ht; subst ht; exact h
theorem sml_two {s : ByteArray} (h : s.size <= 1000000) : Sml [s, s] := fun t ht => by simp at ht; subst ht; exact h
theorem strL_app (L M : List ByteArray) : strL (L ++ M) = strL L ++ strL M := by unfold strL; simp
theorem strL_len (L : List ByteArray) : (strL L).length = L.length := by unfold strL; simp
theorem strL_one (L : List ByteArray) : ∀ u ∈ strL L, u.oneCell' = true := by
 intro u hu;unfold strL at hu;obtain ⟨s, -, rfl⟩ := List.mem_map.1 hu;rfl
theorem strL_at {L : List ByteArray} {j : Nat} (h : j < L.length) : (strL L)[j]? = some (.string L[j]) := by unfold strL; simp [h]
theorem addC (g a j : Nat) : (⟨g, a, none⟩ : Addr).add j = ⟨g, a + j, none⟩ := by unfold Addr.add; split <;> simp_all
theorem own_form {w : World} {base : Nat} {e : TypeId} {size : Nat} {v : Value} {n : Nat} {xs : List Value} (h : w.ownsRow base e size v n xs) :
  ∃ (p : Option Addr) (cap : Nat), v = .slice p n cap /\ (0 < n -> ∃ g, p = some ⟨g, 0, none⟩ /\ base <= g /\ g < w.heap.size /\ n <= cap /\ cap <= maxLen /\ ∀ (j : Nat) u, xs[j]? = some u -> w.cell? ⟨g, j, none⟩ = some u) := by
 by_cases hn : 0 < n
 ·obtain ⟨g, cap, rfl, hb, hg, h1, h2, hc⟩ := own_some h hn;exact ⟨_, cap, rfl, fun _ => ⟨g, rfl, hb, hg, h1, h2, hc⟩⟩
 ·rcases h.2 with ⟨rfl, h0⟩ | ⟨g, cap, cur, rfl, hb, hg, h1, h2, _, _⟩
  ·exact ⟨none, 0, by rw [h0], fun h => absurd h hn⟩
  ·exact ⟨_, cap, rfl, fun h => absurd h hn⟩
theorem sub_cells {w : World} {g a m : Nat} {L : List ByteArray} (hc : ∀ (j : Nat) u, (strL L)[j]? = some u -> w.cell? ⟨g, j, none⟩ = some u) :
  ∀ (j : Nat) u, (strL ((L.drop a).take m))[j]? = some u -> w.cell? ((⟨g, a, none⟩ : Addr).add j) = some u := by
 intro j u hu;rw [addC];refine hc (a + j) u ?_;unfold strL at hu |-;rw [List.getElem?_map] at hu |-;rw [List.getElem?_take] at hu
 split at hu
 ·rwa [List.getElem?_drop] at hu
 ·simp at hu
theorem new2s (w : World) (x y : Value) (T : TypeId) : ∀ (j : Nat) u, [x, y][j]? = some u -> (w.alloc (.cells #[x, y] T)).cell? ((⟨w.heap.size, 0, none⟩ : Addr).add j) = some u := by
 intro j u hu;rw [addC]
 match j, hu with
 | 0, hu => simp at hu; subst hu; simp
 | 1, hu => simp at hu; subst hu; simp
 | j + 2, hu => simp at hu
theorem dropN {L : List ByteArray} {a : Nat} : (L.drop a).take (L.length - a) = L.drop a := by rw [List.take_of_length_le (by simp)]
set_option maxRecDepth 20000 in
theorem change_any (s : ByteArray) (ad : Option Addr) (n cap0 : Nat) (x y z : Nat -> Int) (w : World) (hs : s.size <= 1000000) (hn : n <= 17592186044416) (hv : EditsAt w n x y z ad) :
    Calls prog 7 #[.string s, .slice ad n cap0] w (SomeStr 2000000000000 w) := by
  have HE := Hj hv;clear hv;have hi3 : ∃ i0 : TypeInfo, prog.info? 9 = some i0 /\ i0.zero = some (.string ByteArray.empty) /\ i0.size = 1 /\ i0.bytes = 16 := ⟨_, rfl, rfl, rfl, rfl⟩;obtain ⟨i0, hi, hz0, hz1, hz2⟩ := hi3;have HI := Hj hi;have HZ0 := Hj hz0;have HZ1 := Hj hz1;have HZ2 := Hj hz2;clear hi hz0 hz1 hz2;unfold SomeStr;go_enter func7, ntmps7;go_wp2_with fail
  go_loopw [5, 6, 7] (fun v f i wx => ∃ (k fr : Nat) (vv : Value) (L : List ByteArray), vv = v /\ k <= s.size + 1 /\ fr <= k /\ i = .int .i64 k /\ f = .int .i64 fr /\ L.length <= k /\ Hid (Sml L) /\ Hid (wx.ownsRow w.heap.size 9 1 vv L.length (strL L)) /\ Hid (Rel w wx)) (fun _ _ i _ => s.size + 1 - (intOf i).toNat)
  case atStart => exact ⟨0, 0, _, [], rfl, by omega, by omega, rfl, rfl, by simp, (fun s h => by simp at h), World.ownsRow_nil _ _ _ _, Rel.refl _⟩
  case round =>
    obtain ⟨k, fr, vv, L, rfl, hk, hfr, rfl, rfl, hL, hS, hO, hR⟩ := hrel;have rsz := hR.out.size;by_cases hkk : k = s.size + 1
    · have e0 : decide ((k : Int) <= (s.size : Int)) = false := dF (by omega);have e0' : ¬ ((k : Int) <= (s.size : Int)) := by omega
      clear hkk;go_wp2_with fail
      go_loopw [5, 8] (fun v i wx => ∃ (k : Nat) (vv : Value) (L : List ByteArray), vv = v /\ k <= 3 /\ k <= n /\ i = .int .i64 k /\ L.length <= 1000001 + k /\ Hid (Sml L) /\ Hid (wx.ownsRow w.heap.size 9 1 vv L.length (strL L)) /\ Hid (Rel w wx)) (fun _ i _ => 3 - (intOf i).toNat)
      case atStart => exact ⟨0, _, L, rfl, by omega, by omega, rfl, by omega, hS, hO, hR⟩
      case round =>
        clear hS hO hR rsz hL hfr e0 e0';obtain ⟨k, vv, L, rfl, hk, hkn, rfl, hL, hS, hO, hR⟩ := hrel;have rsz := hR.out.size;obtain ⟨p, cap, rfl, hp⟩ := own_form hO.out;by_cases hlt : k < n /\ k < 3 /\ 0 < L.length
        · obtain ⟨l1, l2, l3⟩ := hlt;obtain ⟨g, rfl, hg0, hg, hnc, hcm, hc⟩ := hp l3;obtain ⟨b, off, rfl, hb, hcE⟩ := edits_rel HE.out hR.out (by omega);obtain ⟨c0, c1, c2, ⟨x0, x1⟩, ⟨y0, y1⟩, z0, z1⟩ := hcE k l1;obtain ⟨X, hX⟩ : ∃ X, x k = X := ⟨_, rfl⟩;obtain ⟨Y, hY⟩ : ∃ Y, y k = Y := ⟨_, rfl⟩;obtain ⟨Z, hZ⟩ : ∃ Z, z k = Z := ⟨_, rfl⟩;rw [hX] at c0 x0 x1;rw [hY] at c1 y0 y1;rw [hZ] at c2 z0 z1;have HC := Hj hc;clear hX hY hZ hcE hp hc;have e1 : decide ((k : Int) < (n : Int)) = true := dT (by omega);have e2 : decide ((k : Int) < 3) = true := dT (by omega);have e3 : decide ((0 : Int) < (L.length : Int)) = true := dT (by omega);have ki : (k : Int) < (n : Int) := by omega
          have P1 := Hj fun w => pick_any X L.length w x0 x1 (by omega) (by omega)
          obtain ⟨q, hq, hqL⟩ : ∃ q : Nat, X % (L.length : Int) = (q : Int) /\ q < L.length := ⟨(X % (L.length : Int)).toNat, by have := Int.emod_nonneg X (show (L.length : Int) ≠ 0 by omega); omega, by have := Int.emod_lt_of_pos X (show (0 : Int) < (L.length : Int) by omega); have := Int.emod_nonneg X (show (L.length : Int) ≠ 0 by omega); omega⟩;rw [hq] at P1;have P2 := Hj fun w => pick_any Y 4 w y0 y1 (by decide) (by decide)
          obtain ⟨d, hd, hd4⟩ : ∃ d : Int, Y % 4 = d /\ (d = 0 \/ d = 1 \/ d = 2 \/ d = 3) := ⟨_, rfl, by omega⟩;rw [hd] at P2;have P3 := Hj fun w => words_any Z w z0 z1
          have q1 : (q : Int) <= (cap : Int) := by omega
          have q2 : q <= cap := by omega
          have q3 : (q : Int) < (L.length : Int) := by omega
          clear hq hd;go_wp2_with fail;refine (P1.out _).mono ?_;rintro e w1 ⟨rfl, rfl⟩
          go_wp2_with (at_builtin; refine wpList_append_own _ rfl _ _ 73 rfl wr.heap.size 9 i0 (.string ByteArray.empty) 1 16 underlying73 HI.out HZ0.out HZ1.out HZ2.out rfl (by decide) (.slice none 0 0) 0 [] rfl (World.ownsRow_nil _ _ _ _) ⟨g, 0, none⟩ q cap (strL (L.take q)) rfl ?c0 ?c1 ?c2 ?c3 ?c4 ?c5 ?_)
          case c0 => rw [strL_len, List.length_take]; omega
          case c1 => have := sub_cells (a := 0) (m := q) HC.out; rwa [List.drop_zero] at this
          case c2 => exact strL_one _
          case c3 => unfold maxLen; omega
          case c4 => omega
          case c5 => omega
          intro mv w4 hown hgrow _;have R4 : Hid (Rel wr w4) := Below.grown (Rel.refl wr) hgrow (by omega) (fun q hq => by simp [Value.ownBlock] at hq)
          have O4 : Hid (w4.ownsRow wr.heap.size 9 1 mv q (strL (L.take q))) := by
            show World.ownsRow _ _ _ _ _ _ _
            simpa using hown
          have HC4 := Hj fun j u h => R4.out.cell (HC.out j u h)
          have d1 := R4.out.cell c1;have d2 := R4.out.cell c2;clear hown hgrow c0 c1 c2;go_wp2_with fail;refine (P2.out _).mono ?_;rintro e w1 ⟨rfl, rfl⟩
          rcases hd4 with rfl | rfl | rfl | rfl
          · have SX := Hj (sml_take hS.out q)
            rcases (show cap = q + 1 \/ ¬ cap = q + 1 by omega) with hce | hce
            · go_wp2_with (at_builtin; refine wpList_append_own _ rfl _ _ 73 rfl wr.heap.size 9 i0 (.string ByteArray.empty) 1 16 underlying73 HI.out HZ0.out HZ1.out HZ2.out rfl (by decide) mv (q) (strL (L.take q)) rfl O4.out _ (L.length - (q + 1)) _ (strL (L.drop (q + 1))) rfl ?c0 ?c1 ?c2 ?c3 ?c4 ?c5 ?_)
              case c0 => rw [strL_len, List.length_drop]; omega
              case c1 =>
                first
                | (intro j u hu
                   have h0 : L.drop (q + 1) = [] := List.drop_of_length_le (by omega);rw [h0] at hu;simp [strL] at hu
                   done)
                | (intro j u hu
                   have := sub_cells (a := q + 1) (m := L.length - (q + 1)) (HC4.out);rw [dropN] at this
                   exact this j u hu)
              case c2 => exact strL_one _
              case c3 => unfold maxLen; omega
              case c4 => omega
              case c5 => exact R4.out.size
              intro v9 w9 hown hgrow _;have R9 : Hid (Rel w w9) := Hj (hR.out.trans (Below.grown R4.out hgrow R4.out.size (fun q hq => (O4.out.lt q hq).1)));have e9 : q + (L.length - (q + 1)) = (L.take q ++ L.drop (q + 1)).length := by simp; omega
              have O9 : Hid (w9.ownsRow w.heap.size 9 1 v9 (L.take q ++ L.drop (q + 1)).length (strL (L.take q ++ L.drop (q + 1)))) := by
                show World.ownsRow _ _ _ _ _ _ _
                rw [strL_app, <- e9];exact own_up hown (by omega)
              have S9 : Hid (Sml (L.take q ++ L.drop (q + 1))) := sml_app SX.out (sml_drop hS.out _);have l9 : (L.take q ++ L.drop (q + 1)).length <= 1000001 + (k + 1) := by rw [<- e9]; omega
              clear hown hgrow;go_wp2
              go_roundw
              case rel => exact ⟨k + 1, v9, _, rfl, by omega, by omega, by go_num, l9, S9, O9, R9⟩
              case measure => first | (simp [intOf]; done) | (simp [intOf]; omega)
            · go_wp2_with (at_builtin; refine wpList_append_own _ rfl _ _ 73 rfl wr.heap.size 9 i0 (.string ByteArray.empty) 1 16 underlying73 HI.out HZ0.out HZ1.out HZ2.out rfl (by decide) mv (q) (strL (L.take q)) rfl O4.out _ (L.length - (q + 1)) _ (strL (L.drop (q + 1))) rfl ?c0 ?c1 ?c2 ?c3 ?c4 ?c5 ?_)
              case c0 => rw [strL_len, List.length_drop]; omega
              case c1 =>
                first
                | (intro j u hu
                   have h0 : L.drop (q + 1) = [] := List.drop_of_length_le (by omega);rw [h0] at hu;simp [strL] at hu
                   done)
                | (intro j u hu
                   have := sub_cells (a := q + 1) (m := L.length - (q + 1)) (HC4.out);rw [dropN] at this
                   exact this j u hu)
              case c2 => exact strL_one _
              case c3 => unfold maxLen; omega
              case c4 => omega
              case c5 => exact R4.out.size
              intro v9 w9 hown hgrow _;have R9 : Hid (Rel w w9) := Hj (hR.out.trans (Below.grown R4.out hgrow R4.out.size (fun q hq => (O4.out.lt q hq).1)));have e9 : q + (L.length - (q + 1)) = (L.take q ++ L.drop (q + 1)).length := by simp; omega
              have O9 : Hid (w9.ownsRow w.heap.size 9 1 v9 (L.take q ++ L.drop (q + 1)).length (strL (L.take q ++ L.drop (q + 1)))) := by
                show World.ownsRow _ _ _ _ _ _ _
                rw [strL_app, <- e9];exact own_up hown (by omega)
              have S9 : Hid (Sml (L.take q ++ L.drop (q + 1))) := sml_app SX.out (sml_drop hS.out _);have l9 : (L.take q ++ L.drop (q + 1)).length <= 1000001 + (k + 1) := by rw [<- e9]; omega
              clear hown hgrow;go_wp2
              go_roundw
              case rel => exact ⟨k + 1, v9, _, rfl, by omega, by omega, by go_num, l9, S9, O9, R9⟩
              case measure => first | (simp [intOf]; done) | (simp [intOf]; omega)
          · go_wp2_with fail;refine (P3.out _).mono ?_;rintro e w5 ⟨ps, rfl, hps, h5⟩;have A5 := Hj ((R4.out.trans h5).alloc (.cells #[.string ps] 9));have Oa := Hj (own_rel O4.out (h5.trans ((Rel.refl w5).alloc (.cells #[.string ps] 9))));have s5 := R4.out.size;have s5' := h5.size;clear h5
            go_wp2_with (at_builtin; refine wpList_append_own _ rfl _ _ 73 rfl wr.heap.size 9 i0 (.string ByteArray.empty) 1 16 underlying73 HI.out HZ0.out HZ1.out HZ2.out rfl (by decide) mv q (strL (L.take q)) rfl Oa.out ⟨w5.heap.size, 0, none⟩ 1 1 [.string ps] rfl rfl ?b1 ?b2 ?b3 ?b4 ?b5 ?_)
            case b1 => exact new1c w5 (.string ps) 9
            case b2 => intro u hu; simp at hu; subst hu; rfl
            case b3 => unfold maxLen; omega
            case b4 => omega
            case b5 => exact A5.out.size
            intro mw w6 hown hgrow _;have R6 : Hid (Rel wr w6) := Hj (Below.grown A5.out hgrow A5.out.size (fun q hq => (Oa.out.lt q hq).1))
            have O6 : Hid (w6.ownsRow wr.heap.size 9 1 mw (q + 1) (strL (L.take q ++ [ps]))) := by
              show World.ownsRow _ _ _ _ _ _ _
              rw [strL_snoc];exact hown
            have HC6 := Hj fun j u h => R6.out.cell (HC.out j u h)
            have SX := Hj (sml_app (sml_take hS.out q) (sml_one (show ps.size <= 1000000 by omega)));clear hown hgrow;have hce : ¬ cap = q := by omega
            go_wp2_with (at_builtin; refine wpList_append_own _ rfl _ _ 73 rfl wr.heap.size 9 i0 (.string ByteArray.empty) 1 16 underlying73 HI.out HZ0.out HZ1.out HZ2.out rfl (by decide) mw (q + 1) (strL (L.take q ++ [ps])) rfl O6.out _ (L.length - (q)) _ (strL (L.drop (q))) rfl ?c0 ?c1 ?c2 ?c3 ?c4 ?c5 ?_)
            case c0 => rw [strL_len, List.length_drop]; omega
            case c1 =>
              first
              | (intro j u hu
                 have h0 : L.drop (q) = [] := List.drop_of_length_le (by omega);rw [h0] at hu;simp [strL] at hu
                 done)
              | (intro j u hu
                 have := sub_cells (a := q) (m := L.length - (q)) (HC6.out);rw [dropN] at this
                 exact this j u hu)
            case c2 => exact strL_one _
            case c3 => unfold maxLen; omega
            case c4 => omega
            case c5 => exact R6.out.size
            intro v9 w9 hown hgrow _;have R9 : Hid (Rel w w9) := Hj (hR.out.trans (Below.grown R6.out hgrow R6.out.size (fun q hq => (O6.out.lt q hq).1)));have e9 : q + 1 + (L.length - (q)) = (L.take q ++ [ps] ++ L.drop (q)).length := by simp; omega
            have O9 : Hid (w9.ownsRow w.heap.size 9 1 v9 (L.take q ++ [ps] ++ L.drop (q)).length (strL (L.take q ++ [ps] ++ L.drop (q)))) := by
              show World.ownsRow _ _ _ _ _ _ _
              rw [strL_app, <- e9];exact own_up hown (by omega)
            have S9 : Hid (Sml (L.take q ++ [ps] ++ L.drop (q))) := sml_app SX.out (sml_drop hS.out _);have l9 : (L.take q ++ [ps] ++ L.drop (q)).length <= 1000001 + (k + 1) := by rw [<- e9]; omega
            clear hown hgrow;go_wp2
            go_roundw
            case rel => exact ⟨k + 1, v9, _, rfl, by omega, by omega, by go_num, l9, S9, O9, R9⟩
            case measure => first | (simp [intOf]; done) | (simp [intOf]; omega)
          · go_wp2_with fail;refine (P3.out _).mono ?_;rintro e w5 ⟨ps, rfl, hps, h5⟩;have A5 := Hj ((R4.out.trans h5).alloc (.cells #[.string ps] 9));have Oa := Hj (own_rel O4.out (h5.trans ((Rel.refl w5).alloc (.cells #[.string ps] 9))));have s5 := R4.out.size;have s5' := h5.size;clear h5
            go_wp2_with (at_builtin; refine wpList_append_own _ rfl _ _ 73 rfl wr.heap.size 9 i0 (.string ByteArray.empty) 1 16 underlying73 HI.out HZ0.out HZ1.out HZ2.out rfl (by decide) mv q (strL (L.take q)) rfl Oa.out ⟨w5.heap.size, 0, none⟩ 1 1 [.string ps] rfl rfl ?b1 ?b2 ?b3 ?b4 ?b5 ?_)
            case b1 => exact new1c w5 (.string ps) 9
            case b2 => intro u hu; simp at hu; subst hu; rfl
            case b3 => unfold maxLen; omega
            case b4 => omega
            case b5 => exact A5.out.size
            intro mw w6 hown hgrow _;have R6 : Hid (Rel wr w6) := Hj (Below.grown A5.out hgrow A5.out.size (fun q hq => (Oa.out.lt q hq).1))
            have O6 : Hid (w6.ownsRow wr.heap.size 9 1 mw (q + 1) (strL (L.take q ++ [ps]))) := by
              show World.ownsRow _ _ _ _ _ _ _
              rw [strL_snoc];exact hown
            have HC6 := Hj fun j u h => R6.out.cell (HC.out j u h)
            have SX := Hj (sml_app (sml_take hS.out q) (sml_one (show ps.size <= 1000000 by omega)));clear hown hgrow
            rcases (show cap = q + 1 \/ ¬ cap = q + 1 by omega) with hce | hce
            · go_wp2_with (at_builtin; refine wpList_append_own _ rfl _ _ 73 rfl wr.heap.size 9 i0 (.string ByteArray.empty) 1 16 underlying73 HI.out HZ0.out HZ1.out HZ2.out rfl (by decide) mw (q + 1) (strL (L.take q ++ [ps])) rfl O6.out _ (L.length - (q + 1)) _ (strL (L.drop (q + 1))) rfl ?c0 ?c1 ?c2 ?c3 ?c4 ?c5 ?_)
              case c0 => rw [strL_len, List.length_drop]; omega
              case c1 =>
                first
                | (intro j u hu
                   have h0 : L.drop (q + 1) = [] := List.drop_of_length_le (by omega);rw [h0] at hu;simp [strL] at hu
                   done)
                | (intro j u hu
                   have := sub_cells (a := q + 1) (m := L.length - (q + 1)) (HC6.out);rw [dropN] at this
                   exact this j u hu)
              case c2 => exact strL_one _
              case c3 => unfold maxLen; omega
              case c4 => omega
              case c5 => exact R6.out.size
              intro v9 w9 hown hgrow _;have R9 : Hid (Rel w w9) := Hj (hR.out.trans (Below.grown R6.out hgrow R6.out.size (fun q hq => (O6.out.lt q hq).1)));have e9 : q + 1 + (L.length - (q + 1)) = (L.take q ++ [ps] ++ L.drop (q + 1)).length := by simp; omega
              have O9 : Hid (w9.ownsRow w.heap.size 9 1 v9 (L.take q ++ [ps] ++ L.drop (q + 1)).length (strL (L.take q ++ [ps] ++ L.drop (q + 1)))) := by
                show World.ownsRow _ _ _ _ _ _ _
                rw [strL_app, <- e9];exact own_up hown (by omega)
              have S9 : Hid (Sml (L.take q ++ [ps] ++ L.drop (q + 1))) := sml_app SX.out (sml_drop hS.out _);have l9 : (L.take q ++ [ps] ++ L.drop (q + 1)).length <= 1000001 + (k + 1) := by rw [<- e9]; omega
              clear hown hgrow;go_wp2
              go_roundw
              case rel => exact ⟨k + 1, v9, _, rfl, by omega, by omega, by go_num, l9, S9, O9, R9⟩
              case measure => first | (simp [intOf]; done) | (simp [intOf]; omega)
            · go_wp2_with (at_builtin; refine wpList_append_own _ rfl _ _ 73 rfl wr.heap.size 9 i0 (.string ByteArray.empty) 1 16 underlying73 HI.out HZ0.out HZ1.out HZ2.out rfl (by decide) mw (q + 1) (strL (L.take q ++ [ps])) rfl O6.out _ (L.length - (q + 1)) _ (strL (L.drop (q + 1))) rfl ?c0 ?c1 ?c2 ?c3 ?c4 ?c5 ?_)
              case c0 => rw [strL_len, List.length_drop]; omega
              case c1 =>
                first
                | (intro j u hu
                   have h0 : L.drop (q + 1) = [] := List.drop_of_length_le (by omega);rw [h0] at hu;simp [strL] at hu
                   done)
                | (intro j u hu
                   have := sub_cells (a := q + 1) (m := L.length - (q + 1)) (HC6.out);rw [dropN] at this
                   exact this j u hu)
              case c2 => exact strL_one _
              case c3 => unfold maxLen; omega
              case c4 => omega
              case c5 => exact R6.out.size
              intro v9 w9 hown hgrow _;have R9 : Hid (Rel w w9) := Hj (hR.out.trans (Below.grown R6.out hgrow R6.out.size (fun q hq => (O6.out.lt q hq).1)));have e9 : q + 1 + (L.length - (q + 1)) = (L.take q ++ [ps] ++ L.drop (q + 1)).length := by simp; omega
              have O9 : Hid (w9.ownsRow w.heap.size 9 1 v9 (L.take q ++ [ps] ++ L.drop (q + 1)).length (strL (L.take q ++ [ps] ++ L.drop (q + 1)))) := by
                show World.ownsRow _ _ _ _ _ _ _
                rw [strL_app, <- e9];exact own_up hown (by omega)
              have S9 : Hid (Sml (L.take q ++ [ps] ++ L.drop (q + 1))) := sml_app SX.out (sml_drop hS.out _);have l9 : (L.take q ++ [ps] ++ L.drop (q + 1)).length <= 1000001 + (k + 1) := by rw [<- e9]; omega
              clear hown hgrow;go_wp2
              go_roundw
              case rel => exact ⟨k + 1, v9, _, rfl, by omega, by omega, by go_num, l9, S9, O9, R9⟩
              case measure => first | (simp [intOf]; done) | (simp [intOf]; omega)
          · obtain ⟨x, hx⟩ : ∃ x, L[q] = x := ⟨_, rfl⟩;have hxs := hS.out _ (List.getElem_mem hqL);have b0 := HC.out q _ (strL_at hqL);rw [hx] at b0 hxs;have b1 := R4.out.cell b0;have B0 := Hj b0;clear b0;clear hx;go_upto_region 25 with (fail);refine wp_region_calm (fun M w' => w'.cell? ⟨g, q, none⟩ = some (.string x)) (fun _ => false) [0, 1, 2, 3, 4, 5, 6, 7, 8] 3 (by kernel_rfl) (by kernel_rfl) ?hst ?hS0 (fun w0 h0 => ?_)
            case hst => exact fun _ _ _ h r => r.cell h
            case hS0 => exact b1
            iterate 9
              refine wcg ?_;apply ei
              · intro M w hM hS;have b2 := hS;unfold calmAt;go_simp;exact ⟨rfl, Rel.refl _⟩
            refine wpCalm_nil ?_;have b3 := h0.cell b1;have R5 : Hid (Rel wr w0) := R4.out.trans h0;have O5 := Hj (own_rel O4.out h0);clear h0;refine wao 9 (fun w6 h6 K' hK' => ?_);have b4 := h6.cell b3;have R6 : Hid (Rel wr w6) := R5.out.trans h6;have O6 := Hj (own_rel O5.out h6);clear h6 b3;go_simp;refine hK'.out _ _ (((Rel.refl w6).alloc _).cell b4) ?_;clear hK' K';refine wao 10 (fun w7 h7 K' hK' => ?_);have R7 : Hid (Rel wr w7) := (R6.out.alloc _).trans h7;have O7 := Hj (own_rel O6.out (((Rel.refl w6).alloc _).trans h7));have N7 := Hj (fun j u h => h7.cell (new2s w6 (.string x) (.string x) 9 j u h));clear h7;rw [if_pos (by kernel_rfl)];refine wp_append_own w7 (.tmp 123) (.tmp 132) 73 rfl wr.heap.size 9 i0 (.string ByteArray.empty) 1 16 underlying73 HI.out HZ0.out HZ1.out HZ2.out rfl (by decide) mv q (strL (L.take q)) rfl O7.out ⟨w6.heap.size, 0, none⟩ 2 2 [.string x, .string x] rfl rfl N7.out ?a2 ?a3 ?a4 ?a5 ?_
            case a2 => intro u hu; simp at hu; rcases hu with rfl | rfl <;> rfl
            case a3 => unfold maxLen; omega
            case a4 => omega
            case a5 => exact R7.out.size
            intro mw w8 hown hgrow _;have R8 : Hid (Rel wr w8) := Hj (Below.grown R7.out hgrow R7.out.size (fun q hq => (O7.out.lt q hq).1))
            have O8 : Hid (w8.ownsRow wr.heap.size 9 1 mw (q + 2) (strL (L.take q ++ [x, x]))) := by
              show World.ownsRow _ _ _ _ _ _ _
              rw [strL_app];exact hown
            clear hown hgrow;refine hK'.out _ _ (R8.out.cell B0.out) ?_;clear hK' K';refine wao 11 (fun w9 h9 K' hK' => ?_);have R9' : Hid (Rel wr w9) := R8.out.trans h9;have O9' := Hj (own_rel O8.out h9);clear h9;go_simp;refine hK'.out _ _ (R9'.out.cell B0.out) ?_;clear hK' K';refine wpAnyR_end (by kernel_rfl) (fun w10 h10 => ?_);have RX : Hid (Rel wr w10) := R9'.out.trans h10;have OX := Hj (own_rel O9'.out h10);have HCX := Hj fun j u h => RX.out.cell (HC.out j u h)
            have SX := Hj (sml_app (sml_take hS.out q) (sml_two hxs));clear h10
            rcases (show cap = q + 1 \/ ¬ cap = q + 1 by omega) with hce | hce
            · go_wp2_with (at_builtin; refine wpList_append_own _ rfl _ _ 73 rfl wr.heap.size 9 i0 (.string ByteArray.empty) 1 16 underlying73 HI.out HZ0.out HZ1.out HZ2.out rfl (by decide) mw (q + 2) (strL (L.take q ++ [x, x])) rfl OX.out _ (L.length - (q + 1)) _ (strL (L.drop (q + 1))) rfl ?c0 ?c1 ?c2 ?c3 ?c4 ?c5 ?_)
              case c0 => rw [strL_len, List.length_drop]; omega
              case c1 =>
                first
                | (intro j u hu
                   have h0 : L.drop (q + 1) = [] := List.drop_of_length_le (by omega);rw [h0] at hu;simp [strL] at hu
                   done)
                | (intro j u hu
                   have := sub_cells (a := q + 1) (m := L.length - (q + 1)) (HCX.out);rw [dropN] at this
                   exact this j u hu)
              case c2 => exact strL_one _
              case c3 => unfold maxLen; omega
              case c4 => omega
              case c5 => exact RX.out.size
              intro v9 w9 hown hgrow _;have R9 : Hid (Rel w w9) := Hj (hR.out.trans (Below.grown RX.out hgrow RX.out.size (fun q hq => (OX.out.lt q hq).1)));have e9 : q + 2 + (L.length - (q + 1)) = (L.take q ++ [x, x] ++ L.drop (q + 1)).length := by simp; omega
              have O9 : Hid (w9.ownsRow w.heap.size 9 1 v9 (L.take q ++ [x, x] ++ L.drop (q + 1)).length (strL (L.take q ++ [x, x] ++ L.drop (q + 1)))) := by
                show World.ownsRow _ _ _ _ _ _ _
                rw [strL_app, <- e9];exact own_up hown (by omega)
              have S9 : Hid (Sml (L.take q ++ [x, x] ++ L.drop (q + 1))) := sml_app SX.out (sml_drop hS.out _);have l9 : (L.take q ++ [x, x] ++ L.drop (q + 1)).length <= 1000001 + (k + 1) := by rw [<- e9]; omega
              clear hown hgrow;go_wp2
              go_roundw
              case rel => exact ⟨k + 1, v9, _, rfl, by omega, by omega, by go_num, l9, S9, O9, R9⟩
              case measure => first | (simp [intOf]; done) | (simp [intOf]; omega)
            · go_wp2_with (at_builtin; refine wpList_append_own _ rfl _ _ 73 rfl wr.heap.size 9 i0 (.string ByteArray.empty) 1 16 underlying73 HI.out HZ0.out HZ1.out HZ2.out rfl (by decide) mw (q + 2) (strL (L.take q ++ [x, x])) rfl OX.out _ (L.length - (q + 1)) _ (strL (L.drop (q + 1))) rfl ?c0 ?c1 ?c2 ?c3 ?c4 ?c5 ?_)
              case c0 => rw [strL_len, List.length_drop]; omega
              case c1 =>
                first
                | (intro j u hu
                   have h0 : L.drop (q + 1) = [] := List.drop_of_length_le (by omega);rw [h0] at hu;simp [strL] at hu
                   done)
                | (intro j u hu
                   have := sub_cells (a := q + 1) (m := L.length - (q + 1)) (HCX.out);rw [dropN] at this
                   exact this j u hu)
              case c2 => exact strL_one _
              case c3 => unfold maxLen; omega
              case c4 => omega
              case c5 => exact RX.out.size
              intro v9 w9 hown hgrow _;have R9 : Hid (Rel w w9) := Hj (hR.out.trans (Below.grown RX.out hgrow RX.out.size (fun q hq => (OX.out.lt q hq).1)));have e9 : q + 2 + (L.length - (q + 1)) = (L.take q ++ [x, x] ++ L.drop (q + 1)).length := by simp; omega
              have O9 : Hid (w9.ownsRow w.heap.size 9 1 v9 (L.take q ++ [x, x] ++ L.drop (q + 1)).length (strL (L.take q ++ [x, x] ++ L.drop (q + 1)))) := by
                show World.ownsRow _ _ _ _ _ _ _
                rw [strL_app, <- e9];exact own_up hown (by omega)
              have S9 : Hid (Sml (L.take q ++ [x, x] ++ L.drop (q + 1))) := sml_app SX.out (sml_drop hS.out _);have l9 : (L.take q ++ [x, x] ++ L.drop (q + 1)).length <= 1000001 + (k + 1) := by rw [<- e9]; omega
              clear hown hgrow;go_wp2
              go_roundw
              case rel => exact ⟨k + 1, v9, _, rfl, by omega, by omega, by go_num, l9, S9, O9, R9⟩
              case measure => first | (simp [intOf]; done) | (simp [intOf]; omega)
        · have hways : (¬ (k : Int) < (n : Int)) \/ ((k : Int) < (n : Int) /\ ¬ (k : Int) < 3) \/ ((k : Int) < (n : Int) /\ (k : Int) < 3 /\ ¬ (0 : Int) < (L.length : Int)) := by omega
          rcases hways with e1' | ⟨e1', e2'⟩ | ⟨e1', e2', e3'⟩
          · have e1 : decide ((k : Int) < (n : Int)) = false := decide_eq_false e1';go_wp2_with fail
            go_loopw [11, 12] (fun o i wx => ∃ (j : Nat) (t : ByteArray), j <= L.length /\ i = .int .i64 j /\ o = .string t /\ t.size <= 1000001 * j /\ wx = wr) (fun _ i _ => L.length - (intOf i).toNat)
            case atStart => exact ⟨0, ⟨#[]⟩, by omega, rfl, rfl, by decide, rfl⟩
            case round =>
              obtain ⟨j, t, hj, rfl, rfl, ht, rfl⟩ := hrel;by_cases hjl : j < L.length
              · obtain ⟨g, rfl, hg0, hg, hnc, hcm, hc⟩ := hp (by omega);have c0 := hc j _ (strL_at hjl);have z0 := hS.out _ (List.getElem_mem hjl);obtain ⟨ps, hps⟩ : ∃ ps, L[j] = ps := ⟨_, rfl⟩;rw [hps] at c0 z0;have ji : (j : Int) < (L.length : Int) := by omega
                have j1 : decide ((j : Int) < (L.length : Int)) = true := dT (by omega);have f1 : ¬ 9223372036854775807 < ps.size + 1 := by omega
                have f2 : ¬ 9223372036854775807 < t.size + (ps.size + 1) := by omega
                clear hc hps hp;go_wp2
                go_roundw
                case rel => exact ⟨j + 1, t ++ (ps ++ ⟨#[32]⟩), by omega, by go_num, rfl, (by rw [ByteArray.size_append, ByteArray.size_append]; show _ + (_ + 1) <= _; omega), by first | rfl | trivial⟩
                case measure => simp [intOf]; omega
              · have ji : ¬ (j : Int) < (L.length : Int) := by omega
                have j1 : decide ((j : Int) < (L.length : Int)) = false := dF (by omega);go_wp2;go_ret;exact ⟨t, rfl, by omega, hR.out⟩
          · have e1 : decide ((k : Int) < (n : Int)) = true := decide_eq_true e1';have e2 : decide ((k : Int) < 3) = false := decide_eq_false e2';go_wp2_with fail
            go_loopw [11, 12] (fun o i wx => ∃ (j : Nat) (t : ByteArray), j <= L.length /\ i = .int .i64 j /\ o = .string t /\ t.size <= 1000001 * j /\ wx = wr) (fun _ i _ => L.length - (intOf i).toNat)
            case atStart => exact ⟨0, ⟨#[]⟩, by omega, rfl, rfl, by decide, rfl⟩
            case round =>
              obtain ⟨j, t, hj, rfl, rfl, ht, rfl⟩ := hrel;by_cases hjl : j < L.length
              · obtain ⟨g, rfl, hg0, hg, hnc, hcm, hc⟩ := hp (by omega);have c0 := hc j _ (strL_at hjl);have z0 := hS.out _ (List.getElem_mem hjl);obtain ⟨ps, hps⟩ : ∃ ps, L[j] = ps := ⟨_, rfl⟩;rw [hps] at c0 z0;have ji : (j : Int) < (L.length : Int) := by omega
                have j1 : decide ((j : Int) < (L.length : Int)) = true := dT (by omega);have f1 : ¬ 9223372036854775807 < ps.size + 1 := by omega
                have f2 : ¬ 9223372036854775807 < t.size + (ps.size + 1) := by omega
                clear hc hps hp;go_wp2
                go_roundw
                case rel => exact ⟨j + 1, t ++ (ps ++ ⟨#[32]⟩), by omega, by go_num, rfl, (by rw [ByteArray.size_append, ByteArray.size_append]; show _ + (_ + 1) <= _; omega), by first | rfl | trivial⟩
                case measure => simp [intOf]; omega
              · have ji : ¬ (j : Int) < (L.length : Int) := by omega
                have j1 : decide ((j : Int) < (L.length : Int)) = false := dF (by omega);go_wp2;go_ret;exact ⟨t, rfl, by omega, hR.out⟩
          · have e1 : decide ((k : Int) < (n : Int)) = true := decide_eq_true e1';have e2 : decide ((k : Int) < 3) = true := decide_eq_true e2';have e3 : decide ((0 : Int) < (L.length : Int)) = false := decide_eq_false e3';go_wp2_with fail
            go_loopw [11, 12] (fun o i wx => ∃ (j : Nat) (t : ByteArray), j <= L.length /\ i = .int .i64 j /\ o = .string t /\ t.size <= 1000001 * j /\ wx = wr) (fun _ i _ => L.length - (intOf i).toNat)
            case atStart => exact ⟨0, ⟨#[]⟩, by omega, rfl, rfl, by decide, rfl⟩
            case round =>
              obtain ⟨j, t, hj, rfl, rfl, ht, rfl⟩ := hrel;by_cases hjl : j < L.length
              · obtain ⟨g, rfl, hg0, hg, hnc, hcm, hc⟩ := hp (by omega);have c0 := hc j _ (strL_at hjl);have z0 := hS.out _ (List.getElem_mem hjl);obtain ⟨ps, hps⟩ : ∃ ps, L[j] = ps := ⟨_, rfl⟩;rw [hps] at c0 z0;have ji : (j : Int) < (L.length : Int) := by omega
                have j1 : decide ((j : Int) < (L.length : Int)) = true := dT (by omega);have f1 : ¬ 9223372036854775807 < ps.size + 1 := by omega
                have f2 : ¬ 9223372036854775807 < t.size + (ps.size + 1) := by omega
                clear hc hps hp;go_wp2
                go_roundw
                case rel => exact ⟨j + 1, t ++ (ps ++ ⟨#[32]⟩), by omega, by go_num, rfl, (by rw [ByteArray.size_append, ByteArray.size_append]; show _ + (_ + 1) <= _; omega), by first | rfl | trivial⟩
                case measure => simp [intOf]; omega
              · have ji : ¬ (j : Int) < (L.length : Int) := by omega
                have j1 : decide ((j : Int) < (L.length : Int)) = false := dF (by omega);go_wp2;go_ret;exact ⟨t, rfl, by omega, hR.out⟩
    · have e0 : decide ((k : Int) <= (s.size : Int)) = true := dT (by omega);have O1 := Hj fun o => own_rel hO.out ((Rel.refl wr).alloc o)
      by_cases hke : k = s.size
      · subst hke;have eq1 : ((s.size : Int) == (s.size : Int)) = true := by rw [beq_iff_eq]
        by_cases hfk : fr < s.size
        · have e3 : decide ((fr : Int) < (s.size : Int)) = true := dT (by omega)
          go_wp2_with (at_builtin; refine wpList_append_own _ rfl _ _ 73 rfl w.heap.size 9 i0 (.string ByteArray.empty) 1 16 underlying73 HI.out HZ0.out HZ1.out HZ2.out rfl (by decide) vv L.length (strL L) rfl (O1.out _) ⟨wr.heap.size, 0, none⟩ 1 1 ([.string (s.extract fr s.size)]) rfl ?c0 ?c1 ?c2 ?c3 ?c4 ?c5 ?_)
          case c0 => rfl
          case c1 => exact new1c wr (.string (s.extract fr s.size)) 9
          case c2 => intro u hu; simp at hu; subst hu; rfl
          case c3 => unfold maxLen; omega
          case c4 => omega
          case c5 => simp; omega
          intro v' w4 hown' hgrow _
          have R4 : Hid (Rel w w4) := by
            show Rel _ w4
            exact Below.grown (hR.out.alloc _) hgrow (by simp; omega) (fun q hq => (hO.out.lt q hq).1)
          have S4 : Hid (Sml (L ++ [s.extract fr s.size])) := sml_app hS.out (sml_one (by rw [ByteArray.size_extract]; omega))
          have O4 : Hid (w4.ownsRow w.heap.size 9 1 v' (L ++ [s.extract fr s.size]).length (strL (L ++ [s.extract fr s.size]))) := by
            show World.ownsRow _ _ _ _ _ _ _
            rw [strL_snoc, List.length_append]; exact hown'
          clear hown' hgrow;go_wp2
          go_roundw
          case rel => exact ⟨s.size + 1, s.size + 1, v', L ++ [s.extract fr s.size], rfl, by omega, by omega, by go_num, by go_num, (by rw [List.length_append]; show L.length + 1 <= _; omega), S4, O4, R4⟩
          case measure => first | (simp [intOf]; done) | (simp [intOf]; omega)
        · have e3 : decide ((fr : Int) < (s.size : Int)) = false := dF (by omega);go_wp2
          go_roundw
          case rel => exact ⟨s.size + 1, s.size + 1, vv, L, rfl, by omega, by omega, by go_num, by go_num, by omega, hS, hO, hR⟩
          case measure => first | (simp [intOf]; done) | (simp [intOf]; omega)
      · have eq1 : ((k : Int) == (s.size : Int)) = false := by rw [zn]; omega
        have hlt : k < s.size := by omega
        have ki : (k : Int) < (s.size : Int) := by omega
        obtain ⟨c, hc⟩ : ∃ c : UInt8, s[k] = c := ⟨_, rfl⟩;by_cases h32 : (c.toNat : Int) = 32
        · have e32 : ((s[k].toNat : Int) == 32) = true := by rw [hc, beq_iff_eq]; exact h32
          clear hc;by_cases hfk : fr < k
          · have e3 : decide ((fr : Int) < (k : Int)) = true := dT (by omega)
            go_wp2_with (at_builtin; refine wpList_append_own _ rfl _ _ 73 rfl w.heap.size 9 i0 (.string ByteArray.empty) 1 16 underlying73 HI.out HZ0.out HZ1.out HZ2.out rfl (by decide) vv L.length (strL L) rfl (O1.out _) ⟨wr.heap.size, 0, none⟩ 1 1 ([.string (s.extract fr k)]) rfl ?c0 ?c1 ?c2 ?c3 ?c4 ?c5 ?_)
            case c0 => rfl
            case c1 => exact new1c wr (.string (s.extract fr k)) 9
            case c2 => intro u hu; simp at hu; subst hu; rfl
            case c3 => unfold maxLen; omega
            case c4 => omega
            case c5 => simp; omega
            intro v' w4 hown' hgrow _
            have R4 : Hid (Rel w w4) := by
              show Rel _ w4
              exact Below.grown (hR.out.alloc _) hgrow (by simp; omega) (fun q hq => (hO.out.lt q hq).1)
            have S4 : Hid (Sml (L ++ [s.extract fr k])) := sml_app hS.out (sml_one (by rw [ByteArray.size_extract]; omega))
            have O4 : Hid (w4.ownsRow w.heap.size 9 1 v' (L ++ [s.extract fr k]).length (strL (L ++ [s.extract fr k]))) := by
              show World.ownsRow _ _ _ _ _ _ _
              rw [strL_snoc, List.length_append]; exact hown'
            clear hown' hgrow;go_wp2
            go_roundw
            case rel => exact ⟨k + 1, k + 1, v', L ++ [s.extract fr k], rfl, by omega, by omega, by go_num, by go_num, (by rw [List.length_append]; show L.length + 1 <= _; omega), S4, O4, R4⟩
            case measure => first | (simp [intOf]; done) | (simp [intOf]; omega)
          · have e3 : decide ((fr : Int) < (k : Int)) = false := dF (by omega);go_wp2
            go_roundw
            case rel => exact ⟨k + 1, k + 1, vv, L, rfl, by omega, by omega, by go_num, by go_num, by omega, hS, hO, hR⟩
            case measure => first | (simp [intOf]; done) | (simp [intOf]; omega)
        · have e32 : ((s[k].toNat : Int) == 32) = false := by rw [hc, beq_eq_false_iff_ne]; exact h32
          by_cases h10 : (c.toNat : Int) = 10
          · have e10 : ((s[k].toNat : Int) == 10) = true := by rw [hc, beq_iff_eq]; exact h10
            clear hc;by_cases hfk : fr < k
            · have e3 : decide ((fr : Int) < (k : Int)) = true := dT (by omega)
              go_wp2_with (at_builtin; refine wpList_append_own _ rfl _ _ 73 rfl w.heap.size 9 i0 (.string ByteArray.empty) 1 16 underlying73 HI.out HZ0.out HZ1.out HZ2.out rfl (by decide) vv L.length (strL L) rfl (O1.out _) ⟨wr.heap.size, 0, none⟩ 1 1 ([.string (s.extract fr k)]) rfl ?c0 ?c1 ?c2 ?c3 ?c4 ?c5 ?_)
              case c0 => rfl
              case c1 => exact new1c wr (.string (s.extract fr k)) 9
              case c2 => intro u hu; simp at hu; subst hu; rfl
              case c3 => unfold maxLen; omega
              case c4 => omega
              case c5 => simp; omega
              intro v' w4 hown' hgrow _
              have R4 : Hid (Rel w w4) := by
                show Rel _ w4
                exact Below.grown (hR.out.alloc _) hgrow (by simp; omega) (fun q hq => (hO.out.lt q hq).1)
              have S4 : Hid (Sml (L ++ [s.extract fr k])) := sml_app hS.out (sml_one (by rw [ByteArray.size_extract]; omega))
              have O4 : Hid (w4.ownsRow w.heap.size 9 1 v' (L ++ [s.extract fr k]).length (strL (L ++ [s.extract fr k]))) := by
                show World.ownsRow _ _ _ _ _ _ _
                rw [strL_snoc, List.length_append]; exact hown'
              clear hown' hgrow;go_wp2
              go_roundw
              case rel => exact ⟨k + 1, k + 1, v', L ++ [s.extract fr k], rfl, by omega, by omega, by go_num, by go_num, (by rw [List.length_append]; show L.length + 1 <= _; omega), S4, O4, R4⟩
              case measure => first | (simp [intOf]; done) | (simp [intOf]; omega)
            · have e3 : decide ((fr : Int) < (k : Int)) = false := dF (by omega);go_wp2
              go_roundw
              case rel => exact ⟨k + 1, k + 1, vv, L, rfl, by omega, by omega, by go_num, by go_num, by omega, hS, hO, hR⟩
              case measure => first | (simp [intOf]; done) | (simp [intOf]; omega)
          · have e10 : ((s[k].toNat : Int) == 10) = false := by rw [hc, beq_eq_false_iff_ne]; exact h10
            clear hc;go_wp2
            go_roundw
            case rel => exact ⟨k + 1, fr, vv, L, rfl, by omega, by omega, by go_num, by go_num, by omega, hS, hO, hR⟩
            case measure => first | (simp [intOf]; done) | (simp [intOf]; omega)
end Go.Proofs.YthmlhheceihcbaaGreatDoor
namespace Go.Proofs.YthmlhheceihcbaaGreatDoor
set_option maxHeartbeats 16000000
namespace Edt
open Go.ChangeShapes Go.WideShapes Go.ChangeAt Go.RowKit Go.Deep
set_option linter.unusedVariables false
section
variable {H : Type} {enc : TypeId × Value -> H} {w : World} {base : Nat} {spare : Nat -> Bool} {held : Bool}
def Light (P : Program) (t : TypeId) (d : DataW H) : Prop := ∀ n ∈ d.weights P t, n <= reachBytes
theorem light_all {P : Program} {e : TypeId} {l : List (DataW H)} {d : DataW H} (hd : d ∈ l) {n : Nat} (hn : n ∈ d.weights P e) : n ∈ DataW.weightsAll P e l := by
 induction l with
 | nil => cases hd
 | cons x l ih =>
  simp only [DataW.weightsAll, List.mem_append]
  rcases List.mem_cons.1 hd with rfl | h
  ·exact .inl hn
  ·exact .inr (ih h)
theorem light_slice {P : Program} {t e : TypeId} {l r : List (DataW H)} (h : Light P t (.slice l r)) (hu : P.underlying t = some (.slice e)) : (l.length + r.length) * P.bytesOf e <= reachBytes /\ ∀ d ∈ l, Light P e d := by
 have hw : (DataW.slice l r).weights P t = (l.length + r.length) * P.bytesOf e :: (DataW.weightsAll P e l ++ DataW.weightsAll P e r) := by
  simp only [DataW.weights, hu]
 unfold Light at h;rw [hw] at h;exact ⟨h _ (List.mem_cons_self ..), fun d hd n hn => h n (List.mem_cons_of_mem _ (List.mem_append_left _ (light_all hd hn)))⟩
theorem light_field {P : Program} {t : TypeId} {fs : Array Field} {l : List (DataW H)} (h : Light P t (.agg l)) (hu : P.underlying t = some (.struct fs)) {j : Nat} {f : Field} {d : DataW H} (hf : fs[j]? = some f) (hd : l[j]? = some d) : Light P f.type d := by
 have hw : (DataW.agg l).weights P t = DataW.weightsEach P (fs.toList.map (·.type)) l := by
  simp only [DataW.weights, hu]
 unfold Light at h;rw [hw] at h;exact fun n hn => h n (DataW.weights_mem_each (j := j) (t := f.type) (by simp [hf]) hd n hn)
theorem light_each {P : Program} {ts : List TypeId} {ds : List (DataW H)} (h : (DataW.weightsEach P ts ds).all (· <= reachBytes) = true) {j : Nat} {t : TypeId} {d : DataW H} (ht : ts[j]? = some t) (hd : ds[j]? = some d) : Light P t d := fun n hn => by
 simpa using List.all_eq_true.1 h n (DataW.weights_mem_each ht hd n hn)
theorem slice_fields {P : Program} {t e : TypeId} {fs : Array Field} {fuel : Nat} {cs : List Value} {x : DataW H × List MemPlace} (ht : P.underlying t = some (.slice e)) (he : P.underlying e = some (.struct fs))
  (hone : oneCellFields P fs = true) (hC : P.cellsOf e = fs.size) (h : DataW.trod enc P w base spare held fuel t cs = some x) :
  (cs = [.slice none 0 0] /\ x = (.nil, [])) \/
  ∃ (a : Addr) (len cap m : Nat) (D : Nat -> DataW H) (Pl : Nat -> List MemPlace), cs = [.slice (some a) len cap] /\ base <= a.block /\ len <= cap /\ cap <= maxLen /\ m = (if spare a.block then cap else len) /\
   x = (.slice ((List.range len).map D) ((List.range (m - len)).map fun j => D (len + j)), MemPlace.row a (m * fs.size) ++ (List.range m).flatMap Pl) /\
   ∀ i, i < m -> ∃ (ys : List (DataW H × List MemPlace)) (n : Nat), D i = .agg (ys.map (·.1)) /\ Pl i = ys.flatMap (·.2) /\ ys.length = fs.size /\
    ∀ (j : Nat) (f : Field), fs[j]? = some f -> ∃ (v : Value) (y : DataW H × List MemPlace), w.cell? (a.add (i * fs.size + j)) = some v /\ ys[j]? = some y /\ DataW.trod enc P w base spare held n f.type [v] = some y := by
 rcases open_slice ht h with h0 | ⟨a, len, cap, m, n, D, Pl, hcs, hb, hl, hm, hmm, hx, hi⟩
 ·exact .inl h0
 ·refine .inr ⟨a, len, cap, m, D, Pl, hcs, hb, hl, hm, hmm, by rw [hC] at hx; exact hx, fun i him => ?_⟩;obtain ⟨cs', hc, ht'⟩ := hi i him;rw [hC] at hc;obtain ⟨ys, n', hn', hy, hlen, hyl, hf⟩ := DataW.trod_struct he ht';obtain ⟨_, hcl, hat⟩ := World.cells?_some hc;simp only [Prod.mk.injEq] at hy;refine ⟨ys, n', hy.1, hy.2, hyl, fun j f hj => ?_⟩;obtain ⟨ho, hk⟩ := hone_of hone j f hj;have hjl : j < fs.size := (Array.getElem?_eq_some_iff.1 hj).1;have hcell := hat j hjl;have hv : cs'[j]? = some (cs'[j]'(by omega)) := List.getElem?_eq_getElem (by omega);have h1 := hf j f hj;rw [ho, hk] at h1
  have hone' : (cs'.drop j).take 1 = [cs'[j]'(by omega)] := by
   rw [List.drop_eq_getElem_cons (by omega)];rfl
  rw [hone'] at h1;have hys : ys[j]? = some (ys[j]'(by omega)) := List.getElem?_eq_getElem (by omega);refine ⟨_, _, ?_, hys, h1.trans hys⟩;rw [<- Go.Deep.add_add, hcell, hv]
theorem plain_addr {w : World} {a : Addr} {v : Value} (h : w.cell? (a.add 0) = some v) : a = ⟨a.block, a.off, none⟩ /\ a.block < w.heap.size := by
 obtain ⟨b, off, spot⟩ := a;have hspot : spot = none := by simpa [Addr.add] using World.cell?_spot h
 subst hspot;rw [add_plain] at h;exact ⟨rfl, World.block_lt_of_cell? w ⟨b, off + 0, none⟩ h⟩
def EditsIn (w : World) (v : Value) (n : Nat) (x y z : Nat -> Int) : Prop := ∃ (ad : Option Addr) (cap : Nat), v = .slice ad n cap /\ n <= 17592186044416 /\ EditsAt w n x y z ad
theorem open_edits {fuel : Nat} {cs : List Value} {x : DataW H × List MemPlace} (h : DataW.trod enc Tryz.prog w base spare held fuel 23 cs = some x) (hl : Light Tryz.prog 23 x.1) :
  ∃ (v : Value) (n : Nat) (p q r : Nat -> Int), cs = [v] /\ EditsIn w v n p q r := by
 rcases slice_fields Tryz.underlying23 Tryz.underlying75 (by kernel_rfl) (by kernel_rfl) h with ⟨rfl, rfl⟩ | ⟨a, len, cap, m, D, Pl, rfl, hb, hlc, hcm, hm, rfl, hi⟩
 ·exact ⟨_, 0, fun _ => 0, fun _ => 0, fun _ => 0, rfl, none, 0, rfl, by omega, fun h => by omega⟩
 ·have hlm : len <= m := by rw [hm]; split <;> omega
  obtain ⟨hz, hd⟩ := light_slice hl Tryz.underlying23;have hby : Tryz.prog.bytesOf 75 = 24 := by kernel_rfl
  rw [hby] at hz;simp only [List.length_map, List.length_range, reachBytes] at hz
  have key : ∀ i, ∃ p : Int × Int × Int, i < len -> w.cell? (a.add (i * 3)) = some (.int .i64 p.1) /\ w.cell? (a.add (i * 3 + 1)) = some (.int .i64 p.2.1) /\ w.cell? (a.add (i * 3 + 2)) = some (.int .i64 p.2.2) /\
    (-9223372036854775808 <= p.1 /\ p.1 <= 9223372036854775807) /\ (-9223372036854775808 <= p.2.1 /\ p.2.1 <= 9223372036854775807) /\ (-9223372036854775808 <= p.2.2 /\ p.2.2 <= 9223372036854775807) := by
   intro i;by_cases hlt : i < len
   ·obtain ⟨ys, n, hD, -, -, hf⟩ := hi i (by omega);obtain ⟨v0, y0, hc0, hy0, ht0⟩ := hf 0 _ rfl;obtain ⟨v1, y1, hc1, hy1, ht1⟩ := hf 1 _ rfl;obtain ⟨v2, y2, hc2, hy2, ht2⟩ := hf 2 _ rfl;obtain ⟨z0, e0, rfl, hw0⟩ := DataW.trod_int Tryz.underlying3 ht0;obtain ⟨z1, e1, rfl, hw1⟩ := DataW.trod_int Tryz.underlying3 ht1;obtain ⟨z2, e2, rfl, hw2⟩ := DataW.trod_int Tryz.underlying3 ht2;simp only [List.cons.injEq, and_true] at e0 e1 e2;subst e0 e1 e2;exact ⟨(z0, z1, z2), fun _ => ⟨hc0, hc1, hc2, bounds_i64 hw0, bounds_i64 hw1, bounds_i64 hw2⟩⟩
   ·exact ⟨(0, 0, 0), fun h => absurd h hlt⟩
  obtain ⟨f, hf⟩ := Classical.axiomOfChoice key;refine ⟨_, len, fun i => (f i).1, fun i => (f i).2.1, fun i => (f i).2.2, rfl, some a, cap, rfl, by omega, fun h0 => ?_⟩;obtain ⟨ha, hlt⟩ := plain_addr (show w.cell? (a.add 0) = _ from (hf 0 h0).1);refine ⟨a.block, a.off, by rw [<- ha], hlt, fun i hi => ?_⟩;obtain ⟨h1, h2, h3, h4⟩ := hf i hi;rw [ha, add_plain] at h1 h2 h3;exact ⟨h1, h2, h3, h4⟩
end
end Edt
end Go.Proofs.YthmlhheceihcbaaGreatDoor

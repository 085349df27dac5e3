/- Bundle of texts: each says at its head what it proves; no conditions but those printed. -/
import Derived.Test.YtlmclkaighlfaaaDoorMB24
import Derived.Test.YtlmclkaighlfaaaDoorMB23
import Derived.Test.YtlmclkaighlfaaaDoorMB14
import Derived.Test.YtlmclkaighlfaaaDoorMB0
namespace Go.Proofs.YtlmclkaighlfaaaDoor
set_option maxHeartbeats 16000000
open Go.RowKit Cal Str Tok Frac Txt Tree
attribute [local go_sem] calmUpon
set_option linter.unusedVariables false
set_option linter.unusedSimpArgs false
theorem app_data {S : ByteArray} {L M : List UInt8} {x : ByteArray} (h : S.data.toList = L) (hx : x.data.toList = M) : (S ++ x).data.toList = L ++ M := by
 rw [ByteArray.data_append, Array.toList_append, h, hx]
set_option maxRecDepth 20000 in
theorem walk_StatuteLimits (w : World) (ht : TabW w) (a0 : Int) (a1 : Int) (b0 : -9223372036854775808 ≤ a0) (c0 : a0 ≤ 9223372036854775807) (b1 : -9223372036854775808 ≤ a1) (c1 : a1 ≤ 9223372036854775807) :
  Calls Tryd.prog 3 #[.int .i64 a0, .int .i64 a1] w (BRes true w) := by
 unfold BRes;have HT := Hj ht;clear ht;have P0 := Hj fun w' => pick_any a0 8 w' b0 c0 (by decide) (by decide)
 have P1 := Hj fun w' => pick_any a1 13 w' b1 c1 (by decide) (by decide)
 obtain ⟨c, hc, hc0, hc8⟩ : ∃ z, a0 % 8 = z ∧ 0 ≤ z ∧ z < 8 := ⟨_, rfl, by omega, by omega⟩;obtain ⟨d, hd, hd0, hd13⟩ : ∃ z, a1 % 13 = z ∧ 0 ≤ z ∧ z < 13 := ⟨_, rfl, by omega, by omega⟩;rw [hc] at P0;rw [hd] at P1;obtain ⟨l, rfl⟩ : ∃ l : Nat, d = l := ⟨d.toNat, by omega⟩;obtain ⟨v, hv⟩ : ∃ v : Nat, c + 1 = v := ⟨(c + 1).toNat, by omega⟩;have wc : IntKind.i64.wrap (c + 1) = (v : Int) := by rw [IntWalk.i64_in _ ⟨by omega, by omega⟩, hv]
 have hv1 : 1 ≤ v := by omega
 have hv8 : v ≤ 8 := by omega
 have hl12 : l ≤ 12 := by omega
 have LP := Hj fun S => lim_parse v l hv1 hv8 hl12 S
 clear hc hd hv hc0 hc8 hd0 hd13 b0 c0 b1 c1;go_enter Tryd.func3, Tryd.ntmps3;go_wp2_with fail;refine (P0.out _).mono ?_;rintro e w1 ⟨rfl, rfl⟩;go_wp2_with fail;refine (P1.out _).mono ?_;rintro e w1 ⟨rfl, rfl⟩;go_wp2_with fail
 go_loopw [5, 6] (fun s i wx => ∃ (k : Nat) (S : ByteArray), k ≤ v ∧ s = .string S ∧ i = .int .i64 k ∧ S.size ≤ 24 + k * 200 ∧ Hid (S.data.toList = limH ++ repL (limV l) k) ∧ Hid (Rel w wx)) (fun _ i _ => v - (intOf i).toNat)
 case atStart => exact ⟨0, ⟨limH.toArray⟩, by omega, rfl, rfl, by decide, by show _ = _; rw [mk_list]; simp [repL], Rel.refl _⟩
 case round =>
  obtain ⟨k, S, hk, rfl, rfl, hSz, hS, hR⟩ := hrel;by_cases hlt : k < v
  ·have e1 : decide ((k : Int) < (v : Int)) = true := dT (by omega);have f1 : ¬ 9223372036854775807 < S.size + 33 := by omega
   go_wp2_with fail
   go_loopw [5, 7] (fun s i wx => ∃ (j : Nat) (T : ByteArray), j ≤ l ∧ s = .string T ∧ i = .int .i64 j ∧ T.size ≤ 24 + k * 200 + 33 + j * 11 ∧ Hid (T.data.toList = (limH ++ repL (limV l) k) ++ (limF ++ repL limX j)) ∧ Hid (Rel w wx)) (fun _ i _ => l - (intOf i).toNat)
   case atStart => exact ⟨0, S ++ ⟨limF.toArray⟩, by omega, rfl, rfl, by rw [ByteArray.size_append]; show _ + 33 ≤ _; omega, by show _ = _; rw [app_data hS.out (mk_list limF)]; simp [repL], hR⟩
   case round =>
    obtain ⟨j, T, hj, rfl, rfl, hTz, hT, hR'⟩ := hrel;by_cases hlt' : j < l
    ·have e2 : decide ((j : Int) < (l : Int)) = true := dT (by omega);have f2 : ¬ 9223372036854775807 < T.size + 11 := by omega
     go_wp2
     go_roundw
     case rel => exact ⟨j + 1, T ++ ⟨limX.toArray⟩, by omega, rfl, by go_num, by rw [ByteArray.size_append]; show _ + 11 ≤ _; omega, by show _ = _; rw [app_data hT.out (mk_list limX)]; simp only [repL, List.append_assoc], hR'⟩
     case measure => simp [intOf]; omega
    ·obtain rfl : j = l := by omega
     have e2 : decide ((j : Int) < (j : Int)) = false := dF (by omega);have f2 : ¬ 9223372036854775807 < T.size + 2 := by omega
     go_wp2
     go_roundw
     case rel => exact ⟨k + 1, T ++ ⟨limE.toArray⟩, by omega, rfl, by go_num, by rw [ByteArray.size_append]; show _ + 2 ≤ _; omega, by show _ = _; rw [app_data hT.out (mk_list limE)]; simp only [repL, limV, List.append_assoc], hR'⟩
     case measure => simp [intOf]; omega
  ·obtain rfl : k = v := by omega
   have e1 : decide ((k : Int) < (k : Int)) = false := dF (by omega);have f1 : ¬ 9223372036854775807 < S.size + 2 := by omega
   have hUz : (S ++ (⟨#[32, 125]⟩ : ByteArray)).size ≤ 140737488355328 := by rw [ByteArray.size_append]; show _ + 2 ≤ _; omega
   have LU := Hj (LP.out (S ++ (⟨#[32, 125]⟩ : ByteArray)) (by rw [app_data (M := limE) hS.out rfl]; unfold limS; simp only [List.append_assoc]));have PA := Hj (sParse_any (S ++ (⟨#[32, 125]⟩ : ByteArray)) wr hUz (HT.out.rel hR.out));unfold PaRes at PA;have A0 := Hj fun w' (r : Rel wr w') => awake_any w' (HT.out.rel (hR.out.trans r))
   unfold BRes at A0;by_cases hb : k ≤ 6 ∧ l ≤ 10
   ·obtain ⟨us, hus, hun, hu0⟩ := LU.out.1 hb;rw [hus] at PA;have t1 : decide ((6 : Int) < (k : Int)) = false := dF (by omega);have t2 : decide ((10 : Int) < (l : Int)) = false := dF (by omega);have HU0 := Hj hu0;clear LU hus hb hu0;go_wp2_with fail;refine PA.out.mono ?_;rintro e w2 ⟨s, rfl, hpl, hB, h2⟩;obtain ⟨nm, cur, vs, ad, cap⟩ := s;have hvs : vs.map VerM.pl = us := congrArg Sta.vs hpl;obtain ⟨nv, hnv⟩ : ∃ n, vs.length = n := ⟨_, rfl⟩;obtain rfl : nv = k := by rw [← hnv, ← hun, ← hvs, List.length_map]
    obtain ⟨m, hm⟩ : ∃ m, vs[0]? = some m := get_some (by omega);obtain ⟨nl, hnl⟩ : ∃ n, m.le.length = n := ⟨_, rfl⟩
    obtain rfl : nl = l := by
     have h := HU0.out m.pl (by rw [← hvs, List.getElem?_map, hm]; rfl);unfold VerM.pl at h;dsimp only at h;rw [List.length_map] at h; omega
    obtain ⟨g, off, hg0, hg, -, hcell⟩ := row_open hB.r verC_len (by decide) (show 0 < vs.length by omega);have c5 := hcell 0 m hm 5 _ rfl;dsimp only at hg0;subst hg0;rw [hnl] at c5;simp only [Nat.zero_mul, Nat.add_zero] at c5;have R2 := Hj h2;unfold StaM.val;dsimp only;rw [hnv];clear hvs hm hnl hcell hpl hB h2 hnv PA HU0 hun;obtain ⟨X, hX⟩ : ∃ X, w2.alloc (.cells #[.string nm, .int .i64 cur, .slice (some ⟨g, off, none⟩) nv cap] 25) = X := ⟨_, rfl⟩;have RX : Hid (Rel w2 X) := by show Rel _ _; rw [← hX]; exact (Rel.refl w2).alloc _
    have BX : Hid (Blk X w2.heap.size 25 [.string nm, .int .i64 cur, .slice (some ⟨g, off, none⟩) nv cap]) := by show Blk _ _ _ _; rw [← hX]; exact Blk.new w2 _ #[.string nm, .int .i64 cur, .slice (some ⟨g, off, none⟩) nv cap]
    have HX := Hj hX;clear hX;go_wp2_with fail;(try rw [HX.out]);refine (A0.out _ (R2.out.trans RX.out)).mono ?_;rintro e w3 ⟨rfl, h3⟩;have R3 := Hj (RX.out.trans h3);have x2 := (BX.out.rel h3).c (j := 2) rfl;have xl := (BX.out.rel h3).lt;have c5' := R3.out.cell c5;have hg3 := R3.out.lt hg;have n0 : (0 : Int) < (nv : Int) := by omega
    have n0' : 0 < nv := by omega
    clear h3 c5 A0;go_wp2;go_ret;exact ⟨ret_b2 (by simp), hR.out.trans (R2.out.trans R3.out)⟩
   ·have hus := LU.out.2 hb;rw [hus] at PA;clear LU hus;by_cases h6 : 6 < k
    ·have t1 : decide ((6 : Int) < (k : Int)) = true := dT (by omega);go_wp2_with fail;refine PA.out.mono ?_;rintro e w2 ⟨s, rfl, hpl, hB, h2⟩;obtain ⟨nm, cur, vs, ad, cap⟩ := s;have hvs : vs.map VerM.pl = [] := congrArg Sta.vs hpl;obtain rfl : vs = [] := by cases vs with | nil => rfl | cons a b => simp at hvs
     have R2 := Hj h2;unfold StaM.val;dsimp only;rw [List.length_nil];clear hvs hpl hB h2 PA;obtain ⟨X, hX⟩ : ∃ X, w2.alloc (.cells #[.string nm, .int .i64 cur, .slice ad 0 cap] 25) = X := ⟨_, rfl⟩;have RX : Hid (Rel w2 X) := by show Rel _ _; rw [← hX]; exact (Rel.refl w2).alloc _
     have BX : Hid (Blk X w2.heap.size 25 [.string nm, .int .i64 cur, .slice ad 0 cap]) := by show Blk _ _ _ _; rw [← hX]; exact Blk.new w2 _ #[.string nm, .int .i64 cur, .slice ad 0 cap]
     have HX := Hj hX;clear hX;go_wp2_with fail;(try rw [HX.out]);refine (A0.out _ (R2.out.trans RX.out)).mono ?_;rintro e w3 ⟨rfl, h3⟩;have R3 := Hj (RX.out.trans h3);have x2 := (BX.out.rel h3).c (j := 2) rfl;have xl := (BX.out.rel h3).lt;clear h3 A0;go_wp2;go_ret;exact ⟨ret_b2 (by simp), hR.out.trans (R2.out.trans R3.out)⟩
    ·have t1 : decide ((6 : Int) < (k : Int)) = false := dF (by omega);have t2 : decide ((10 : Int) < (l : Int)) = true := dT (by omega);go_wp2_with fail;refine PA.out.mono ?_;rintro e w2 ⟨s, rfl, hpl, hB, h2⟩;obtain ⟨nm, cur, vs, ad, cap⟩ := s;have hvs : vs.map VerM.pl = [] := congrArg Sta.vs hpl;obtain rfl : vs = [] := by cases vs with | nil => rfl | cons a b => simp at hvs
     have R2 := Hj h2;unfold StaM.val;dsimp only;rw [List.length_nil];clear hvs hpl hB h2 PA;obtain ⟨X, hX⟩ : ∃ X, w2.alloc (.cells #[.string nm, .int .i64 cur, .slice ad 0 cap] 25) = X := ⟨_, rfl⟩;have RX : Hid (Rel w2 X) := by show Rel _ _; rw [← hX]; exact (Rel.refl w2).alloc _
     have BX : Hid (Blk X w2.heap.size 25 [.string nm, .int .i64 cur, .slice ad 0 cap]) := by show Blk _ _ _ _; rw [← hX]; exact Blk.new w2 _ #[.string nm, .int .i64 cur, .slice ad 0 cap]
     have HX := Hj hX;clear hX;go_wp2_with fail;(try rw [HX.out]);refine (A0.out _ (R2.out.trans RX.out)).mono ?_;rintro e w3 ⟨rfl, h3⟩;have R3 := Hj (RX.out.trans h3);have x2 := (BX.out.rel h3).c (j := 2) rfl;have xl := (BX.out.rel h3).lt;clear h3 A0;go_wp2;go_ret;exact ⟨ret_b2 (by simp), hR.out.trans (R2.out.trans R3.out)⟩
end Go.Proofs.YtlmclkaighlfaaaDoor

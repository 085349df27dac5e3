/- Bundle of texts: each says at its head what it proves; no conditions but those printed. -/
import Derived.Test.YtlmclkaighlfaaaGreatDoorSB32
import Derived.Test.YtlmclkaighlfaaaGreatDoorSB34
import Derived.Test.YtlmclkaighlfaaaGreatDoorSB9
namespace Go.Proofs.YtlmclkaighlfaaaGreatDoor
set_option maxHeartbeats 16000000
open Go.RowKit Cal Str Tok Frac Txt Tree
attribute [local go_sem] calmUpon
set_option linter.unusedVariables false
set_option linter.unusedSimpArgs false
theorem sta_of {w W : World} {s : StaM} (hn : s.nm.size ≤ 140737488355328) (hi : 1 ≤ s.cur ∧ s.cur ≤ 3) (hl : s.vs.length ≤ 3) (hO : W.ownsRow w.heap.size 41 8 (.slice s.ad s.vs.length s.cap) s.vs.length (s.vs.flatMap verC)) (hX : ∀ m ∈ s.vs, VerB (fun q => (w.heap.size ≤ q ∧ True) ∧ OffB s.ad q) W m) : StaAt W s :=
 ⟨hn, ⟨by omega, by omega⟩, by omega, (own_rowB hO).mono (fun _ _ => trivial), fun m hm => (hX m hm).mono (fun _ _ => trivial)⟩
set_option maxRecDepth 20000 in
theorem walk_TypingStatutes (w : World) (ht : TabW w) (a0 : Value) (n0 : Nat) (r0 : Nat → RawV) (a1 : Int) (a2 : ByteArray) (a3 : Int) (b0 : RawsIn w a0 n0 r0) (b1 : -9223372036854775808 ≤ a1) (c1 : a1 ≤ 9223372036854775807) (b2 : a2.size ≤ 140737488355328) (b3 : -9223372036854775808 ≤ a3) (c3 : a3 ≤ 9223372036854775807) :
  Calls Tryz.prog 3 #[a0, .int .i64 a1, .string a2, .int .i64 a3] w (BRes true w) := by
 have HT := Hj ht;have HB := Hj b0;obtain ⟨va, vcap, rfl, hn, -⟩ := raws_fun b0;clear ht b0;unfold BRes;have ST := Hj (Statute_any _ n0 r0 a1 w HB.out b1 c1);unfold StRes at ST;by_cases h4 : 4 < n0
 ·have e4 : decide ((4 : Int) < (n0 : Int)) = true := dT (by omega);go_enter Tryz.func3, Tryz.ntmps3;go_wp2;go_ret;exact ⟨rfl, Rel.refl _⟩
 ·have e4 : decide ((4 : Int) < (n0 : Int)) = false := dF (by omega);go_enter Tryz.func3, Tryz.ntmps3;go_wp2_with fail;refine ST.out.mono ?_;rintro e w1 ⟨s, rfl, hO, hX, h1, hl, hnm, hcu⟩;obtain ⟨nm, cur, vs, ad, cap⟩ := s;dsimp only at hO hX hl hnm hcu;subst hnm;have HO := Hj hO;have HX := Hj hX;have R1 := Hj h1;unfold StaM.val;dsimp only;obtain ⟨nv, hnv⟩ : ∃ n, vs.length = n := ⟨_, rfl⟩;rw [hnv] at hl ⊢;have HNV := Hj hnv;clear hO hX h1 hnv ST;obtain ⟨X, hXe⟩ : ∃ X, w1.alloc (.cells #[.string lawS, .int .i64 cur, .slice ad nv cap] 25) = X := ⟨_, rfl⟩;have RX : Hid (Rel w1 X) := by show Rel _ _; rw [← hXe]; exact (Rel.refl w1).alloc _
  have BX : Hid (Blk X w1.heap.size 25 [.string lawS, .int .i64 cur, .slice ad nv cap]) := by show Blk _ _ _ _; rw [← hXe]; exact Blk.new w1 _ #[.string lawS, .int .i64 cur, .slice ad nv cap]
  have hw1 := R1.out.size;by_cases h5 : a3.tmod 5 = 0
  ·have e5 : (a3.tmod 5 == 0) = true := by rw [beq_iff_eq]; exact h5
   obtain ⟨Z, hZ⟩ : ∃ Z, X.setCell ⟨w1.heap.size, 0, none⟩ (.string a2) = Z := ⟨_, rfl⟩;have QZ : Hid (Ro w1.heap.size X Z) := by show Ro _ _ _; rw [← hZ]; exact (Ro.refl _ X).set 0 _
   have RZ : Hid (Rel w Z) := by show Rel _ _; rw [← hZ]; exact (R1.out.trans RX.out).setCell (p := ⟨w1.heap.size, 0, none⟩) hw1 _
   have BZ : Hid (Blk Z w1.heap.size 25 [.string a2, .int .i64 cur, .slice ad nv cap]) := by show Blk _ _ _ _; rw [← hZ]; exact BX.out.set 0 _
   have HA : Hid (StaAt Z ⟨a2, cur, vs, ad, cap⟩) := by
    have hk : ∀ g, g < w1.heap.size → Z.heap[g]? = w1.heap[g]? := fun g hg => (QZ.out.block g (by have := RX.out.size; omega) (by omega)).trans (Below.block RX.out g hg)
    have hs : w1.heap.size ≤ Z.heap.size := Nat.le_trans RX.out.size QZ.out.size;have h0 : StaAt w1 ⟨lawS, cur, vs, ad, cap⟩ := sta_of (show lawS.size ≤ 140737488355328 by decide) hcu (by show vs.length ≤ 3; rw [HNV.out]; omega) HO.out HX.out;have h1 := StaB.keep h0 hs (fun g hg hp => ⟨hk g hg, hp⟩);exact { h1 with n := b2 }
   clear h5;have z0 := BZ.out.c (j := 0) rfl;have z1 := BZ.out.c (j := 1) rfl;have z2 := BZ.out.c (j := 2) rfl;have zl := BZ.out.lt;have V1 := Hj fun w' (r : Rel Z w') => tStatute_any _ w' (StaB.rel HA.out r) (HT.out.rel (RZ.out.trans r))
   have V2 := Hj fun w' (r : Rel Z w') => rStatute_any _ w' (StaB.rel HA.out r)
   have A0 := Hj fun w' (r : Rel Z w') => awake7_any w' (HT.out.rel (RZ.out.trans r))
   unfold InfRes StaM.val at V1 V2;dsimp only at V1 V2;rw [HNV.out] at V1 V2;unfold BRes at A0;generalize stR _ = sr at V1 V2;obtain ⟨za, zb⟩ := sr;dsimp only at V1 V2;have f0 := BX.out.f 0;have xc := BX.out.c (j := 0) rfl;have xl := BX.out.lt;go_wp2_with fail;clear f0 xc xl hXe hZ;refine (V1.out _ (Rel.refl _)).mono ?_;rintro e w2 ⟨rfl, h2⟩;have R2 := Hj h2;have y0 := (BZ.out.rel R2.out).c (j := 0) rfl;have y1 := (BZ.out.rel R2.out).c (j := 1) rfl;have y2 := (BZ.out.rel R2.out).c (j := 2) rfl;have yl := (BZ.out.rel R2.out).lt;clear h2 V1 z0 z1 z2 zl;go_wp2_with fail;refine (V2.out _ R2.out).mono ?_;rintro e w3 ⟨rfl, h3⟩;have R3 := Hj (R2.out.trans h3);clear h3 V2 y0 y1 y2 yl;go_wp2_with fail;refine (A0.out _ R3.out).mono ?_;rintro e w4 ⟨rfl, h4'⟩;have R4 := Hj (R3.out.trans h4');clear h4' A0;go_wp2;go_ret;exact ⟨ret_b2 (by simp), RZ.out.trans R4.out⟩
  ·have e5 : (a3.tmod 5 == 0) = false := by rw [zn]; exact h5
   obtain ⟨Z, hZ⟩ : ∃ Z, Z = X := ⟨_, rfl⟩;subst hZ;have RZ : Hid (Rel w Z) := R1.out.trans RX.out;have BZ := BX
   have HA : Hid (StaAt Z ⟨lawS, cur, vs, ad, cap⟩) := by
    have h0 : StaAt w1 ⟨lawS, cur, vs, ad, cap⟩ := sta_of (show lawS.size ≤ 140737488355328 by decide) hcu (by show vs.length ≤ 3; rw [HNV.out]; omega) HO.out HX.out;exact StaB.rel h0 RX.out
   clear h5;have z0 := BZ.out.c (j := 0) rfl;have z1 := BZ.out.c (j := 1) rfl;have z2 := BZ.out.c (j := 2) rfl;have zl := BZ.out.lt;have V1 := Hj fun w' (r : Rel Z w') => tStatute_any _ w' (StaB.rel HA.out r) (HT.out.rel (RZ.out.trans r))
   have V2 := Hj fun w' (r : Rel Z w') => rStatute_any _ w' (StaB.rel HA.out r)
   have A0 := Hj fun w' (r : Rel Z w') => awake7_any w' (HT.out.rel (RZ.out.trans r))
   unfold InfRes StaM.val at V1 V2;dsimp only at V1 V2;rw [HNV.out] at V1 V2;unfold BRes at A0;generalize stR _ = sr at V1 V2;obtain ⟨za, zb⟩ := sr;dsimp only at V1 V2;go_wp2_with fail;clear hXe;refine (V1.out _ (Rel.refl _)).mono ?_;rintro e w2 ⟨rfl, h2⟩;have R2 := Hj h2;have y0 := (BZ.out.rel R2.out).c (j := 0) rfl;have y1 := (BZ.out.rel R2.out).c (j := 1) rfl;have y2 := (BZ.out.rel R2.out).c (j := 2) rfl;have yl := (BZ.out.rel R2.out).lt;clear h2 V1 z0 z1 z2 zl;go_wp2_with fail;refine (V2.out _ R2.out).mono ?_;rintro e w3 ⟨rfl, h3⟩;have R3 := Hj (R2.out.trans h3);clear h3 V2 y0 y1 y2 yl;go_wp2_with fail;refine (A0.out _ R3.out).mono ?_;rintro e w4 ⟨rfl, h4'⟩;have R4 := Hj (R3.out.trans h4');clear h4' A0;go_wp2;go_ret;exact ⟨ret_b2 (by simp), RZ.out.trans R4.out⟩
end Go.Proofs.YtlmclkaighlfaaaGreatDoor

/- Bundle of texts: each says at its head what it proves; no conditions but those printed. -/
import Derived.Test.YtlmclkaighlfaaaGreatDoorSB16
import Derived.Test.YtlmclkaighlfaaaGreatDoorSB17
import Derived.Test.YtlmclkaighlfaaaGreatDoorSB11
namespace Go.Proofs.YtlmclkaighlfaaaGreatDoor
set_option maxHeartbeats 16000000
open Go.RowKit Cal Str Tok Frac Txt Tree
attribute [local go_sem] calmUpon
set_option linter.unusedVariables false
set_option linter.unusedSimpArgs false
structure LetsAt (w : World) (ad : Option Addr) (L : List (ByteArray × (Ex × Value))) : Prop where
 n : L.length ≤ 100000
 r : RowB (fun _ => True) w ad (L.flatMap leC)
 b : ∀ p ∈ L, LeB (fun _ => True) w p
theorem LetsAt.rel {w w' : World} {ad : Option Addr} {L : List (ByteArray × (Ex × Value))} (h : LetsAt w ad L) (r : Rel w w') : LetsAt w' ad L :=
 ⟨h.n, h.r.keep (Below.size r) (fun q hq hp => ⟨Below.block r q hq, hp⟩), fun p hp => ⟨(h.b p hp).1, (h.b p hp).2.rel r⟩⟩
def LetsRes (L : List (ByteArray × (Ex × Value))) (w : World) (e : Ending) (w' : World) : Prop := ∃ (ea : Option Addr) (ec : Nat), e = .returned (.tuple #[.slice ea (letsR L).2.length ec, .int .i64 (letsR L).1]) ∧ EnvAt w' (letsR L).2.length (nmO (letsR L).2) (dmO (letsR L).2) ea ∧ Rel w w' ∧ (∀ p ∈ (letsR L).2, BnG p) ∧ (letsR L).2.length ≤ 100000
theorem lets_nil {L : List (ByteArray × (Ex × Value))} {c : Int} {w w' : World} (h : letsR L = (c, [])) (r : Rel w w') : LetsRes L w (.returned (.tuple #[.slice none 0 0, .int .i64 c])) w' := by
 refine ⟨none, 0, ?_, ?_, r, ?_, ?_⟩
 ·rw [h]; rfl
 ·rw [h]; exact fun h0 => absurd h0 (by simp)
 ·rw [h]; intro p hp; cases hp
 ·rw [h]; simp
theorem lets_ret {L : List (ByteArray × (Ex × Value))} {E : List (ByteArray × Int)} {k : Nat} {ea : Option Addr} {ec : Nat} {w w' : World} (h : letsR L = (0, E)) (hk : E.length = k) (he : EnvAt w' k (nmO E) (dmO E) ea) (hb : ∀ p ∈ E, BnG p) (hl : k ≤ 100000) (r : Rel w w') : LetsRes L w (.returned (.tuple #[.slice ea k ec, .int .i64 0])) w' := by
 subst hk;refine ⟨ea, ec, ?_, ?_, r, ?_, ?_⟩
 ·rw [h]
 ·rw [h]; exact he
 ·rw [h]; exact hb
 ·rw [h]; exact hl
theorem name_kids (s : ByteArray) (hs : s.size ≤ 140737488355328) (w : World) : ExKids (.mk 2 0 0 0 s 0 (fun _ => .no)) w (.slice none 0 0) := ⟨⟨by decide, by decide, by decide, by decide, by decide, by decide, by decide, by decide, hs⟩, by decide, none, 0, rfl, fun h => absurd h (by decide)⟩
theorem name_valid (s : ByteArray) : (Ex.mk 2 0 0 0 s 0 (fun _ => .no)).valid = namB s := by
 have h1 : (Ex.mk 2 0 0 0 s 0 (fun _ => .no)).depth = 1 := by rw [depth_mk]; simp [mxK]
 have h2 : (Ex.mk 2 0 0 0 s 0 (fun _ => .no)).size = 1 := by rw [size_mk]; simp [smK]
 have h3 : (Ex.mk 2 0 0 0 s 0 (fun _ => .no)).form = namB s := by rw [form_mk]; simp [nodB, alK, arI]
 unfold Ex.valid;rw [h1, h2, h3]; simp
theorem tisName_any (s : ByteArray) (w : World) (hs : s.size ≤ 140737488355328) (ht : Hid (TabW w)) : Calls Tryz.prog 144 #[.string s] w (BRes (namB s) w) := by
 have V := Hj (ValidExpr_any (.mk 2 0 0 0 s 0 (fun _ => .no)) (.slice none 0 0) w (name_kids s hs w) (by rw [size_mk]; simp [smK]) ht);rw [name_valid] at V;simp only [Ex.op, Ex.va, Ex.vb, Ex.dm, Ex.nm] at V;unfold BRes at V ⊢;obtain ⟨B, hB⟩ : ∃ B, namB s = B := ⟨_, rfl⟩;rw [hB] at V ⊢;clear hB;go_enter Tryz.func144, Tryz.ntmps144;go_wp2_with fail;refine V.out.mono ?_;rintro e w1 ⟨rfl, h1⟩;go_wp2;go_ret;exact ⟨rfl, h1⟩
theorem lets1_any (s : ByteArray) (d : Int) (x : ByteArray) (B : Nat) (w : World) (hx : w.cell? ⟨B, 0, none⟩ = some (.string x)) :
  Calls Tryz.prog 145 #[.agg #[.string s, .int .i64 d], .pointer (some ⟨B, 0, none⟩)] w (BRes (s.toList == x.toList) w) := by
 have hb : B < w.heap.size := World.block_lt_of_cell? _ _ hx;have hne : ¬ B = w.heap.size := by omega
 unfold BRes;go_enter Tryz.func145, Tryz.ntmps145;go_wp2;go_ret;exact ⟨rfl, by (show Rel _ _; repeat (first | with_reducible (first | exact qR _ | refine qA ?_ _ | refine qD ?_ | refine qT ?_ H0.out) | with_reducible refine qS ?_ (by first | (simp; done) | (simp; omega)) _))⟩
theorem indexL_any (k : Nat) (nm : Nat → ByteArray) (dm : Nat → Int) (ad : Option Addr) (cap : Nat) (x : ByteArray) (B : Nat) (w : World) (hk : Hid (EnvAt w k nm dm ad)) (hn : k ≤ 17592186044416) (hx : Hid (w.cell? ⟨B, 0, none⟩ = some (.string x))) :
  Calls Tryz.prog 154 #[.slice ad k cap, .func (.func 145) #[] #[.pointer (some ⟨B, 0, none⟩)]] w fun e w' => ∃ r : Int, e = .returned (.int .i64 r) ∧ decide (0 ≤ r) = anK (fun i => (nm i).toList == x.toList) k ∧ Rel w w' := by
 go_enter Tryz.func154, Tryz.ntmps154;go_wp2_with fail
 go_loopw [8] (fun i wx => ∃ j : Nat, j ≤ k ∧ i = .int .i64 j ∧ Hid (∀ q, q < j → ((nm q).toList == x.toList) = false) ∧ Hid (Rel w wx)) (fun i _ => k - (intOf i).toNat)
 case atStart => exact ⟨0, by omega, rfl, fun q hq => by omega, Rel.refl _⟩
 case round =>
  obtain ⟨j, hkn, rfl, hA, hR⟩ := hrel;by_cases hlt : j < k
  ·obtain ⟨g, off, rfl, hg, hc⟩ := hk.out (by omega);obtain ⟨q0, q1, -⟩ := hc j hlt;have c0 := hR.out.cell q0;have c1 := hR.out.cell q1;have C := Hj (lets1_any (nm j) (dm j) x B wr (hR.out.cell hx.out));unfold BRes at C;clear hc q0 q1;go_wp2_with fail;refine C.out.mono ?_;rintro e w1 ⟨rfl, h1⟩;have kz1 := h1.size;(try simp only [zsa, zsc, zsd] at kz1);have H1 := Hj h1;clear h1;obtain ⟨Z, hZ⟩ : ∃ Z, ((nm j).toList == x.toList) = Z := ⟨_, rfl⟩;rw [hZ];cases Z
   ·have fin : Hid (∀ q, q < j + 1 → ((nm q).toList == x.toList) = false) := fun q hq => by
     rcases Nat.lt_or_ge q j with h | h
     ·exact hA.out q h
     ·rw [show q = j by omega]; exact hZ
    clear hZ;go_wp2
    go_roundw
    case rel => exact ⟨j + 1, by omega, by go_num, fin, hR.out.trans H1.out⟩
    case measure => simp [intOf]; omega
   ·have fin : Hid (decide (0 ≤ (j : Int)) = anK (fun i => (nm i).toList == x.toList) k) := by
     show _ = _
     rw [anK_hit hlt hZ]; simp
    clear hZ;go_wp2;go_ret;exact ⟨_, rfl, fin.out, hR.out.trans H1.out⟩
  ·have : j = k := by omega
   subst this;go_wp2;go_ret;exact ⟨-1, rfl, by rw [anK_none hA.out]; rfl, hR.out⟩
theorem containsL_any (k : Nat) (nm : Nat → ByteArray) (dm : Nat → Int) (ad : Option Addr) (cap : Nat) (x : ByteArray) (B : Nat) (w : World) (hk : Hid (EnvAt w k nm dm ad)) (hn : k ≤ 17592186044416) (hx : Hid (w.cell? ⟨B, 0, none⟩ = some (.string x))) :
  Calls Tryz.prog 81 #[.slice ad k cap, .func (.func 145) #[] #[.pointer (some ⟨B, 0, none⟩)]] w (BRes (anK (fun i => (nm i).toList == x.toList) k) w) := by
 have C := Hj fun w' (r : Rel w w') => indexL_any k nm dm ad cap x B w' (Hj (env_rel hk.out r)) hn (Hj (r.cell hx.out))
 unfold BRes;go_enter Tryz.func81, Tryz.ntmps81;go_wp2_with fail;refine (C.out _ (Rel.refl _)).mono ?_;rintro e w1 ⟨r, rfl, hr, h1⟩;have HR := Hj hr;clear hr;go_wp2;go_ret;exact ⟨ret_b2 HR.out, h1⟩
theorem anK_nm (E : List (ByteArray × Int)) (s : ByteArray) (k : Nat) : anK (fun i => (nmO E i).toList == s.toList) k = anK (fun j => (nmO E j).data.toList == s.data.toList) k := anK_congr fun i _ => by rw [Lib.toList_data, Lib.toList_data]
theorem new_cells2 (w : World) (c : Array Value) (T : TypeId) {g : Nat} (hg : g = w.heap.size) : ∀ (j : Nat) u, c.toList[j]? = some u → (w.alloc (.cells c T)).cell? ((⟨g, 0, none⟩ : Addr).add j) = some u := by
 subst hg;intro j u h
 have hadd : (⟨w.heap.size, 0, none⟩ : Addr).add j = ⟨w.heap.size, j, none⟩ := by unfold Addr.add; split <;> simp_all
 rw [hadd];exact (Blk.new w T c).c h
set_option maxRecDepth 20000 in
theorem Lets_any (L : List (ByteArray × (Ex × Value))) (ad : Option Addr) (cap : Nat) (w : World) (hL : LetsAt w ad L) (ht : TabW w) : Calls Tryz.prog 70 #[.slice ad L.length cap] w (LetsRes L w) := by
 have h0 := hL.n;have HL := Hj hL;have HR : Hid (letsR L = if 10 < L.length then (7, []) else letsV L L.length 0 []) := rfl;have HROW : Hid (0 < L.length → ∃ g off, ad = some ⟨g, off, none⟩ ∧ g < w.heap.size ∧ True ∧ ∀ i p, L[i]? = some p → ∀ j u, (leC p)[j]? = some u → w.cell? ⟨g, off + i * 7 + j, none⟩ = some u) := fun h => row_open hL.r leC_len (by decide) h
 have HGET : Hid (∀ i, i < L.length → ∃ p, L[i]? = some p) := fun i hi => get_some hi
 clear hL;obtain ⟨n, hn⟩ : ∃ n, L.length = n := ⟨_, rfl⟩;rw [hn] at h0 HR HROW HGET ⊢;by_cases h10 : 10 < n
 ·have e1 : decide ((10 : Int) < (n : Int)) = true := dT (by omega);have fin : Hid (letsR L = (7, [])) := HR.out.trans (if_pos h10);go_enter Tryz.func70, Tryz.ntmps70;go_wp2
  go_ret2
  exact lets_nil fin.out (by (show Rel _ _; repeat (first | with_reducible (first | exact qR _ | refine qA ?_ _ | refine qD ?_ | refine qT ?_ H0.out) | with_reducible refine qS ?_ (by first | (simp; done) | (simp; omega)) _)))
 ·have e1 : decide ((10 : Int) < (n : Int)) = false := dF (by omega);have HR2 : Hid (letsR L = letsV L n 0 []) := HR.out.trans (if_neg h10);have HT := Hj ht;clear ht;have IN := Hj fun s w => Input_any s w
  have NM := Hj fun s w' (hs : s.size ≤ 140737488355328) (r : Rel w w') => tisName_any s w' hs (Hj (HT.out.rel r))
  have hi3 : (Tryz.prog.info? 120).map (fun i => (i.zero, i.size, i.bytes)) = some (some (.agg #[.string ByteArray.empty, .int .i64 0]), 2, 24) := by kernel_rfl
  obtain ⟨ib, hi, hx⟩ := Option.map_eq_some_iff.1 hi3;simp only [Prod.mk.injEq] at hx;obtain ⟨hz0, hz1, hz2⟩ := hx;have HIb := Hj hi;have HZb0 := Hj hz0;have HZb1 := Hj hz1;have HZb2 := Hj hz2;clear hi3 hi hz0 hz1 hz2;go_enter Tryz.func70, Tryz.ntmps70;go_wp2_with fail
  go_loopw [4, 16] (fun ev i wx => ∃ (k : Nat) (E : List (ByteArray × Int)) (ea : Option Addr) (ec : Nat), Hid (E.length = k) ∧ k ≤ n ∧ i = .int .i64 k ∧ ev = .slice ea k ec ∧ Hid (Rel w wx) ∧ Hid (wx.ownsRow w.heap.size 120 2 (.slice ea k ec) k (bndL E)) ∧ Hid (letsR L = letsV L (n - k) k E) ∧ Hid (∀ p ∈ E, BnG p)) (fun _ i _ => n - (intOf i).toNat)
  case atStart => exact ⟨0, [], none, 0, rfl, by omega, rfl, rfl, Rel.refl _, World.ownsRow_nil _ _ _ _, HR2, fun p hp => by cases hp⟩
  case round =>
   obtain ⟨k, E, ea, ec, hEk, hkn, rfl, rfl, hR, hO, hV, hB⟩ := hrel;by_cases hlt : k < n
   ·obtain ⟨g, off, rfl, hg, -, hc⟩ := HROW.out (by omega);obtain ⟨p, hp⟩ := HGET.out k hlt;obtain ⟨s, t, x⟩ := p;have c0 := hR.out.cell (hc k _ hp 0 _ rfl);have c1 := hR.out.cell (hc k _ hp 1 _ rfl);have c2 := hR.out.cell (hc k _ hp 2 _ rfl);have c3 := hR.out.cell (hc k _ hp 3 _ rfl);have c4 := hR.out.cell (hc k _ hp 4 _ rfl);have c5 := hR.out.cell (hc k _ hp 5 _ rfl);have c6 := hR.out.cell (hc k _ hp 6 _ rfl);simp only [Nat.add_zero] at c0 c1 c2 c3 c4 c5 c6;have hb := HL.out.b _ (List.mem_of_getElem? hp);have hs1 : s.size ≤ 140737488355328 := hb.1;have hK := Hj (kids_rel (kidsB_to hb.2.1) hR.out);have hz : t.size ≤ 1000000000 := hb.2.2;obtain ⟨xa, xc, hx⟩ := kids_slice hK.out;simp only at hx;rw [hx] at c6 hK;have hg2 := hR.out.lt hg;have ki : (k : Int) < (n : Int) := by omega
    have hl := l_at hp;simp only at hl
    have LC : Hid (letC E (lN L k) (lT L k) = if (!(inpI s == 0) || !namB s) = true then 5 else if anK (fun j => (nmO E j).data.toList == s.data.toList) k = true then 10 else (infV t (nmO E) (dmO E) k).2) := by
     show _ = _
     rw [hl.1, hl.2]; unfold letC; rw [hEk.out]
    have LD : Hid (letD E (lT L k) = (infV t (nmO E) (dmO E) k).1 ∧ lN L k = s) := ⟨by rw [hl.2]; unfold letD; rw [hEk.out], hl.1⟩;have ENV := Hj fun w' (r : Rel wr w') => own_env (own_rel' hO.out r) hEk.out (fun p hp => bnG_ok (hB.out p hp))
    have BD := infV_bd hB.out t;rw [hEk.out] at BD;have STOP := Hj fun (c : Int) (h : letC E (lN L k) (lT L k) = c) (h0 : ¬ c = 0) => hV.out.trans (by rw [letsV_stop hlt (by rw [h]; exact h0), h])
    have STEP := Hj fun (h : letC E (lN L k) (lT L k) = 0) => hV.out.trans (letsV_step hlt h)
    have N3 := IN.out s;obtain ⟨ii, hii⟩ : ∃ ii, inpI s = ii := ⟨_, rfl⟩;obtain ⟨nb, hnb⟩ : ∃ nb, namB s = nb := ⟨_, rfl⟩;have hib : inpB s = !(ii == 0) := by unfold inpB; rw [hii]
    rw [hii, hib] at N3;rw [hii, hnb] at LC;have NN := Hj fun w' (r : Rel wr w') => NM.out s w' hs1 (hR.out.trans r)
    rw [hnb] at NN;unfold BRes at NN;have N2 := Hj N3;clear hc hp hb hl hii hnb hib N3 hx;have gn : ¬ g = wr.heap.size := by omega
    have gm : ¬ wr.heap.size = g := by omega
    obtain ⟨X, hX⟩ : ∃ X, wr.alloc (.cells #[.string s, .int .i64 t.op, .int .i64 t.va, .int .i64 t.vb, .int .i64 t.dm, .string t.nm, .slice xa t.cnt xc] 78) = X := ⟨_, rfl⟩;have RX : Hid (Rel wr X) := by show Rel _ _; rw [← hX]; exact (Rel.refl _).alloc _
    have BX : Hid (Blk X wr.heap.size 78 [.string s, .int .i64 t.op, .int .i64 t.va, .int .i64 t.vb, .int .i64 t.dm, .string t.nm, .slice xa t.cnt xc]) := by show Blk _ _ _ _; rw [← hX]; exact Blk.new wr _ #[.string s, .int .i64 t.op, .int .i64 t.va, .int .i64 t.vb, .int .i64 t.dm, .string t.nm, .slice xa t.cnt xc]
    have b0 := BX.out.c (j := 0) rfl;have bl := BX.out.lt;have CT := Hj fun w' (r : Rel X w') => containsL_any k (nmO E) (dmO E) ea ec s wr.heap.size w' (Hj (ENV.out w' (RX.out.trans r))) (by omega) (Hj (r.cell (BX.out.c (j := 0) rfl)))
    rw [anK_nm] at CT;have IF := Hj fun w' (r : Rel X w') => Infer_any ea k ec (nmO E) (dmO E) w' (ENV.out w' (RX.out.trans r)) (by omega) t _ (kids_rel hK.out (RX.out.trans r)) (by omega) (HT.out.rel (hR.out.trans (RX.out.trans r)))
    obtain ⟨ab, hab⟩ : ∃ ab, anK (fun j => (nmO E j).data.toList == s.data.toList) k = ab := ⟨_, rfl⟩;obtain ⟨⟨r1, r2⟩, hr⟩ : ∃ r, infV t (nmO E) (dmO E) k = r := ⟨_, rfl⟩;rw [hab, hr] at LC;rw [hr] at LD IF;rw [hab] at CT
    have bd0 : r2 = 0 → 1 ≤ r1 ∧ r1 ≤ 4 := by
     intro h;have := BD.1 (by rw [hr]; exact h);unfold letD at this;rw [hEk.out, hr] at this; exact this
    have BD0 := Hj bd0;unfold BRes at CT;unfold InfRes at IF;have HX := Hj hX;clear hab hr BD bd0 hX
    cases hi : (ii == 0)
    ·have fin := Hj (STOP.out 5 (by rw [LC.out, hi]; rfl) (by decide));rw [hi] at N2;go_wp2_with fail;(try rw [HX.out]);refine (N2.out _).mono ?_;rintro e w1 ⟨rfl, rfl⟩;go_wp2
     go_ret2
     exact lets_nil fin.out (hR.out.trans RX.out)
    ·rw [hi] at N2;go_wp2_with fail;(try rw [HX.out]);refine (N2.out _).mono ?_;rintro e w1 ⟨rfl, rfl⟩;cases nb
     ·have fin := Hj (STOP.out 5 (by rw [LC.out, hi]; rfl) (by decide));go_wp2_with fail;refine (NN.out _ RX.out).mono ?_;rintro e w2 ⟨rfl, h2⟩;have R2 := Hj (RX.out.trans h2);clear h2;go_wp2
      go_ret2
      exact lets_nil fin.out (hR.out.trans R2.out)
     ·go_wp2_with fail;refine (NN.out _ RX.out).mono ?_;rintro e w2 ⟨rfl, h2⟩;have R2 := Hj h2;clear h2;cases ab
      ·go_wp2_with fail;refine (CT.out _ R2.out).mono ?_;rintro e w3 ⟨rfl, h3⟩;have R3 := Hj (R2.out.trans h3);clear h3 b0;have BX3 := Hj (BX.out.rel R3.out);have b0 := BX3.out.c (j := 0) rfl;have b1 := BX3.out.c (j := 1) rfl;have b2 := BX3.out.c (j := 2) rfl;have b3 := BX3.out.c (j := 3) rfl;have b4 := BX3.out.c (j := 4) rfl;have b5 := BX3.out.c (j := 5) rfl;have b6 := BX3.out.c (j := 6) rfl;go_wp2_with fail;refine (IF.out _ R3.out).mono ?_;rintro e w4 ⟨rfl, h4⟩;have R4 := Hj (R3.out.trans h4);clear h4 b0 b1 b2 b3 b4 b5 b6;by_cases hr2 : r2 = 0
       ·subst hr2;have bd := BD0.out rfl;have BX4 := Hj (BX.out.rel R4.out);have b0 := BX4.out.c (j := 0) rfl;have RA : Hid (Rel wr w4) := RX.out.trans R4.out
        have FS : Hid (letsR L = letsV L (n - (k + 1)) (k + 1) (E ++ [(s, r1)])) := by
         have h := STEP.out (by rw [LC.out, hi]; rfl);rw [LD.out.1, LD.out.2] at h;exact h
        clear LC STOP STEP N2 NN CT IF
        go_wp2_with (at_builtin; refine wpList_append_lies _ rfl _ _ 117 rfl w.heap.size 120 ib (.agg #[.string ByteArray.empty, .int .i64 0]) 2 24 Tryz.underlying117 HIb.out HZb0.out HZb1.out HZb2.out rfl (by decide) (.slice ea k ec) k (bndL E) rfl ?d0 _ 1 1 [.string s, .int .i64 r1] rfl rfl ?d1 ?d2 (by decide) ?d3 ?d4 ?d5 _ rfl ?_)
        case d0 => exact own_rel' hO.out (RA.out.alloc _)
        case d1 => exact new_cells2 _ #[.string s, .int .i64 r1] _ (by first | rfl | simp)
        case d2 => intro u hu; simp at hu; rcases hu with rfl | rfl <;> rfl
        case d3 => unfold maxLen; omega
        case d4 => omega
        case d5 => have a1 := hR.out.size; have a2 := RA.out.size; simp; omega
        intro g3 cap3 w12 hown3 hgrow3 hat3 hlt3;have R12 : Hid (Rel w w12) := Below.grown (hR.out.trans (RA.out.alloc _)) hgrow3 (by have a1 := hR.out.size; have a2 := RA.out.size; simp; omega) (fun q hq => (hO.out.lt q hq).1)
        have O12 : Hid (w12.ownsRow w.heap.size 120 2 (.slice (some ⟨g3, 0, none⟩) (k + 1) cap3) (k + 1) (bndL (E ++ [(s, r1)]))) := by
         show World.ownsRow _ _ _ _ _ _ _
         rw [bndL_snoc]; exact hown3
        clear hown3 hgrow3 hat3;go_wp2
        go_roundw
        case rel => exact ⟨k + 1, E ++ [(s, r1)], some ⟨g3, 0, none⟩, cap3, by show _ = _; simp [hEk.out], by omega, by go_num, rfl, R12, O12, FS, fun p hp => by
         rcases List.mem_append.1 hp with h | h
         ·exact hB.out p h
         ·simp at h; subst h; exact ⟨hs1, bd.1, bd.2⟩⟩
        case measure => simp [intOf]; omega
       ·have er : (r2 == 0) = false := by rw [zn]; exact hr2
        have fin := Hj (STOP.out r2 (by rw [LC.out, hi]; rfl) hr2);clear hr2;go_wp2
        go_ret2
        exact lets_nil fin.out (hR.out.trans (RX.out.trans R4.out))
      ·have fin := Hj (STOP.out 10 (by rw [LC.out, hi]; rfl) (by decide));go_wp2_with fail;refine (CT.out _ R2.out).mono ?_;rintro e w3 ⟨rfl, h3⟩;have R3 := Hj (R2.out.trans h3);clear h3;go_wp2
       go_ret2
       exact lets_nil fin.out (hR.out.trans (RX.out.trans R3.out))
   ·have : k = n := by omega
    subst this
    have fin : Hid (letsR L = (0, E)) := by
     have h := hV.out;rw [Nat.sub_self] at h;exact h
    go_wp2
    go_ret2
    exact lets_ret fin.out hEk.out (own_env hO.out hEk.out (fun p hp => bnG_ok (hB.out p hp))) hB.out (by omega) hR.out
set_option maxRecDepth 20000 in
theorem rLets_any (L : List (ByteArray × (Ex × Value))) (ad : Option Addr) (cap : Nat) (w : World) (hL : LetsAt w ad L) : Calls Tryz.prog 78 #[.slice ad L.length cap] w (LetsRes L w) := by
 have h0 := hL.n;have HL := Hj hL;have HR : Hid (letsR L = if 10 < L.length then (7, []) else letsV L L.length 0 []) := rfl;have HROW : Hid (0 < L.length → ∃ g off, ad = some ⟨g, off, none⟩ ∧ g < w.heap.size ∧ True ∧ ∀ i p, L[i]? = some p → ∀ j u, (leC p)[j]? = some u → w.cell? ⟨g, off + i * 7 + j, none⟩ = some u) := fun h => row_open hL.r leC_len (by decide) h
 have HGET : Hid (∀ i, i < L.length → ∃ p, L[i]? = some p) := fun i hi => get_some hi
 clear hL;obtain ⟨n, hn⟩ : ∃ n, L.length = n := ⟨_, rfl⟩;rw [hn] at h0 HR HROW HGET ⊢;by_cases h10 : 10 < n
 ·have e1 : decide ((10 : Int) < (n : Int)) = true := dT (by omega);have fin : Hid (letsR L = (7, [])) := HR.out.trans (if_pos h10);go_enter Tryz.func78, Tryz.ntmps78;go_wp2
  go_ret2
  exact lets_nil fin.out (by (show Rel _ _; repeat (first | with_reducible (first | exact qR _ | refine qA ?_ _ | refine qD ?_ | refine qT ?_ H0.out) | with_reducible refine qS ?_ (by first | (simp; done) | (simp; omega)) _)))
 ·have e1 : decide ((10 : Int) < (n : Int)) = false := dF (by omega);have HR2 : Hid (letsR L = letsV L n 0 []) := HR.out.trans (if_neg h10);have IN := Hj fun s w => rInput_any s w
  have NM := Hj fun s w' (hs : s.size ≤ 140737488355328) (r : Rel w w') => rIsName_any s w' hs
  have hi3 : (Tryz.prog.info? 120).map (fun i => (i.zero, i.size, i.bytes)) = some (some (.agg #[.string ByteArray.empty, .int .i64 0]), 2, 24) := by kernel_rfl
  obtain ⟨ib, hi, hx⟩ := Option.map_eq_some_iff.1 hi3;simp only [Prod.mk.injEq] at hx;obtain ⟨hz0, hz1, hz2⟩ := hx;have HIb := Hj hi;have HZb0 := Hj hz0;have HZb1 := Hj hz1;have HZb2 := Hj hz2;clear hi3 hi hz0 hz1 hz2;go_enter Tryz.func78, Tryz.ntmps78;go_wp2_with fail
  go_loopw [4, 5] (fun ev i wx => ∃ (k : Nat) (E : List (ByteArray × Int)) (ea : Option Addr) (ec : Nat), Hid (E.length = k) ∧ k ≤ n ∧ i = .int .i64 k ∧ ev = .slice ea k ec ∧ Hid (Rel w wx) ∧ Hid (wx.ownsRow w.heap.size 120 2 (.slice ea k ec) k (bndL E)) ∧ Hid (letsR L = letsV L (n - k) k E) ∧ Hid (∀ p ∈ E, BnG p) ∧ Hid (∀ q, q < k → nmO E q = lN L q)) (fun _ i _ => n - (intOf i).toNat)
  case atStart => exact ⟨0, [], none, 0, rfl, by omega, rfl, rfl, Rel.refl _, World.ownsRow_nil _ _ _ _, HR2, (fun p hp => by cases hp), fun q hq => by omega⟩
  case round =>
   obtain ⟨k, E, ea, ec, hEk, hkn, rfl, rfl, hR, hO, hV, hB, hNm⟩ := hrel;by_cases hlt : k < n
   ·obtain ⟨g, off, rfl, hg, -, hc⟩ := HROW.out (by omega);obtain ⟨p, hp⟩ := HGET.out k hlt;obtain ⟨s, t, x⟩ := p;have c0 := hR.out.cell (hc k _ hp 0 _ rfl);have c1 := hR.out.cell (hc k _ hp 1 _ rfl);have c2 := hR.out.cell (hc k _ hp 2 _ rfl);have c3 := hR.out.cell (hc k _ hp 3 _ rfl);have c4 := hR.out.cell (hc k _ hp 4 _ rfl);have c5 := hR.out.cell (hc k _ hp 5 _ rfl);have c6 := hR.out.cell (hc k _ hp 6 _ rfl);simp only [Nat.add_zero] at c0 c1 c2 c3 c4 c5 c6;have hb := HL.out.b _ (List.mem_of_getElem? hp);have hs1 : s.size ≤ 140737488355328 := hb.1;have hK := Hj (kids_rel (kidsB_to hb.2.1) hR.out);have hz : t.size ≤ 1000000000 := hb.2.2;obtain ⟨xa, xc, hx⟩ := kids_slice hK.out;simp only at hx;rw [hx] at c6 hK;have hg2 := hR.out.lt hg;have ki : (k : Int) < (n : Int) := by omega
    have hl := l_at hp;simp only at hl
    have LC : Hid (letC E (lN L k) (lT L k) = if (!(inpI s == 0) || !namB s) = true then 5 else if anK (fun j => (nmO E j).data.toList == s.data.toList) k = true then 10 else (infV t (nmO E) (dmO E) k).2) := by
     show _ = _
     rw [hl.1, hl.2]; unfold letC; rw [hEk.out]
    have C0 := Hj c0;have C1 := Hj c1;have C2 := Hj c2;have C3 := Hj c3;have C4 := Hj c4;have C5 := Hj c5;have C6 := Hj c6;have CC := Hj fun q (hq : q < k) => hR.out.cell (hc q _ (HGET.out q (by omega)).choose_spec 0 _ rfl)
    have CL := Hj fun q (hq : q < k) => (l_at (HGET.out q (by omega)).choose_spec).1
    have LD : Hid (letD E (lT L k) = (infV t (nmO E) (dmO E) k).1 ∧ lN L k = s) := ⟨by rw [hl.2]; unfold letD; rw [hEk.out], hl.1⟩;have ENV := Hj fun w' (r : Rel wr w') => own_env (own_rel' hO.out r) hEk.out (fun p hp => bnG_ok (hB.out p hp))
    have BD := infV_bd hB.out t;rw [hEk.out] at BD;have STOP := Hj fun (c : Int) (h : letC E (lN L k) (lT L k) = c) (h0 : ¬ c = 0) => hV.out.trans (by rw [letsV_stop hlt (by rw [h]; exact h0), h])
    have STEP := Hj fun (h : letC E (lN L k) (lT L k) = 0) => hV.out.trans (letsV_step hlt h)
    have N3 := IN.out s;obtain ⟨ii, hii⟩ : ∃ ii, inpI s = ii := ⟨_, rfl⟩;obtain ⟨nb, hnb⟩ : ∃ nb, namB s = nb := ⟨_, rfl⟩;have hib : inpB s = !(ii == 0) := by unfold inpB; rw [hii]
    rw [hii, hib] at N3;rw [hii, hnb] at LC;have NN := Hj fun w' (r : Rel wr w') => NM.out s w' hs1 (hR.out.trans r)
    rw [hnb] at NN;have N2 := Hj N3;clear hc hp hb hl hii hnb hib N3 hx;have IF := Hj fun w' (r : Rel wr w') => rInfer_any ea k ec (nmO E) (dmO E) w' (ENV.out w' r) (by omega) t _ (kids_rel hK.out r) (by omega)
    obtain ⟨ab, hab⟩ : ∃ ab, anK (fun j => (nmO E j).data.toList == s.data.toList) k = ab := ⟨_, rfl⟩;have HAB := Hj hab;obtain ⟨⟨r1, r2⟩, hr⟩ : ∃ r, infV t (nmO E) (dmO E) k = r := ⟨_, rfl⟩;rw [hab, hr] at LC;rw [hr] at LD IF
    have bd0 : r2 = 0 → 1 ≤ r1 ∧ r1 ≤ 4 := by
     intro h;have := BD.1 (by rw [hr]; exact h);unfold letD at this;rw [hEk.out, hr] at this; exact this
    have BD0 := Hj bd0;unfold InfRes at IF;clear hab hr BD bd0
    cases hi : (ii == 0)
    ·have fin := Hj (STOP.out 5 (by rw [LC.out, hi]; rfl) (by decide));rw [hi] at N2;go_wp2_with fail;refine (N2.out _).mono ?_;rintro e w1 ⟨rfl, rfl⟩;go_wp2
     go_ret2
     exact lets_nil fin.out hR.out
    ·rw [hi] at N2;go_wp2_with fail;refine (N2.out _).mono ?_;rintro e w1 ⟨rfl, rfl⟩;cases nb
     ·have fin := Hj (STOP.out 5 (by rw [LC.out, hi]; rfl) (by decide));go_wp2_with fail;refine (NN.out _ (Rel.refl _)).mono ?_;rintro e w2 ⟨rfl, rfl⟩;go_wp2
      go_ret2
      exact lets_nil fin.out hR.out
     ·go_wp2_with fail;refine (NN.out _ (Rel.refl _)).mono ?_;rintro e w2 ⟨rfl, rfl⟩;go_wp2_with fail;obtain ⟨wo, hwo⟩ : ∃ x, x = wr := ⟨_, rfl⟩;subst hwo
      go_loopw [8] (fun i wx => ∃ (q : Nat), q ≤ k ∧ i = .int .i64 q ∧ Hid (∀ j, j < q → ((nmO E j).data.toList == s.data.toList) = false) ∧ Hid (Rel wo wx)) (fun i _ => k - (intOf i).toNat)
      case atStart => exact ⟨0, by omega, rfl, fun j hj => by omega, Rel.refl _⟩
      case round =>
       obtain ⟨q, hqk, rfl, hJ, hQ⟩ := hrel;by_cases hql : q < k
       ·have lq : (q : Int) < (k : Int) := by omega
        have lk : (q : Int) < (n : Int) := by omega
        have cq := hQ.out.cell (CC.out q hql);have cs := hQ.out.cell C0.out;have hnq := (hNm.out q hql).trans (CL.out q hql);simp only [Nat.add_zero] at cq;obtain ⟨y, hy⟩ : ∃ y : ByteArray, (HGET.out q (by omega)).choose.1 = y := ⟨_, rfl⟩;rw [hy] at hnq cq;clear hy;have ceq : (y.toList == s.toList) = ((nmO E q).data.toList == s.data.toList) := by rw [hnq, Lib.toList_data, Lib.toList_data]
        obtain ⟨Z, hZ⟩ : ∃ Z, (y.toList == s.toList) = Z := ⟨_, rfl⟩;rw [hZ] at ceq;have CEQ := Hj ceq.symm;clear ceq hnq;go_wp2_with fail;refine wp_region_calm (fun _ w' => w'.cell? ⟨g, off + q * 7, none⟩ = some (.string y) ∧ w'.cell? ⟨g, off + k * 7, none⟩ = some (.string s)) (fun _ => false) [0, 1, 2, 3, 4, 5, 6, 7, 8, 9, 10] 0 (by kernel_rfl) (by kernel_rfl) ?hst ?hS0 (fun w0 h0 => ?_)
        case hst => exact fun _ _ _ h r => ⟨r.cell h.1, r.cell h.2⟩
        case hS0 => exact ⟨cq, cs⟩
        iterate 11
         refine wpCalm_go rfl (by kernel_rfl) (fun K hK => ?_);apply Exists.intro;refine ⟨fun M w hM hS => ?_, hK _ ?_⟩
         ·have d0 := hS.1;have d1 := hS.2;unfold calmAt;go_simp;exact ⟨rfl, Rel.refl _⟩
         clear hK K
        refine wpCalm_nil (wpAnyR_end (by kernel_rfl) (fun w1 h1 => ?_));simp only [Act.put, zla, zlb, zlc];have RQ : Hid (Rel wo w1) := hQ.out.trans (h0.trans h1);clear h0 h1;cases Z
        ·have fin : Hid (∀ j, j < q + 1 → ((nmO E j).data.toList == s.data.toList) = false) := fun j hj => by
          rcases Nat.lt_or_ge j q with h | h
          ·exact hJ.out j h
          ·rw [show j = q by omega]; exact CEQ.out
         go_wp2
         go_roundw
         case rel => exact ⟨q + 1, by omega, by go_num, fin, RQ⟩
         case measure => simp [intOf]; omega
        ·have hab : ab = true := by rw [← HAB.out]; exact anK_hit hql CEQ.out
         have fin := Hj (STOP.out 10 (by rw [LC.out, hi, hab]; rfl) (by decide));go_wp2
         go_ret2
         exact lets_nil fin.out (hR.out.trans RQ.out)
       ·obtain rfl : k = q := by omega
        have hab : ab = false := by rw [← HAB.out]; exact anK_none hJ.out
        subst hab;clear c0 c1 c2 c3 c4 c5 c6;have CX := Hj fun j (v : Value) (h : wo.cell? ⟨g, off + k * 7 + j, none⟩ = some v) => hQ.out.cell h
        have c0 := hQ.out.cell C0.out;have c1 := CX.out 1 _ C1.out;have c2 := CX.out 2 _ C2.out;have c3 := CX.out 3 _ C3.out;have c4 := CX.out 4 _ C4.out;have c5 := CX.out 5 _ C5.out;have c6 := CX.out 6 _ C6.out;go_wp2_with fail;refine (IF.out _ hQ.out).mono ?_;rintro e w4 ⟨rfl, h4⟩;have R4 := Hj (hQ.out.trans h4);clear h4 c0 c1 c2 c3 c4 c5 c6;have c0 := R4.out.cell C0.out;by_cases hr2 : r2 = 0
        ·subst hr2;have bd := BD0.out rfl;have RA : Hid (Rel _ w4) := R4
         have FS : Hid (letsR L = letsV L (n - (k + 1)) (k + 1) (E ++ [(s, r1)])) := by
          have h := STEP.out (by rw [LC.out, hi]; rfl);rw [LD.out.1, LD.out.2] at h;exact h
         have FN : Hid (∀ q, q < k + 1 → nmO (E ++ [(s, r1)]) q = lN L q) := fun q hq => by
          rcases Nat.lt_or_ge q k with h | h
          ·rw [← hNm.out q h]; unfold nmO; rw [List.getElem?_append_left (by rw [hEk.out]; exact h)]
          ·rw [show q = k by omega, LD.out.2]; unfold nmO; rw [List.getElem?_append_right (by rw [hEk.out]; exact Nat.le_refl _), hEk.out, Nat.sub_self]; rfl
         clear LC STOP STEP N2 NN IF
         go_wp2_with (at_builtin; refine wpList_append_lies _ rfl _ _ 117 rfl w.heap.size 120 ib (.agg #[.string ByteArray.empty, .int .i64 0]) 2 24 Tryz.underlying117 HIb.out HZb0.out HZb1.out HZb2.out rfl (by decide) (.slice ea k ec) k (bndL E) rfl ?d0 _ 1 1 [.string s, .int .i64 r1] rfl rfl ?d1 ?d2 (by decide) ?d3 ?d4 ?d5 _ rfl ?_)
         case d0 => exact own_rel' hO.out (RA.out.alloc _)
         case d1 => exact new_cells2 _ #[.string s, .int .i64 r1] _ (by first | rfl | simp)
         case d2 => intro u hu; simp at hu; rcases hu with rfl | rfl <;> rfl
         case d3 => unfold maxLen; omega
         case d4 => omega
         case d5 => have a1 := hR.out.size; have a2 := RA.out.size; simp; omega
         intro g3 cap3 w12 hown3 hgrow3 hat3 hlt3;have R12 : Hid (Rel w w12) := Below.grown (hR.out.trans (RA.out.alloc _)) hgrow3 (by have a1 := hR.out.size; have a2 := RA.out.size; simp; omega) (fun q hq => (hO.out.lt q hq).1)
         have O12 : Hid (w12.ownsRow w.heap.size 120 2 (.slice (some ⟨g3, 0, none⟩) (k + 1) cap3) (k + 1) (bndL (E ++ [(s, r1)]))) := by
          show World.ownsRow _ _ _ _ _ _ _
          rw [bndL_snoc]; exact hown3
         clear hown3 hgrow3 hat3;go_wp2
         go_roundw
         case rel => exact ⟨k + 1, E ++ [(s, r1)], some ⟨g3, 0, none⟩, cap3, by show _ = _; simp [hEk.out], by omega, by go_num, rfl, R12, O12, FS, (fun p hp => by
          rcases List.mem_append.1 hp with h | h
          ·exact hB.out p h
          ·simp at h; subst h; exact ⟨hs1, bd.1, bd.2⟩), FN⟩
         case measure => simp [intOf]; omega
        ·have er : (r2 == 0) = false := by rw [zn]; exact hr2
         have fin := Hj (STOP.out r2 (by rw [LC.out, hi]; rfl) hr2);clear hr2;go_wp2
         go_ret2
         exact lets_nil fin.out (hR.out.trans R4.out)
   ·have : k = n := by omega
    subst this
    have fin : Hid (letsR L = (0, E)) := by
     have h := hV.out;rw [Nat.sub_self] at h;exact h
    go_wp2
    go_ret2
    exact lets_ret fin.out hEk.out (own_env hO.out hEk.out (fun p hp => bnG_ok (hB.out p hp))) hB.out (by omega) hR.out
end Go.Proofs.YtlmclkaighlfaaaGreatDoor

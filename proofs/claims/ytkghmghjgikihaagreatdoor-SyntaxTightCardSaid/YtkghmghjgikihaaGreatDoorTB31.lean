/- Bundle of texts: each says at its head what it proves; no conditions but those printed. -/
import Derived.Test.YtkghmghjgikihaaGreatDoorTB29
import Derived.Test.YtkghmghjgikihaaGreatDoorTB30
/- Walk of the law SyntaxTight. No conditions but those printed. -/
namespace Go.Proofs.YtkghmghjgikihaaGreatDoor
open Go.RowKit Cal Str Tok Frac Txt Tree
attribute [local go_sem] calmUpon
set_option linter.unusedVariables false
set_option linter.unusedSimpArgs false
def intL (L : List Nat) : List Value := L.map fun (o : Nat) => .int .i64 (o : Int)
theorem intL_snoc (L : List Nat) (k : Nat) : intL (L ++ [k]) = intL L ++ [.int .i64 (k : Int)] := by unfold intL; simp
theorem intL_get {L : List Nat} {q o : Nat} (h : L[q]? = some o) : (intL L)[q]? = some (.int .i64 (o : Int)) := by unfold intL; rw [List.getElem?_map, h]; rfl
theorem new1i (w : World) (x : Value) (T : TypeId) : ∀ (j : Nat) u, [x][j]? = some u → (w.alloc (.cells #[x] T)).cell? ((⟨w.heap.size, 0, none⟩ : Addr).add j) = some u := by
 intro j u h
 match j with
 | 0 => simp at h; subst h; simp [Addr.add]
 | j + 1 => simp at h
def Opn (S : ByteArray) (L : List Nat) : Prop := ∀ o ∈ L, ∃ h : o < S.size, (S[o].toNat : Int) = 40
theorem opn_snoc {S : ByteArray} {L : List Nat} {k : Nat} (h : Opn S L) (hk : k < S.size) (hc : (S[k].toNat : Int) = 40) : Opn S (L ++ [k]) := fun o ho => by
 rcases List.mem_append.1 ho with h1 | h1
 ·exact h o h1
 ·obtain rfl : o = k := by simpa using h1
  exact ⟨hk, hc⟩
def Dep (S : ByteArray) (o k z : Nat) : Prop := z + c41 ((S.data.toList.drop o).take (k - o)) = c40 ((S.data.toList.drop o).take (k - o))
theorem dep_start (S : ByteArray) (o : Nat) : Dep S o o 0 := by unfold Dep; rw [Nat.sub_self]; rfl
theorem dep_take {S : ByteArray} {o k : Nat} (hok : o ≤ k) (hk : k < S.size) : (S.data.toList.drop o).take (k + 1 - o) = (S.data.toList.drop o).take (k - o) ++ [S[k]] := by
 rw [show k + 1 - o = k - o + 1 by omega, List.take_add_one]
 congr 1
 rw [List.getElem?_drop, show o + (k - o) = k by omega, at_list S k hk]; rfl
theorem u8_eq {c : UInt8} {n : Nat} (hn : n < 256) (h : (c.toNat : Int) = n) : c = UInt8.ofNat n := by
 apply UInt8.toNat_inj.1
 simp; omega
theorem dep_40 {S : ByteArray} {o k z : Nat} (h : Dep S o k z) (hok : o ≤ k) (hk : k < S.size) (hc : (S[k].toNat : Int) = 40) : Dep S o (k + 1) (z + 1) := by
 unfold Dep c40 c41 at *
 rw [dep_take hok hk, u8_eq (n := 40) (by decide) hc, List.count_append, List.count_append]
 simp; omega
theorem dep_41 {S : ByteArray} {o k z : Nat} (h : Dep S o k (z + 1)) (hok : o ≤ k) (hk : k < S.size) (hc : (S[k].toNat : Int) = 41) : Dep S o (k + 1) z := by
 unfold Dep c40 c41 at *
 rw [dep_take hok hk, u8_eq (n := 41) (by decide) hc, List.count_append, List.count_append]
 simp; omega
theorem dep_no {S : ByteArray} {o k z : Nat} (h : Dep S o k z) (hok : o ≤ k) (hk : k < S.size) (h0 : ¬ (S[k].toNat : Int) = 40) (h1 : ¬ (S[k].toNat : Int) = 41) : Dep S o (k + 1) z := by
 have e0 : ¬ S[k] = 40 := fun e => h0 (by rw [e]; rfl)
 have e1 : ¬ S[k] = 41 := fun e => h1 (by rw [e]; rfl)
 unfold Dep c40 c41 at *
 have z0 : [S[k]].count 40 = 0 := List.count_eq_zero.2 (fun h => e0 (by rcases List.mem_singleton.1 h with e; exact e.symm))
 have z1 : [S[k]].count 41 = 0 := List.count_eq_zero.2 (fun h => e1 (by rcases List.mem_singleton.1 h with e; exact e.symm))
 rw [dep_take hok hk, List.count_append, List.count_append, z0, z1]
 omega
theorem dep_end {S : ByteArray} {o z : Nat} (h : Dep S o S.size z) (hs : Suf S.data.toList) : z = 0 := by
 have := hs o
 unfold Dep at h
 rw [List.take_of_length_le (by rw [drop_len]; omega)] at h
 omega
def cutS (S : ByteArray) (o k : Nat) : ByteArray := (S.extract 0 o ++ S.extract (o + 1) k) ++ S.extract (k + 1) S.size
theorem cut_parts {S : ByteArray} {o k : Nat} (hok : o < k) (hk : k < S.size) (ho : (S[o].toNat : Int) = 40) (hc : (S[k].toNat : Int) = 41) :
  ∃ a b c, S.data.toList = a ++ 40 :: (b ++ 41 :: c) ∧ (cutS S o k).data.toList = a ++ (b ++ c) := by
 refine ⟨S.data.toList.take o, (S.data.toList.drop (o + 1)).take (k - (o + 1)), S.data.toList.drop (k + 1), ?_, ?_⟩
 ·have d1 := drop_cons S o (by omega)
  have d2 := drop_cons S k hk
  rw [u8_eq (n := 40) (by decide) ho] at d1
  rw [u8_eq (n := 41) (by decide) hc] at d2
  have e1 : S.data.toList.drop (o + 1) = (S.data.toList.drop (o + 1)).take (k - (o + 1)) ++ S.data.toList.drop k := by
   have := (List.take_append_drop (k - (o + 1)) (S.data.toList.drop (o + 1))).symm
   rwa [List.drop_drop, show o + 1 + (k - (o + 1)) = k by omega] at this
  have e0 := (List.take_append_drop o S.data.toList).symm
  rw [d1, e1, d2] at e0
  exact e0
 ·unfold cutS
  rw [app_list, app_list, ext_data, ext_data, ext_data, List.drop_zero, Nat.sub_zero, List.append_assoc]
  congr 2
  exact List.take_of_length_le (by rw [drop_len]; omega)
theorem cut_size {S : ByteArray} {o k : Nat} (hs : S.size ≤ 4200) : (cutS S o k).size ≤ 12600 := by
 unfold cutS
 rw [ByteArray.size_append, ByteArray.size_append, ByteArray.size_extract, ByteArray.size_extract, ByteArray.size_extract]
 omega
set_option maxRecDepth 20000 in
set_option maxHeartbeats 8000000 in
theorem walk_SyntaxTight (w : World) (ht : TabW w) (a0 : Value) (n0 : Nat) (a1 : Int) (a2 : Int) (b0 : IntsIn w a0 n0) (b1 : -9223372036854775808 ≤ a1) (c1 : a1 ≤ 9223372036854775807) (b2 : -9223372036854775808 ≤ a2) (c2 : a2 ≤ 9223372036854775807) :
  Calls Tryz.prog 7 #[a0, .int .i64 a1, .int .i64 a2] w (BRes true w) := by
 obtain ⟨s0, p0, rfl, hn0, -⟩ := id b0
 have HT := Lib.hid ht
 have B0 := Lib.hid b0
 clear ht b0
 unfold BRes
 by_cases h2 : 200 < n0
 ·have e1 : decide ((200 : Int) < (n0 : Int)) = true := decide_eq_true (by omega)
  go_enter Tryz.func7, Tryz.ntmps7
  go_wp2
  go_ret
  exact ⟨rfl, by (show Rel _ _; repeat (first | with_reducible exact Rel.refl _ | with_reducible refine Rel.alloc ?_ _ | with_reducible refine Rel.setCell ?_ (by first | (simp; done) | (simp; omega)) _ | with_reducible refine Rel.drew ?_ | with_reducible refine Rel.trans ?_ H0.out))⟩
 ·have e1 : decide ((200 : Int) < (n0 : Int)) = false := decide_eq_false (by omega)
  have P1 := Lib.hid fun w => pick_any a1 4 w b1 c1 (by decide) (by decide)
  obtain ⟨y, hy, hy0, hy4⟩ : ∃ y, a1 % 4 = y ∧ 0 ≤ y ∧ y < 4 := ⟨_, rfl, by omega, by omega⟩
  rw [hy] at P1
  obtain ⟨dim, hdim⟩ : ∃ dim, 1 + y = dim := ⟨_, rfl⟩
  have wy : IntKind.i64.wrap (1 + y) = dim := by rw [← hdim]; exact IntWalk.i64_in _ ⟨by omega, by omega⟩
  have dim1 : 1 ≤ dim := by omega
  have dim4 : dim ≤ 4 := by omega
  clear hy hdim
  go_enter Tryz.func7, Tryz.ntmps7
  go_wp2_with fail
  refine (P1.out _).mono ?_
  rintro e w1 ⟨rfl, rfl⟩
  go_wp2_with fail
  refine (env_any _).mono ?_
  unfold EnvRes
  rintro e w1 ⟨g, rfl, hE, h1⟩
  have R1 := Lib.hid h1
  have E1 := Lib.hid hE
  clear h1 hE wy
  go_wp2_with fail
  refine (Expr_any _ n0 dim _ 4 4 nmE dmE _ (intsS B0.out R1.out) E1.out (by omega) envG_E ⟨dim1, dim4⟩).mono ?_
  unfold TyRes
  rintro e w2 ⟨t, x, rfl, hK, hz, h2', hT⟩
  obtain ⟨xa, xc, rfl⟩ := kids_slice (kidsB_to hK)
  have HK := Lib.hid (kidsB_to hK)
  have R2 := Lib.hid (R1.out.trans h2')
  have HV := Lib.hid hT.1
  clear hK h2' hT
  have BT := Lib.hid (BoxAt.new (w := w2) (g := w2.heap.size) rfl (.int .i64 t.op) (.int .i64 t.va) (.int .i64 t.vb) (.int .i64 t.dm) (.string t.nm) (.slice xa t.cnt xc) 29)
  obtain ⟨X, hX⟩ : ∃ X, w2.alloc (.cells #[.int .i64 t.op, .int .i64 t.va, .int .i64 t.vb, .int .i64 t.dm, .string t.nm, .slice xa t.cnt xc] 29) = X := ⟨_, rfl⟩
  have RX : Rel w2 X := by rw [← hX]; exact (Rel.refl _).alloc _
  rw [hX] at BT
  have bt := BT.out
  have RXw := Lib.hid (R2.out.trans RX)
  have TX := Lib.hid (HT.out.rel RXw.out)
  have KT := Lib.hid (kids_rel HK.out RX)
  have V1 := Lib.hid fun w' (r : Rel X w') => FormatExpr_any t _ w' (kids_rel KT.out r) (by omega) (Lib.hid (TX.out.rel r))
  unfold SbRes at V1
  rw [fmt_valid HV.out, HV.out] at V1
  have zS := put_size (valid_form HV.out).1 hz 0
  obtain ⟨-, hSuf⟩ := put_open (valid_form HV.out).1 0
  have HTI : Hid (∀ (a b c : List UInt8) (u : ByteArray) (f : Ex) (x : Int), (t.put 0).data.toList = a ++ 40 :: (b ++ 41 :: c) → u.data.toList = a ++ (b ++ c) → prV u = (f, x, 0) → t.same f = false) := fun a b c u f x h1 h2 h3 => Tree.tight HV.out h1 h2 h3
  have A0 := Lib.hid fun w' (r : Rel X w') => awake_any w' (TX.out.rel r)
  unfold BRes at A0
  obtain ⟨S, hS⟩ : ∃ v, t.put 0 = v := ⟨_, rfl⟩
  rw [hS] at V1 HTI hSuf zS
  have HSuf := Lib.hid hSuf
  have hi3 : (Tryz.prog.info? 3).map (fun i => (i.zero, i.size, i.bytes)) = some (some (.int .i64 0), 1, 8) := by kernel_rfl
  obtain ⟨i0, hi, hx⟩ := Option.map_eq_some_iff.1 hi3
  simp only [Prod.mk.injEq] at hx
  obtain ⟨hz0, hz1, hz2⟩ := hx
  have HI := Lib.hid hi
  have HZ0 := Lib.hid hz0
  have HZ1 := Lib.hid hz1
  have HZ2 := Lib.hid hz2
  clear hi3 hi hz0 hz1 hz2
  have c0 := bt.c0
  have c1 := bt.c1
  have c2' := bt.c2
  have c3 := bt.c3
  have c4 := bt.c4
  have c5 := bt.c5
  clear hS hz HV hSuf
  go_wp2_with fail
  refine (V1.out _ (Rel.refl _)).mono ?_
  rintro e w3 ⟨rfl, h3⟩
  have R3 := Lib.hid h3
  clear h3 c0 c1 c2' c3 c4 c5
  go_wp2_with fail
  refine (A0.out _ R3.out).mono ?_
  rintro e w4 ⟨rfl, h4⟩
  have R4 := Lib.hid (R3.out.trans h4)
  clear h4
  go_wp2_with fail
  go_loopw [10, 11] (fun v i wx => ∃ (k : Nat) (L : List Nat) (vv : Value), vv = v ∧ k ≤ S.size ∧ i = .int .i64 k ∧ Hid (L.length ≤ k) ∧ Hid (Opn S L) ∧ Hid (wx.ownsRow w4.heap.size 3 1 vv L.length (intL L)) ∧ Hid (Rel w4 wx)) (fun _ i _ => S.size - (intOf i).toNat)
  case atStart => exact ⟨0, [], _, rfl, by omega, rfl, (by show _ ≤ _; simp), fun o ho => by simp at ho, World.ownsRow_nil _ _ _ _, Rel.refl _⟩
  case round =>
   obtain ⟨k, L, vv, rfl, hk, rfl, hLk, hOp, hO, hR⟩ := hrel
   have hLk' := hLk.out
   by_cases hlt : k < S.size
   ·have ki : (k : Int) < (S.size : Int) := by omega
    have sz := hR.out.size
    have O1 := Lib.hid (own_rel hO.out ((Rel.refl wr).alloc (.cells #[.int .i64 (k : Int)] 3)))
    by_cases h40 : (S[k].toNat : Int) = 40
    ·have e40 : ((S[k].toNat : Int) == 40) = true := by rw [beq_iff_eq]; exact h40
     by_cases hk0 : k = 0
     ·subst hk0
      have O1 := Lib.hid (own_rel hO.out ((Rel.refl wr).alloc (.cells #[.int .i64 0] 3)))
      go_wp2_with (at_builtin; refine wpList_append_own _ rfl _ _ 22 rfl w4.heap.size 3 i0 (.int .i64 0) 1 8 Tryz.underlying22 HI.out HZ0.out HZ1.out HZ2.out rfl (by decide) vv L.length (intL L) rfl O1.out ⟨wr.heap.size, 0, none⟩ 1 1 [.int .i64 0] rfl rfl ?c1 ?c2 ?c3 ?c4 ?c5 ?_)
      case c1 => exact new1i wr (.int .i64 0) 3
      case c2 => intro u hu; simp at hu; subst hu; rfl
      case c3 => unfold maxLen; omega
      case c4 => omega
      case c5 => simp; omega
      intro v' w9 hown' hgrow _
      have R9 : Hid (Rel w4 w9) := by
       show Rel _ w9
       exact Below.grown (hR.out.alloc _) hgrow (by simp; omega) (fun q hq => (hO.out.lt q hq).1)
      have O9 : Hid (w9.ownsRow w4.heap.size 3 1 v' (L ++ [0]).length (intL (L ++ [0]))) := by
       show World.ownsRow _ _ _ _ _ _ _
       rw [intL_snoc, List.length_append]; exact hown'
      clear hown' hgrow
      go_wp2
      go_roundw
      case rel => exact ⟨1, L ++ [0], v', rfl, by omega, rfl, (by have := hLk.out; show List.length _ ≤ _; rw [List.length_append]; show L.length + 1 ≤ _; omega), opn_snoc hOp.out hlt h40, O9, R9⟩
      case measure => simp [intOf]; omega
     ·have ek : ((k : Int) == 0) = false := by rw [beq_eq_false_iff_ne]; omega
      have wk : IntKind.i64.wrap ((k : Int) - 1) = ((k - 1 : Nat) : Int) := by
       rw [IntWalk.i64_in _ ⟨by omega, by omega⟩]; omega
      have hk1 : k - 1 < S.size := by omega
      obtain ⟨c, hc⟩ : ∃ c : UInt8, S[k - 1] = c := ⟨_, rfl⟩
      have hkz : (0 : Int) ≤ ((k - 1 : Nat) : Int) := by omega
      have hkz1 : ((k - 1 : Nat) : Int) < (S.size : Int) := by omega
      by_cases h32 : (c.toNat : Int) = 32
      ·have e32 : ((S[k - 1].toNat : Int) == 32) = true := by rw [hc, beq_iff_eq]; exact h32
       clear hc
       go_wp2_with (at_builtin; refine wpList_append_own _ rfl _ _ 22 rfl w4.heap.size 3 i0 (.int .i64 0) 1 8 Tryz.underlying22 HI.out HZ0.out HZ1.out HZ2.out rfl (by decide) vv L.length (intL L) rfl O1.out ⟨wr.heap.size, 0, none⟩ 1 1 [.int .i64 (k : Int)] rfl rfl ?c1 ?c2 ?c3 ?c4 ?c5 ?_)
       case c1 => exact new1i wr (.int .i64 (k : Int)) 3
       case c2 => intro u hu; simp at hu; subst hu; rfl
       case c3 => unfold maxLen; omega
       case c4 => omega
       case c5 => simp; omega
       intro v' w9 hown' hgrow _
       have R9 : Hid (Rel w4 w9) := by
        show Rel _ w9
        exact Below.grown (hR.out.alloc _) hgrow (by simp; omega) (fun q hq => (hO.out.lt q hq).1)
       have O9 : Hid (w9.ownsRow w4.heap.size 3 1 v' (L ++ [k]).length (intL (L ++ [k]))) := by
        show World.ownsRow _ _ _ _ _ _ _
        rw [intL_snoc, List.length_append]; exact hown'
       clear hown' hgrow
       go_wp2
       go_roundw
       case rel => exact ⟨k + 1, L ++ [k], v', rfl, by omega, by go_num, (by have := hLk.out; show List.length _ ≤ _; rw [List.length_append]; show L.length + 1 ≤ _; omega), opn_snoc hOp.out hlt h40, O9, R9⟩
       case measure => simp [intOf]; omega
      ·have e32 : ((S[k - 1].toNat : Int) == 32) = false := by rw [hc, beq_eq_false_iff_ne]; exact h32
       by_cases h45 : (c.toNat : Int) = 45
       ·have e45 : ((S[k - 1].toNat : Int) == 45) = true := by rw [hc, beq_iff_eq]; exact h45
        clear hc
        go_wp2_with (at_builtin; refine wpList_append_own _ rfl _ _ 22 rfl w4.heap.size 3 i0 (.int .i64 0) 1 8 Tryz.underlying22 HI.out HZ0.out HZ1.out HZ2.out rfl (by decide) vv L.length (intL L) rfl O1.out ⟨wr.heap.size, 0, none⟩ 1 1 [.int .i64 (k : Int)] rfl rfl ?c1 ?c2 ?c3 ?c4 ?c5 ?_)
        case c1 => exact new1i wr (.int .i64 (k : Int)) 3
        case c2 => intro u hu; simp at hu; subst hu; rfl
        case c3 => unfold maxLen; omega
        case c4 => omega
        case c5 => simp; omega
        intro v' w9 hown' hgrow _
        have R9 : Hid (Rel w4 w9) := by
         show Rel _ w9
         exact Below.grown (hR.out.alloc _) hgrow (by simp; omega) (fun q hq => (hO.out.lt q hq).1)
        have O9 : Hid (w9.ownsRow w4.heap.size 3 1 v' (L ++ [k]).length (intL (L ++ [k]))) := by
         show World.ownsRow _ _ _ _ _ _ _
         rw [intL_snoc, List.length_append]; exact hown'
        clear hown' hgrow
        go_wp2
        go_roundw
        case rel => exact ⟨k + 1, L ++ [k], v', rfl, by omega, by go_num, (by have := hLk.out; show List.length _ ≤ _; rw [List.length_append]; show L.length + 1 ≤ _; omega), opn_snoc hOp.out hlt h40, O9, R9⟩
        case measure => simp [intOf]; omega
       ·have e45 : ((S[k - 1].toNat : Int) == 45) = false := by rw [hc, beq_eq_false_iff_ne]; exact h45
        by_cases h41 : (c.toNat : Int) = 40
        ·have e41 : ((S[k - 1].toNat : Int) == 40) = true := by rw [hc, beq_iff_eq]; exact h41
         clear hc
         go_wp2_with (at_builtin; refine wpList_append_own _ rfl _ _ 22 rfl w4.heap.size 3 i0 (.int .i64 0) 1 8 Tryz.underlying22 HI.out HZ0.out HZ1.out HZ2.out rfl (by decide) vv L.length (intL L) rfl O1.out ⟨wr.heap.size, 0, none⟩ 1 1 [.int .i64 (k : Int)] rfl rfl ?c1 ?c2 ?c3 ?c4 ?c5 ?_)
         case c1 => exact new1i wr (.int .i64 (k : Int)) 3
         case c2 => intro u hu; simp at hu; subst hu; rfl
         case c3 => unfold maxLen; omega
         case c4 => omega
         case c5 => simp; omega
         intro v' w9 hown' hgrow _
         have R9 : Hid (Rel w4 w9) := by
          show Rel _ w9
          exact Below.grown (hR.out.alloc _) hgrow (by simp; omega) (fun q hq => (hO.out.lt q hq).1)
         have O9 : Hid (w9.ownsRow w4.heap.size 3 1 v' (L ++ [k]).length (intL (L ++ [k]))) := by
          show World.ownsRow _ _ _ _ _ _ _
          rw [intL_snoc, List.length_append]; exact hown'
         clear hown' hgrow
         go_wp2
         go_roundw
         case rel => exact ⟨k + 1, L ++ [k], v', rfl, by omega, by go_num, (by have := hLk.out; show List.length _ ≤ _; rw [List.length_append]; show L.length + 1 ≤ _; omega), opn_snoc hOp.out hlt h40, O9, R9⟩
         case measure => simp [intOf]; omega
        ·have e41 : ((S[k - 1].toNat : Int) == 40) = false := by rw [hc, beq_eq_false_iff_ne]; exact h41
         clear hc
         go_wp2
         go_roundw
         case rel => exact ⟨k + 1, L, vv, rfl, by omega, by go_num, (by show _ ≤ _; have := hLk.out; omega), hOp, hO, hR⟩
         case measure => simp [intOf]; omega
    ·have e40 : ((S[k].toNat : Int) == 40) = false := by rw [beq_eq_false_iff_ne]; exact h40
     go_wp2
     go_roundw
     case rel => exact ⟨k + 1, L, vv, rfl, by omega, by go_num, (by show _ ≤ _; have := hLk.out; omega), hOp, hO, hR⟩
     case measure => simp [intOf]; omega
   ·obtain rfl : k = S.size := by omega
    have W5 := Lib.hid (R4.out.trans hR.out)
    by_cases hm : L.length = 0
    ·rw [hm] at hO
     obtain ⟨ad, cap, rfl⟩ : ∃ ad cap, vv = .slice ad 0 cap := by
      rcases hO.out.2 with ⟨e, h0⟩ | ⟨g, cap, cur, e, -⟩
      ·exact ⟨none, 0, e⟩
      ·exact ⟨_, cap, e⟩
     go_wp2
     go_ret
     exact ⟨rfl, RXw.out.trans W5.out⟩
    ·obtain ⟨m, hm'⟩ : ∃ m, L.length = m := ⟨_, rfl⟩
     have hm0 : 1 ≤ m := by omega
     have hm4 : m ≤ 4200 := by omega
     rw [hm'] at hO
     obtain ⟨g, cap, rfl, hg⟩ : ∃ g cap, vv = .slice (some ⟨g, 0, none⟩) m cap ∧ ∀ q o : Nat, L[q]? = some o → wr.cell? ⟨g, q, none⟩ = some (.int .i64 (o : Int)) := by
      rcases hO.out.2 with ⟨e, h0⟩ | ⟨g, cap, cur, e, -⟩
      ·omega
      ·refine ⟨g, cap, e, fun q o h => ?_⟩
       have := hO.out.cells (g := g) (by rw [e]; rfl) _ _ (intL_get h)
       have hadd : (⟨g, 0, none⟩ : Addr).add q = ⟨g, q, none⟩ := by unfold Addr.add; split <;> simp_all
       rwa [hadd] at this
     have em : ((m : Int) == 0) = false := by rw [beq_eq_false_iff_ne]; omega
     have P2 := Lib.hid fun w => pick_any a2 m w b2 c2 (by omega) (by omega)
     have r0 := Int.emod_nonneg a2 (show (m : Int) ≠ 0 by omega)
     have r1 := Int.emod_lt_of_pos a2 (show (0 : Int) < m by omega)
     obtain ⟨q, hq⟩ : ∃ q : Nat, a2 % (m : Int) = q := ⟨(a2 % (m : Int)).toNat, by omega⟩
     rw [hq] at P2 r1
     have hqm : q < m := by omega
     obtain ⟨o, ho⟩ : ∃ o, L[q]? = some o := ⟨_, List.getElem?_eq_getElem (by omega)⟩
     have cq := hg q o ho
     obtain ⟨hoS, ho40⟩ := hOp.out o (List.mem_of_getElem? ho)
     have HOS := Lib.hid ho40
     clear hq hg r0 hLk' hLk hOp hO hm hm' ho ho40
     go_wp2_with fail
     refine (P2.out _).mono ?_
     rintro e w5 ⟨rfl, rfl⟩
     go_wp2_with fail
     have HO := Lib.hid (dep_start S o)
     go_loop [13, 14] (fun d i => ∃ (k z : Nat), d = .int .i64 z ∧ i = .int .i64 k ∧ o ≤ k ∧ k ≤ S.size ∧ z ≤ k ∧ (k = o ∧ z = 0 ∨ o < k ∧ 1 ≤ z) ∧ Hid (Dep S o k z)) (fun _ i => S.size - (intOf i).toNat)
     case atStart => exact ⟨o, 0, rfl, rfl, Nat.le_refl _, by omega, by omega, .inl ⟨rfl, rfl⟩, HO⟩
     case round =>
      obtain ⟨k, z, rfl, rfl, hok, hk, hzk, hways, hD⟩ := hrel
      by_cases hlt : k < S.size
      ·have ki : (k : Int) < (S.size : Int) := by omega
       by_cases h40 : (S[k].toNat : Int) = 40
       ·have e40 : ((S[k].toNat : Int) == 40) = true := by rw [beq_iff_eq]; exact h40
        have e41 : ((S[k].toNat : Int) == 41) = false := by rw [beq_eq_false_iff_ne]; omega
        have ez : (((z : Int) + 1) == 0) = false := by rw [beq_eq_false_iff_ne]; omega
        go_wp2
        go_round
        case rel => exact ⟨k + 1, z + 1, by go_num, by go_num, by omega, by omega, by omega, .inr ⟨by omega, by omega⟩, dep_40 hD.out hok hlt h40⟩
        case measure => simp [intOf]; omega
       ·have e40 : ((S[k].toNat : Int) == 40) = false := by rw [beq_eq_false_iff_ne]; exact h40
        have hkz : o < k ∧ 1 ≤ z := by
         rcases hways with ⟨rfl, -⟩ | h
         ·exact absurd HOS.out h40
         ·exact h
        by_cases h41 : (S[k].toNat : Int) = 41
        ·have e41 : ((S[k].toNat : Int) == 41) = true := by rw [beq_iff_eq]; exact h41
         obtain ⟨z, rfl⟩ : ∃ y, z = y + 1 := ⟨z - 1, by omega⟩
         by_cases hz0 : z = 0
         ·subst hz0
          have hcut := cut_parts hkz.1 hlt HOS.out h41
          have zu : (cutS S o k).size ≤ 12600 := cut_size zS
          obtain ⟨f, x, cd, hp⟩ : ∃ f x cd, prV (cutS S o k) = (f, x, cd) := ⟨_, _, _, rfl⟩
          have hsm : Hid (cd = 0 → t.same f = false) := fun h0 => by
           obtain ⟨l1, l2, l3, q1, q2⟩ := hcut
           exact HTI.out l1 l2 l3 _ f x q1 q2 (by rw [hp, h0])
          have PX := Lib.hid fun w' (r : Rel X w') => ParseExpr_anyB (cutS S o k) w' (by omega) (Lib.hid (TX.out.rel r))
          rw [hp] at PX
          unfold PxResB at PX
          dsimp only at PX
          have e3 : ((S.extract 0 o ++ S.extract (o + 1) k) ++ S.extract (k + 1) S.size : ByteArray) = cutS S o k := rfl
          have z1 : (S.extract 0 o).size ≤ 4200 := by rw [ByteArray.size_extract]; omega
          have z2 : (S.extract (o + 1) k).size ≤ 4200 := by rw [ByteArray.size_extract]; omega
          have z3 : (S.extract (k + 1) S.size).size ≤ 4200 := by rw [ByteArray.size_extract]; omega
          have z12 : (S.extract 0 o ++ S.extract (o + 1) k).size ≤ 8400 := by rw [ByteArray.size_append]; omega
          obtain ⟨U1, hU1⟩ : ∃ U, S.extract 0 o = U := ⟨_, rfl⟩
          obtain ⟨U2, hU2⟩ : ∃ U, S.extract (o + 1) k = U := ⟨_, rfl⟩
          obtain ⟨U3, hU3⟩ : ∃ U, S.extract (k + 1) S.size = U := ⟨_, rfl⟩
          obtain ⟨U, hU⟩ : ∃ U, cutS S o k = U := ⟨_, rfl⟩
          rw [hU] at PX
          rw [hU1, hU2, hU3, hU] at e3
          have w1' : IntKind.i64.wrap ((o : Int) + 1) = (o : Int) + 1 := IntWalk.i64_in _ ⟨by omega, by omega⟩
          have w2' : IntKind.i64.wrap ((k : Int) + 1) = (k : Int) + 1 := IntWalk.i64_in _ ⟨by omega, by omega⟩
          have b1' : (o : Int) ≤ (S.size : Int) := by omega
          have b2' : (o : Int) + 1 ≤ (k : Int) := by omega
          have b7' : (0 : Int) ≤ (o : Int) + 1 := by omega
          have b8' : (0 : Int) ≤ (k : Int) + 1 := by omega
          have b3' : (k : Int) + 1 ≤ (S.size : Int) := by omega
          have b4' : (k : Int) ≤ (S.size : Int) := by omega
          have b5' : ¬ 9223372036854775807 < U1.size + U2.size := by rw [← hU1, ← hU2]; omega
          have b6' : ¬ 9223372036854775807 < U1.size + U2.size + U3.size := by rw [← hU1, ← hU2, ← hU3]; omega
          have bt' := BT.out
          clear hcut zu hp
          go_upto_region 26 with (fail)
          refine wp_region_calm (fun _ _ => True) (fun _ => false) [0, 1, 2, 3, 4, 5, 6, 7, 8, 9, 10, 11, 12, 13] 9 (by kernel_rfl) (by kernel_rfl) (fun _ _ _ _ _ => trivial) trivial (fun w0 h0 => ?_)
          iterate 14
           refine wpCalm_go rfl (by kernel_rfl) (fun K hK => ?_)
           apply Exists.intro
           refine ⟨fun M w hM hS => ?_, hK _ ?_⟩
           ·unfold calmAt
            go_simp
            exact ⟨rfl, Rel.refl _⟩
           clear hK K
          refine wpCalm_nil ?_
          have H0 := Lib.hid h0
          clear h0
          refine wpAnyR_ready (rs := [14, 19]) (by kernel_rfl) (by simp) (AllR.cons rfl (fun w6 h6 K' hK' => ?_) (AllR.cons rfl (fun w6 h6 K' hK' => ?_) AllR.nil))
          ·go_simp
           refine (PX.out _ ((W5.out.trans H0.out).trans h6)).mono ?_
           rintro e w7 ⟨v, rfl, hK7, h7⟩
           obtain ⟨va, vc, rfl⟩ := kids_slice (kidsB_to hK7)
           have R7 := Lib.hid (((W5.out.trans H0.out).trans h6).trans h7)
           have K7 := Lib.hid (kidsB_to hK7)
           clear hK7 h6 h7
           refine hK'.out _ _ trivial ?_
           clear hK' K'
           refine wpAnyR_more [15, 16, 17, 18] 4 (by kernel_rfl) (fun _ _ _ _ _ => trivial) trivial ?_
           iterate 4
            refine wpCalm_go rfl (by kernel_rfl) (fun K hK => ?_)
            apply Exists.intro
            refine ⟨fun M w hM hS => ?_, hK _ ?_⟩
            ·unfold calmAt
             go_simp
             exact ⟨rfl, Rel.refl _⟩
            clear hK K
           refine wpCalm_nil ?_
           refine wpAnyR_ready (rs := [19]) (by kernel_rfl) (by simp) (AllR.cons rfl (fun w8 h8 K' hK' => ?_) AllR.nil)
           have BU := Lib.hid (BoxAt.new (w := w8) (g := w8.heap.size) rfl (.int .i64 0) (.int .i64 0) (.int .i64 0) (.int .i64 0) (.string ⟨#[]⟩) (.slice none 0 0) 29)
           have R8 := Lib.hid ((R7.out.trans h8).alloc (.cells #[.int .i64 0, .int .i64 0, .int .i64 0, .int .i64 0, .string ⟨#[]⟩, .slice none 0 0] 29))
           have zx : X.heap.size ≤ w8.heap.size := (R7.out.trans h8).size
           have z7 : w7.heap.size ≤ w8.heap.size := h8.size
           have r8 := Lib.hid (h8.alloc (.cells #[.int .i64 0, .int .i64 0, .int .i64 0, .int .i64 0, .string ⟨#[]⟩, .slice none 0 0] 29))
           clear h8
           go_simp
           refine hK'.out _ _ trivial ?_
           clear hK' K'
           refine wpAnyR_ready (rs := [20]) (by kernel_rfl) (by simp) (AllR.cons rfl (fun w9 h9 K' hK' => ?_) AllR.nil)
           obtain ⟨gl, g0, g1, g2, g3, g4, g5, e0, e1', e2, e3', e4, e5⟩ := BU.out.rel h9
           have BV := Lib.hid ((BU.out.rel h9).put6 (.int .i64 f.op) (.int .i64 f.va) (.int .i64 f.vb) (.int .i64 f.dm) (.string f.nm) (.slice va f.cnt vc))
           have R9 := Lib.hid (R8.out.trans h9)
           have r9 := Lib.hid (r8.out.trans h9)
           clear h9
           go_simp
           refine hK'.out _ _ trivial ?_
           clear hK' K' gl g0 g1 g2 g3 g4 g5 e0 e1' e2 e3' e4 e5
           obtain ⟨Z, hZ⟩ : ∃ Z, (((((w9.setCell ⟨w8.heap.size, 0, none⟩ (.int .i64 f.op)).setCell ⟨w8.heap.size, 1, none⟩ (.int .i64 f.va)).setCell ⟨w8.heap.size, 2, none⟩ (.int .i64 f.vb)).setCell ⟨w8.heap.size, 3, none⟩ (.int .i64 f.dm)).setCell ⟨w8.heap.size, 4, none⟩ (.string f.nm)).setCell ⟨w8.heap.size, 5, none⟩ (.slice va f.cnt vc) = Z := ⟨_, rfl⟩
           have RZ : Rel X Z := by
            rw [← hZ]
            exact rel_six R9.out zx _ _ _ _ _ _
           have KZ : ExKids f Z (.slice va f.cnt vc) := by
            rw [← hZ]
            exact kids_rel K7.out (rel_six r9.out z7 _ _ _ _ _ _)
           rw [hZ] at BV ⊢
           clear hZ
           refine wpAnyR_ready (rs := [21]) (by kernel_rfl) (by simp) (AllR.cons rfl (fun w10 h10 K' hK' => ?_) AllR.nil)
           go_simp
           refine hK'.out _ _ trivial ?_
           clear hK' K'
           refine wpAnyR_ready (rs := [22]) (by kernel_rfl) (by simp) (AllR.cons rfl (fun w11 h11 K' hK' => ?_) AllR.nil)
           go_simp
           refine hK'.out _ _ trivial ?_
           clear hK' K'
           refine wpAnyR_end (by kernel_rfl) (fun w12 h12 => ?_)
           (try simp only [Act.put, List.setIfInBounds_toArray, List.set_cons_zero, List.set_cons_succ])
           have r12 := (h10.trans h11).trans h12
           have RW := Lib.hid (RZ.trans r12)
           have KW := Lib.hid (kids_rel KZ r12)
           have BW := Lib.hid (BV.out.rel r12)
           have KT' := Lib.hid (kids_rel KT.out RW.out)
           clear RZ KZ BV h10 h11 h12 r12
           have c0 := RW.out.cell bt'.c0
           have c1 := RW.out.cell bt'.c1
           have c2' := RW.out.cell bt'.c2
           have c3 := RW.out.cell bt'.c3
           have c4 := RW.out.cell bt'.c4
           have c5 := RW.out.cell bt'.c5
           obtain ⟨gl, d0, d1, d2, d3, d4, d5, -⟩ := BW.out
           by_cases hcd : cd = 0
           ·have S2 := Lib.hid (rSame_any t f _ _ w12 KT'.out KW.out)
            rw [hsm.out hcd] at S2
            unfold BRes at S2
            subst hcd
            clear hsm PX
            go_wp2_with fail
            refine S2.out.mono ?_
            rintro e w13 ⟨rfl, h13⟩
            have R13 := Lib.hid (RW.out.trans h13)
            clear h13
            go_wp2
            go_ret
            exact ⟨ret_b2 (by simp), RXw.out.trans R13.out⟩
           ·have ecd : (cd != 0) = true := by simpa using hcd
            have ecd' : (cd == 0) = false := by rw [beq_eq_false_iff_ne]; exact hcd
            clear hsm PX hcd
            go_wp2
            go_ret
            exact ⟨ret_b2 (by simp), RXw.out.trans RW.out⟩
          ·have BU0 := Lib.hid (BoxAt.new (w := w6) (g := w6.heap.size) rfl (.int .i64 0) (.int .i64 0) (.int .i64 0) (.int .i64 0) (.string ⟨#[]⟩) (.slice none 0 0) 29)
           have R6 := Lib.hid (((W5.out.trans H0.out).trans h6).alloc (.cells #[.int .i64 0, .int .i64 0, .int .i64 0, .int .i64 0, .string ⟨#[]⟩, .slice none 0 0] 29))
           have zx : X.heap.size ≤ w6.heap.size := ((W5.out.trans H0.out).trans h6).size
           clear h6
           go_simp
           refine hK'.out _ _ trivial ?_
           clear hK' K'
           refine wpAnyR_ready (rs := [14]) (by kernel_rfl) (by simp) (AllR.cons rfl (fun w7 h7 K' hK' => ?_) AllR.nil)
           have z7 : w6.heap.size + 1 ≤ w7.heap.size := by have := h7.size; simpa using this
           have R7 := Lib.hid (R6.out.trans h7)
           have BU7 := Lib.hid (BU0.out.rel h7)
           clear h7
           go_simp
           refine (PX.out _ R7.out).mono ?_
           rintro e w8 ⟨v, rfl, hK7, h8⟩
           obtain ⟨va, vc, rfl⟩ := kids_slice (kidsB_to hK7)
           have R8 := Lib.hid (R7.out.trans h8)
           have BU := Lib.hid (BU7.out.rel h8)
           have K7 := Lib.hid hK7
           clear hK7 h8
           refine hK'.out _ _ trivial ?_
           clear hK' K'
           refine wpAnyR_more [15, 16, 17, 18] 3 (by kernel_rfl) (fun _ _ _ _ _ => trivial) trivial ?_
           iterate 4
            refine wpCalm_go rfl (by kernel_rfl) (fun K hK => ?_)
            apply Exists.intro
            refine ⟨fun M w hM hS => ?_, hK _ ?_⟩
            ·unfold calmAt
             go_simp
             exact ⟨rfl, Rel.refl _⟩
            clear hK K
           refine wpCalm_nil ?_
           refine wpAnyR_ready (rs := [20]) (by kernel_rfl) (by simp) (AllR.cons rfl (fun w9 h9 K' hK' => ?_) AllR.nil)
           obtain ⟨gl, g0, g1, g2, g3, g4, g5, e0, e1', e2, e3', e4, e5⟩ := BU.out.rel h9
           have BV := Lib.hid ((BU.out.rel h9).put6 (.int .i64 f.op) (.int .i64 f.va) (.int .i64 f.vb) (.int .i64 f.dm) (.string f.nm) (.slice va f.cnt vc))
           have R9 := Lib.hid (R8.out.trans h9)
           have K9 := Lib.hid (kidsB_rl K7.out h9)
           clear h9
           go_simp
           refine hK'.out _ _ trivial ?_
           clear hK' K' gl g0 g1 g2 g3 g4 g5 e0 e1' e2 e3' e4 e5
           obtain ⟨Z, hZ⟩ : ∃ Z, (((((w9.setCell ⟨w6.heap.size, 0, none⟩ (.int .i64 f.op)).setCell ⟨w6.heap.size, 1, none⟩ (.int .i64 f.va)).setCell ⟨w6.heap.size, 2, none⟩ (.int .i64 f.vb)).setCell ⟨w6.heap.size, 3, none⟩ (.int .i64 f.dm)).setCell ⟨w6.heap.size, 4, none⟩ (.string f.nm)).setCell ⟨w6.heap.size, 5, none⟩ (.slice va f.cnt vc) = Z := ⟨_, rfl⟩
           have RZ : Rel X Z := by
            rw [← hZ]
            exact rel_six R9.out zx _ _ _ _ _ _
           have KZ : ExKids f Z (.slice va f.cnt vc) := by
            rw [← hZ]
            exact kidsB_to (kidsB_p6 K9.out (g := w6.heap.size) (Q := fun _ => True) (fun q _ hq => ⟨by omega, trivial⟩) _ _ _ _ _ _)
           rw [hZ] at BV ⊢
           clear hZ
           refine wpAnyR_ready (rs := [21]) (by kernel_rfl) (by simp) (AllR.cons rfl (fun w10 h10 K' hK' => ?_) AllR.nil)
           go_simp
           refine hK'.out _ _ trivial ?_
           clear hK' K'
           refine wpAnyR_ready (rs := [22]) (by kernel_rfl) (by simp) (AllR.cons rfl (fun w11 h11 K' hK' => ?_) AllR.nil)
           go_simp
           refine hK'.out _ _ trivial ?_
           clear hK' K'
           refine wpAnyR_end (by kernel_rfl) (fun w12 h12 => ?_)
           (try simp only [Act.put, List.setIfInBounds_toArray, List.set_cons_zero, List.set_cons_succ])
           have r12 := (h10.trans h11).trans h12
           have RW := Lib.hid (RZ.trans r12)
           have KW := Lib.hid (kids_rel KZ r12)
           have BW := Lib.hid (BV.out.rel r12)
           have KT' := Lib.hid (kids_rel KT.out RW.out)
           clear RZ KZ BV h10 h11 h12 r12
           have c0 := RW.out.cell bt'.c0
           have c1 := RW.out.cell bt'.c1
           have c2' := RW.out.cell bt'.c2
           have c3 := RW.out.cell bt'.c3
           have c4 := RW.out.cell bt'.c4
           have c5 := RW.out.cell bt'.c5
           obtain ⟨gl, d0, d1, d2, d3, d4, d5, -⟩ := BW.out
           by_cases hcd : cd = 0
           ·have S2 := Lib.hid (rSame_any t f _ _ w12 KT'.out KW.out)
            rw [hsm.out hcd] at S2
            unfold BRes at S2
            subst hcd
            clear hsm PX
            go_wp2_with fail
            refine S2.out.mono ?_
            rintro e w13 ⟨rfl, h13⟩
            have R13 := Lib.hid (RW.out.trans h13)
            clear h13
            go_wp2
            go_ret
            exact ⟨ret_b2 (by simp), RXw.out.trans R13.out⟩
           ·have ecd : (cd != 0) = true := by simpa using hcd
            have ecd' : (cd == 0) = false := by rw [beq_eq_false_iff_ne]; exact hcd
            clear hsm PX hcd
            go_wp2
            go_ret
            exact ⟨ret_b2 (by simp), RXw.out.trans RW.out⟩
         ·have ez : ((z : Int) == 0) = false := by rw [beq_eq_false_iff_ne]; omega
          go_wp2
          go_round
          case rel => exact ⟨k + 1, z, by go_num, by go_num, by omega, by omega, by omega, .inr ⟨by omega, by omega⟩, dep_41 hD.out hok hlt h41⟩
          case measure => simp [intOf]; omega
        ·have e41 : ((S[k].toNat : Int) == 41) = false := by rw [beq_eq_false_iff_ne]; exact h41
         have ez : ((z : Int) == 0) = false := by rw [beq_eq_false_iff_ne]; omega
         go_wp2
         go_round
         case rel => exact ⟨k + 1, z, rfl, by go_num, by omega, by omega, by omega, .inr ⟨by omega, by omega⟩, dep_no hD.out hok hlt h40 h41⟩
         case measure => simp [intOf]; omega
      ·exfalso
       obtain rfl : k = S.size := by omega
       have := dep_end hD.out HSuf.out
       omega
end Go.Proofs.YtkghmghjgikihaaGreatDoor

/- Bundle of texts: each says at its head what it proves; no conditions but those printed. -/
import Derived.Test.YtlmclkaighlfaaaDoorMB11
import Derived.Test.YtlmclkaighlfaaaDoorMB4
import Derived.Test.YtlmclkaighlfaaaDoorMB10
import Derived.Test.YtlmclkaighlfaaaDoorMB18
import Derived.Test.YtlmclkaighlfaaaDoorMB7
import Derived.Test.YtlmclkaighlfaaaDoorMB9
import Derived.Test.YtlmclkaighlfaaaDoorMB15
import Derived.Test.YtlmclkaighlfaaaDoorMB14
import Derived.Test.YtlmclkaighlfaaaDoorMB2
import Derived.Test.YtlmclkaighlfaaaDoorMB0
namespace Go.Proofs.YtlmclkaighlfaaaDoor
set_option maxHeartbeats 16000000
open Go.RowKit Cal Str Tok Frac Txt Tree
attribute [local go_sem] calmUpon
set_option linter.unusedVariables false
set_option linter.unusedSimpArgs false
structure Rdr (w : World) (b G : Nat) (tk : List Tk) (E : Int) (s : Pt) : Prop where
 lt : b < w.heap.size
 le : s.i ≤ tk.length
 tok : ∃ ad cap, w.cell? ⟨b, 0, none⟩ = some (.slice ad tk.length cap) ∧ (0 < tk.length → ad = some ⟨G, 0, none⟩)
 toks : Toks w b G tk
 c1 : w.cell? ⟨b, 1, none⟩ = some (.int .i64 (s.i : Int))
 c2 : w.cell? ⟨b, 2, none⟩ = some (.int .i64 E)
 c3 : w.cell? ⟨b, 3, none⟩ = some (.bool (!s.ok))
 f1 : w.frozen? ⟨b, 1, none⟩ = false
 f3 : w.frozen? ⟨b, 3, none⟩ = false
theorem Rdr.rel {w w' : World} {b G : Nat} {tk : List Tk} {E : Int} {s : Pt} (h : Rdr w b G tk E s) (r : Rel w w') : Rdr w' b G tk E s := by
 obtain ⟨ad, cap, h1, h2⟩ := h.tok;exact ⟨Nat.lt_of_lt_of_le h.lt r.size, h.le, ⟨ad, cap, r.cell h1, h2⟩, h.toks.ro (Ro.of r), r.cell h.c1, r.cell h.c2, r.cell h.c3, ((rcell r).2 b 1 h.lt).trans h.f1, ((rcell r).2 b 3 h.lt).trans h.f3⟩
theorem Rdr.other {w : World} {b G : Nat} {tk : List Tk} {E : Int} {s : Pt} (h : Rdr w b G tk E s) {g i : Nat} {v : Value} (hne : g ≠ b) (ht : Toks (w.setCell ⟨g, i, none⟩ v) b G tk) : Rdr (w.setCell ⟨g, i, none⟩ v) b G tk E s := by
 obtain ⟨ad, cap, h1, h2⟩ := h.tok;have oc : ∀ j, (w.setCell ⟨g, i, none⟩ v).cell? ⟨b, j, none⟩ = w.cell? ⟨b, j, none⟩ := fun j => World.cell?_setCell_other _ _ _ _ (fun e => hne (by injection e))
 exact ⟨by simpa [World.setCell] using h.lt, h.le, ⟨ad, cap, (oc 0).trans h1, h2⟩, ht, (oc 1).trans h.c1, (oc 2).trans h.c2, (oc 3).trans h.c3, by rw [World.frozen?_setCell]; exact h.f1, by rw [World.frozen?_setCell]; exact h.f3⟩
theorem Rdr.adv {w : World} {b G : Nat} {tk : List Tk} {E : Int} {s : Pt} (h : Rdr w b G tk E s) (hi : s.i < tk.length) : Rdr (w.setCell ⟨b, 1, none⟩ (.int .i64 ((s.i : Int) + 1))) b G tk E s.adv := by
 obtain ⟨ad, cap, h1, h2⟩ := h.tok;have oc : ∀ j, ¬ j = 1 → (w.setCell ⟨b, 1, none⟩ (.int .i64 ((s.i : Int) + 1))).cell? ⟨b, j, none⟩ = w.cell? ⟨b, j, none⟩ := fun j hj => World.cell?_setCell_other _ _ _ _ (by intro e; injection e; omega)
 refine ⟨by simpa [World.setCell] using h.lt, hi, ⟨ad, cap, (oc 0 (by decide)).trans h1, h2⟩, h.toks.ro ((Ro.refl b w).set 1 _), ?_, (oc 2 (by decide)).trans h.c2, (oc 3 (by decide)).trans h.c3, by rw [World.frozen?_setCell]; exact h.f1, by rw [World.frozen?_setCell]; exact h.f3⟩;rw [World.cell?_setCell_same _ _ _ h.c1]; rfl
theorem Rdr.no {w : World} {b G : Nat} {tk : List Tk} {E : Int} {s : Pt} (h : Rdr w b G tk E s) : Rdr (w.setCell ⟨b, 3, none⟩ (.bool true)) b G tk E s.no := by
 obtain ⟨ad, cap, h1, h2⟩ := h.tok;have oc : ∀ j, ¬ j = 3 → (w.setCell ⟨b, 3, none⟩ (.bool true)).cell? ⟨b, j, none⟩ = w.cell? ⟨b, j, none⟩ := fun j hj => World.cell?_setCell_other _ _ _ _ (by intro e; injection e; omega)
 refine ⟨by simpa [World.setCell] using h.lt, h.le, ⟨ad, cap, (oc 0 (by decide)).trans h1, h2⟩, h.toks.ro ((Ro.refl b w).set 3 _), (oc 1 (by decide)).trans h.c1, (oc 2 (by decide)).trans h.c2, ?_, by rw [World.frozen?_setCell]; exact h.f1, by rw [World.frozen?_setCell]; exact h.f3⟩;rw [World.cell?_setCell_same _ _ _ h.c3]; rfl
def HdT (t : Tk) : Prop := (t.K = 2 ∨ t.K = 3) → ∃ c l, t.T.data.toList = c :: l ∧ (dgb c = true ∨ (c.toNat : Int) = 64)
def TkHd (tk : List Tk) : Prop := ∀ t ∈ tk, HdT t
theorem tokK_hd {s : ByteArray} {b : Nat} (h : tokK s b = 2 ∨ tokK s b = 3) : ∃ hb : b < s.size, dgb s[b] = true ∨ (s[b].toNat : Int) = 64 := by
 unfold tokK at h;by_cases hb : b < s.size
 ·refine ⟨hb, ?_⟩;rw [dif_pos hb] at h;by_cases h1 : low s[b] = true
  ·rw [if_pos h1] at h
   split at h <;> omega
  ·rw [if_neg h1] at h;by_cases h2 : dgb s[b] = true
   ·exact .inl h2
   ·rw [if_neg h2] at h;by_cases h3 : (s[b].toNat : Int) = 64
    ·exact .inr h3
    ·rw [if_neg h3] at h
     split at h <;> omega
 ·rw [dif_neg hb] at h; omega
theorem allF_hd (s : ByteArray) : ∀ (f a : Nat) (acc : List Tk), a ≤ s.size → TkHd acc → TkHd (allF s f a acc).1 := by
 intro f
 induction f with
 | zero => intro a acc ha h; exact h
 | succ f ih =>
  intro a acc ha h;simp only [allF];have hs := skp_le ha;by_cases h1 : skp s a = s.size
  ·rw [if_pos h1]; exact h
  ·rw [if_neg h1];by_cases h2 : tokK s (skp s a) = 0
   ·rw [if_pos h2]; intro t ht; simp at ht
   ·rw [if_neg h2];have hb : skp s a < s.size := by omega
    have hn := tokN_pos h2;have hle := tok_le hb;refine ih _ _ hle (fun t ht => ?_)
    rcases List.mem_append.1 ht with ht | ht
    ·exact h t ht
    ·obtain rfl : t = ⟨tokK s (skp s a), s.extract (skp s a) (skp s a + tokN s (skp s a)), (skp s a : Int)⟩ := by simpa using ht
     intro hk;obtain ⟨hb', hc⟩ := tokK_hd hk;refine ⟨s[skp s a], ((s.data.toList.drop (skp s a + 1)).take (tokN s (skp s a) - 1)), ?_, hc⟩;show (s.extract _ _).data.toList = _
     rw [ext_data, show skp s a + tokN s (skp s a) - skp s a = (tokN s (skp s a) - 1) + 1 by omega, drop_cons s _ hb, List.take_succ_cons]
theorem allR_hd (s : ByteArray) : TkHd (allR s).1 := by
 unfold allR;split
 ·exact allF_hd s _ 0 [] (Nat.zero_le _) (fun t ht => by simp at ht)
 ·intro t ht; simp at ht
end Go.Proofs.YtlmclkaighlfaaaDoor
namespace Go.Proofs.YtlmclkaighlfaaaDoor
set_option maxHeartbeats 16000000
open Cal Str Tok Frac Txt Tree
set_option linter.unusedVariables false
noncomputable section
def kCredit : List UInt8 := [99, 114, 101, 100, 105, 116]
def kLimit : List UInt8 := [108, 105, 109, 105, 116]
def kIndex : List UInt8 := [105, 110, 100, 101, 120]
def kLet : List UInt8 := [108, 101, 116]
def kGrant : List UInt8 := [103, 114, 97, 110, 116]
def kReduce : List UInt8 := [114, 101, 100, 117, 99, 101]
def kBy : List UInt8 := [98, 121]
def kPay : List UInt8 := [112, 97, 121]
def kRound : List UInt8 := [114, 111, 117, 110, 100]
def kFrom : List UInt8 := [102, 114, 111, 109]
def kStatute : List UInt8 := [115, 116, 97, 116, 117, 116, 101]
def kCurrency : List UInt8 := [99, 117, 114, 114, 101, 110, 99, 121]
def kSemi : List UInt8 := [59]
def kL : List UInt8 := [123]
def kR : List UInt8 := [125]
def kEq : List UInt8 := [61]
def wrdO (tk : List Tk) (l : List (List UInt8 × Int)) (s : Pt) : Bool := pkK tk s == 1 && !(tabI l (pkT tk s) == 0)
def wrdT (tk : List Tk) (l : List (List UInt8 × Int)) (s : Pt) : Int := if wrdO tk l s = true then tabI l (pkT tk s) else 0
def wrdP (tk : List Tk) (l : List (List UInt8 × Int)) (s : Pt) : Pt := if wrdO tk l s = true then s.adv else s.no
def facO (tk : List Tk) (s : Pt) : Bool := pkK tk s == 2 && (decB (pkT tk s) && (decX (pkT tk s) == 2 && decide (1 ≤ decN (pkT tk s))))
def facT (tk : List Tk) (s : Pt) : Int × Int := if facO tk s = true then (decN (pkT tk s), decD (pkT tk s)) else (0, 0)
def facP (tk : List Tk) (s : Pt) : Pt := if facO tk s = true then s.adv else s.no
def datT (tk : List Tk) (s : Pt) : Int := if pkK tk s = 3 then prsN ((pkT tk s).extract 1 (pkT tk s).size) else 0
def datP (tk : List Tk) (s : Pt) : Pt := if pkK tk s = 3 then s.adv else s.no
def pq (tk : List Tk) (s : Pt) : Ex × Pt := pe tk (10 * tk.length + 8) 0 .no s
def Ver.cr1 (v : Ver) (x : Int × Int) : Ver := { v with cr := v.cr ++ [x] }
def Ver.se1 (v : Ver) (x : Int × Int × Int) : Ver := { v with se := v.se ++ [x] }
def Ver.le1 (v : Ver) (x : ByteArray × Ex) : Ver := { v with le := v.le ++ [x] }
def Ver.gr1 (v : Ver) (x : Int × Ex × Ex) : Ver := { v with gr := v.gr ++ [x] }
def Ver.re1 (v : Ver) (x : Int × Ex) : Ver := { v with re := v.re ++ [x] }
def limQ (tk : List Tk) (s : Pt) : Int × Pt := if accB tk kLimit s = true then (numT tk 1 73049 s.adv, numP tk 1 73049 s.adv) else (0, s)
def crQ (tk : List Tk) (v : Ver) (s : Pt) : Ver × Pt := (v.cr1 (wrdT tk kndL s, (limQ tk (wrdP tk kndL s)).1), (limQ tk (wrdP tk kndL s)).2)
def seQ (tk : List Tk) (v : Ver) (s : Pt) : Ver × Pt := (v.se1 (numT tk 1900 2099 s, facT tk (numP tk 1900 2099 s)), facP tk (numP tk 1900 2099 s))
def leQ (tk : List Tk) (v : Ver) (s : Pt) : Ver × Pt := (v.le1 (namT tk s, (pq tk (expP tk kEq (namP tk s))).1), (pq tk (expP tk kEq (namP tk s))).2)
def grQ (tk : List Tk) (v : Ver) (s : Pt) : Ver × Pt :=
 let a := pq tk (expP tk kIf (wrdP tk benL s))
 let b := pq tk (expP tk kPay a.2)
 (v.gr1 (wrdT tk benL s, a.1, b.1), b.2)
def reQ (tk : List Tk) (v : Ver) (s : Pt) : Ver × Pt := (v.re1 (wrdT tk benL s, (pq tk (expP tk kBy (wrdP tk benL s))).1), (pq tk (expP tk kBy (wrdP tk benL s))).2)
def claO (tk : List Tk) (s : Pt) : Bool := accB tk kCredit s || (accB tk kIndex s || (accB tk kLet s || (accB tk kGrant s || accB tk kReduce s)))
def claQ (tk : List Tk) (v : Ver) (s : Pt) : Ver × Pt :=
 if accB tk kCredit s = true then ((crQ tk v s.adv).1, expP tk kSemi (crQ tk v s.adv).2)
 else if accB tk kIndex s = true then ((seQ tk v s.adv).1, expP tk kSemi (seQ tk v s.adv).2)
 else if accB tk kLet s = true then ((leQ tk v s.adv).1, expP tk kSemi (leQ tk v s.adv).2)
 else if accB tk kGrant s = true then ((grQ tk v s.adv).1, expP tk kSemi (grQ tk v s.adv).2)
 else if accB tk kReduce s = true then ((reQ tk v s.adv).1, expP tk kSemi (reQ tk v s.adv).2)
 else (v, s)
def claL (tk : List Tk) : Nat → Ver → Pt → Ver × Pt
 | 0, v, s => (v, s)
 | f + 1, v, s => if claO tk s = true then claL tk f (claQ tk v s).1 (claQ tk v s).2 else (v, s)
def verH (tk : List Tk) (s : Pt) : Ver × Pt :=
 let a := expP tk kRound (expP tk kL (datP tk s))
 let b := wrdP tk modL a
 (⟨datT tk s, wrdT tk modL a, numT tk 1 100000 b, [], [], [], [], []⟩, expP tk kSemi (numP tk 1 100000 b))
def verQ (tk : List Tk) (s : Pt) : Ver × Pt :=
 let c := claL tk (tk.length + 1) (verH tk s).1 (verH tk s).2
 (c.1, expP tk kR c.2)
def verL (tk : List Tk) : Nat → List Ver → Pt → List Ver × Pt
 | 0, l, s => (l, s)
 | f + 1, l, s => if accB tk kFrom s = true then verL tk f (l ++ [(verQ tk s.adv).1]) (verQ tk s.adv).2 else (l, s)
def staQ (tk : List Tk) : Sta × Pt :=
 let a := expP tk kStatute ⟨0, true⟩
 let b := expP tk kCurrency (namP tk a)
 let c := expP tk kFrom (expP tk kL (numP tk 1 999 b))
 let d := verL tk (tk.length + 1) [(verQ tk c).1] (verQ tk c).2
 (⟨namT tk a, numT tk 1 999 b, d.1⟩, expP tk kR d.2)
def zeroSta : Sta := ⟨⟨#[]⟩, 0, []⟩
def staV (s : ByteArray) : Sta × Int × Int :=
  if (allR s).2.2 = 0 then
    (if finB (allR s).1 (staQ (allR s).1).2 = true then (if (staQ (allR s).1).1.valid = true then ((staQ (allR s).1).1, 0, 0) else (zeroSta, 0, 7))
     else (zeroSta, posI (allR s).1 s.size (staQ (allR s).1).2.i, 4))
  else (zeroSta, (allR s).2.1, (allR s).2.2)
end
end Go.Proofs.YtlmclkaighlfaaaDoor
namespace Go.Proofs.YtlmclkaighlfaaaDoor
set_option maxHeartbeats 16000000
open Go.RowKit Cal Str Tok Frac Txt Tree
attribute [local go_sem] calmUpon
set_option linter.unusedVariables false
set_option linter.unusedSimpArgs false
def WrdRes (b G : Nat) (tk : List Tk) (E : Int) (l : List (List UInt8 × Int)) (s : Pt) (w : World) (e : Ending) (w' : World) : Prop := e = .returned (.int .i64 (wrdT tk l s)) ∧ Prs w' b G tk E (wrdP tk l s) ∧ Ro b w w'
theorem word_any (b G : Nat) (tk : List Tk) (E : Int) (l : List (List UInt8 × Int)) (s : Pt) (g c : Nat) (w : World) (h : Prs w b G tk E s) (hT : TksOk tk) (hA : TabAt w g l) (hl : l.length ≤ 100) (hz : ∀ p ∈ l, ¬ p.2 = 0) :
  Calls Tryd.prog 23 #[.pointer (some ⟨b, 0, none⟩), .slice (some ⟨g, 0, none⟩) l.length c] w (WrdRes b G tk E l s w) := by
 have PK := Hj (peek_any b G tk E s w h);have HP := Hj h;have hO : wrdO tk l s = (pkK tk s == 1 && !(tabI l (pkT tk s) == 0)) := rfl;unfold PkRes at PK;unfold WrdRes wrdT wrdP;obtain ⟨K, hK⟩ : ∃ K, pkK tk s = K := ⟨_, rfl⟩;obtain ⟨T, hT'⟩ : ∃ T, pkT tk s = T := ⟨_, rfl⟩;obtain ⟨A, hA'⟩ : ∃ A, pkA tk E s = A := ⟨_, rfl⟩;rw [hK, hT', hA'] at PK;rw [hT'] at ⊢;rw [hK, hT'] at hO;have I := Hj fun w' (r : Rel w w') => byName_any l g c T w' (hA.rel r) hl hz
 unfold BynRes at I;obtain ⟨z, hzz⟩ : ∃ z, tabI l T = z := ⟨_, rfl⟩;rw [hzz] at I hO ⊢;obtain ⟨n, hn⟩ : ∃ n, l.length = n := ⟨_, rfl⟩;rw [hn] at I ⊢;have kb : Hid (∀ w1 : World, Rel w w1 → w1.heap.size ≠ b) := fun w1 r => by have := HP.out.lt; have := r.size; omega
 have HO := Hj hO;have HK := Hj hK;clear h hT' hA' hzz hA hn hz hO hK;by_cases h1 : K = 1
 ·subst h1;by_cases h2 : z = 0
  ·have e2 : (z == 0) = true := by rw [beq_iff_eq]; exact h2
   rw [HO.out, if_neg (by simp [e2]), if_neg (by simp [e2])];clear h2;go_enter Tryd.func23, Tryd.ntmps23;go_wp2_with fail;refine PK.out.mono ?_;rintro e w1 ⟨rfl, h1⟩;obtain ⟨X, hX⟩ : ∃ X, w1.alloc (.cells #[.int .i64 1, .string T, .int .i64 A] 63) = X := ⟨_, rfl⟩;have R1 : Hid (Rel w X) := by show Rel _ _; rw [← hX]; exact h1.alloc _
   have BX : Hid (Blk X w1.heap.size 63 [.int .i64 1, .string T, .int .i64 A]) := by show Blk _ _ _ _; rw [← hX]; exact Blk.new w1 _ #[.int .i64 1, .string T, .int .i64 A]
   have x1 := BX.out.c (j := 1) rfl;have xl := BX.out.lt;clear h1;go_wp2_with fail;(try rw [hX]);refine (I.out _ R1.out).mono ?_;rintro e w2 ⟨rfl, h2⟩;have R2 := Hj (R1.out.trans h2);have x0 := (BX.out.rel h2).c (j := 0) rfl;clear h2 x1 hX;go_wp2_with fail;refine (fail_any b G tk E s _ (HP.out.rel R2.out)).mono ?_;unfold UnRes;rintro e w3 ⟨⟨v, rfl⟩, hP, h3⟩;have P3 := Hj hP;have R3 : Hid (Ro b w w3) := (Ro.of R2.out).trans h3;clear hP h3;go_wp2;go_ret;exact ⟨rfl, P3.out, R3.out⟩
  ·have e2 : (z == 0) = false := by rw [zn]; exact h2
   rw [HO.out, if_pos (by simp [e2]), if_pos (by simp [e2])];clear h2;go_enter Tryd.func23, Tryd.ntmps23;go_wp2_with fail;refine PK.out.mono ?_;rintro e w1 ⟨rfl, h1⟩;obtain ⟨X, hX⟩ : ∃ X, w1.alloc (.cells #[.int .i64 1, .string T, .int .i64 A] 63) = X := ⟨_, rfl⟩;have R1 : Hid (Rel w X) := by show Rel _ _; rw [← hX]; exact h1.alloc _
   have BX : Hid (Blk X w1.heap.size 63 [.int .i64 1, .string T, .int .i64 A]) := by show Blk _ _ _ _; rw [← hX]; exact Blk.new w1 _ #[.int .i64 1, .string T, .int .i64 A]
   have x1 := BX.out.c (j := 1) rfl;have xl := BX.out.lt;clear h1;go_wp2_with fail;(try rw [hX]);refine (I.out _ R1.out).mono ?_;rintro e w2 ⟨rfl, h2⟩;have R2 := Hj (R1.out.trans h2);have x0 := (BX.out.rel h2).c (j := 0) rfl;clear h2 x1 hX;go_wp2_with fail;obtain ⟨ho, hi'⟩ := pkK_some (tk := tk) (s := s) (by rw [HK.out]; decide);refine (next_tok b G tk E s _ (HP.out.rel R2.out) ho hi').mono ?_;unfold UnRes;rintro e w3 ⟨⟨v, rfl⟩, hP, h3⟩;have P3 := Hj hP;have R3 : Hid (Ro b w w3) := (Ro.of R2.out).trans h3;clear hP h3;go_wp2;go_ret;exact ⟨rfl, P3.out, R3.out⟩
 ·have e1 : (K == 1) = false := by rw [zn]; exact h1
  rw [HO.out, if_neg (by simp [e1]), if_neg (by simp [e1])];clear h1;go_enter Tryd.func23, Tryd.ntmps23;go_wp2_with fail;refine PK.out.mono ?_;rintro e w1 ⟨rfl, h1⟩;obtain ⟨X, hX⟩ : ∃ X, w1.alloc (.cells #[.int .i64 K, .string T, .int .i64 A] 63) = X := ⟨_, rfl⟩;have R1 : Hid (Rel w X) := by show Rel _ _; rw [← hX]; exact h1.alloc _
  have BX : Hid (Blk X w1.heap.size 63 [.int .i64 K, .string T, .int .i64 A]) := by show Blk _ _ _ _; rw [← hX]; exact Blk.new w1 _ #[.int .i64 K, .string T, .int .i64 A]
  have x1 := BX.out.c (j := 1) rfl;have xl := BX.out.lt;clear h1;go_wp2_with fail;(try rw [hX]);refine (I.out _ R1.out).mono ?_;rintro e w2 ⟨rfl, h2⟩;have R2 := Hj (R1.out.trans h2);have x0 := (BX.out.rel h2).c (j := 0) rfl;clear h2 x1 hX;go_wp2_with fail;refine (fail_any b G tk E s _ (HP.out.rel R2.out)).mono ?_;unfold UnRes;rintro e w3 ⟨⟨v, rfl⟩, hP, h3⟩;have P3 := Hj hP;have R3 : Hid (Ro b w w3) := (Ro.of R2.out).trans h3;clear hP h3;go_wp2;go_ret;exact ⟨rfl, P3.out, R3.out⟩
def FacRes (b G : Nat) (tk : List Tk) (E : Int) (s : Pt) (w : World) (e : Ending) (w' : World) : Prop := e = .returned (.agg #[.int .i64 (facT tk s).1, .int .i64 (facT tk s).2]) ∧ Prs w' b G tk E (facP tk s) ∧ Ro b w w'
theorem factorN_any (b G : Nat) (tk : List Tk) (E : Int) (s : Pt) (w : World) (h : Prs w b G tk E s) (hT : TksOk tk) : Calls Tryd.prog 39 #[.pointer (some ⟨b, 0, none⟩)] w (FacRes b G tk E s w) := by
 have R0 : Hid (Rel w (w.alloc (.cells #[.int .i64 0, .int .i64 0] 51))) := (Rel.refl w).alloc _;have BZ : Hid (Blk (w.alloc (.cells #[.int .i64 0, .int .i64 0] 51)) w.heap.size 51 [.int .i64 0, .int .i64 0]) := Blk.new w _ #[.int .i64 0, .int .i64 0];obtain ⟨W0, hW0⟩ : ∃ X, w.alloc (.cells #[.int .i64 0, .int .i64 0] 51) = X := ⟨_, rfl⟩;rw [hW0] at R0 BZ;have PK := Hj (peek_any b G tk E s W0 (h.rel R0.out));have HP := Hj h;have hz := pkT_size hT s;have hO : facO tk s = (pkK tk s == 2 && (decB (pkT tk s) && (decX (pkT tk s) == 2 && decide (1 ≤ decN (pkT tk s))))) := rfl;unfold PkRes at PK;unfold FacRes facT facP;obtain ⟨K, hK⟩ : ∃ K, pkK tk s = K := ⟨_, rfl⟩;obtain ⟨T, hT'⟩ : ∃ T, pkT tk s = T := ⟨_, rfl⟩;obtain ⟨A, hA'⟩ : ∃ A, pkA tk E s = A := ⟨_, rfl⟩;rw [hK, hT', hA'] at PK;rw [hT'] at hz ⊢;rw [hK, hT'] at hO;have I := Hj fun w' => Decimal_any T w' (by unfold maxLen; omega)
 unfold DecRes at I;obtain ⟨dn, hdn⟩ : ∃ z, decN T = z := ⟨_, rfl⟩;obtain ⟨dd, hdd⟩ : ∃ z, decD T = z := ⟨_, rfl⟩;obtain ⟨dx, hdx⟩ : ∃ z, decX T = z := ⟨_, rfl⟩;obtain ⟨db, hdb⟩ : ∃ z, decB T = z := ⟨_, rfl⟩;rw [hdn, hdd, hdx, hdb] at I;rw [hdn, hdx, hdb] at hO;rw [hdn, hdd];have hbw : b < w.heap.size := h.lt
 have hG : Hid (tk = [] ∨ G ≠ w.heap.size) := by
  rcases h.toks with e | ⟨hg, -⟩
  ·exact .inl e
  ·exact .inr (by omega)
 have HO := Hj hO;have HK := Hj hK;clear h hT' hA' hdn hdd hdx hdb hO hK hT;by_cases h1 : K = 2
 ·subst h1;cases db
  ·rw [HO.out, if_neg (by simp), if_neg (by simp)];go_enter Tryd.func39, Tryd.ntmps39;go_wp2_with fail;(try rw [hW0]);refine PK.out.mono ?_;rintro e w1 ⟨rfl, h1⟩;obtain ⟨X, hX⟩ : ∃ X, w1.alloc (.cells #[.int .i64 2, .string T, .int .i64 A] 63) = X := ⟨_, rfl⟩;have R1 : Hid (Rel W0 X) := by show Rel _ _; rw [← hX]; exact h1.alloc _
   have BX : Hid (Blk X w1.heap.size 63 [.int .i64 2, .string T, .int .i64 A]) := by show Blk _ _ _ _; rw [← hX]; exact Blk.new w1 _ #[.int .i64 2, .string T, .int .i64 A]
   have x1 := BX.out.c (j := 1) rfl;have xl := BX.out.lt;clear h1 hW0;go_wp2_with fail;(try rw [hX]);refine (I.out _).mono ?_;rintro e w2 ⟨rfl, h2⟩;obtain ⟨Y, hY⟩ : ∃ Y, w2.alloc (.cells #[.int .i64 dn, .int .i64 dd] 51) = Y := ⟨_, rfl⟩;have RY : Hid (Rel X Y) := by show Rel _ _; rw [← hY]; exact h2.alloc _
   have BY : Hid (Blk Y w2.heap.size 51 [.int .i64 dn, .int .i64 dd]) := by show Blk _ _ _ _; rw [← hY]; exact Blk.new w2 _ #[.int .i64 dn, .int .i64 dd]
   have R2 : Hid (Rel w Y) := R0.out.trans (R1.out.trans RY.out);have x0 := (BX.out.rel RY.out).c (j := 0) rfl;have y0 := BY.out.c (j := 0) rfl;have yl := BY.out.lt;have xl2 := (BX.out.rel RY.out).lt;have BZ2 : Hid (Blk Y w.heap.size 51 [.int .i64 0, .int .i64 0]) := BZ.out.rel (R1.out.trans RY.out);have k2 : w.heap.size ≤ w2.heap.size := (R0.out.trans (R1.out.trans h2)).size;clear h2 x1 hX;go_wp2_with fail;(try rw [hY]);refine (fail_any b G tk E s _ (HP.out.rel R2.out)).mono ?_;unfold UnRes;rintro e w3 ⟨⟨v, rfl⟩, hP, h3⟩;have P3 := Hj hP;have R3 : Hid (Ro b w w3) := (Ro.of R2.out).trans h3;have BZ3 : Hid (Blk w3 w.heap.size 51 [.int .i64 0, .int .i64 0]) := BZ2.out.ro h3 (by omega);have BY3 : Hid (Blk w3 w2.heap.size 51 [.int .i64 dn, .int .i64 dd]) := BY.out.ro h3 (by omega);have z0 := BZ3.out.c (j := 0) rfl;have z1 := BZ3.out.c (j := 1) rfl;have z2 := BZ3.out.f 0;have z3 := BZ3.out.f 1;have zl := BZ3.out.lt;have v0 := BY3.out.c (j := 0) rfl;have v1 := BY3.out.c (j := 1) rfl;have vl := BY3.out.lt;clear hP h3 x0 y0 yl xl2 hY;((try simp only []); (repeat (first | go_values | go_skip | go_guarded | go_step | go_upon | go_in)));have BE : Hid (Blk ((w3.setCell ⟨w.heap.size, 0, none⟩ (.int .i64 0)).setCell ⟨w.heap.size, 1, none⟩ (.int .i64 0)) w.heap.size 51 [.int .i64 0, .int .i64 0]) := (BZ3.out.set 0 _).set 1 _;have g0 := BE.out.c (j := 0) rfl;have g1 := BE.out.c (j := 1) rfl;refine bodyPost_ret (v := .agg #[.int .i64 0, .int .i64 0]) ?_ rfl ⟨rfl, (P3.out.put (by omega) hG.out).put (by omega) hG.out, (R3.out.setNew (p := ⟨w.heap.size, 0, none⟩) (Nat.le_refl _) _).setNew (p := ⟨w.heap.size, 1, none⟩) (Nat.le_refl _) _⟩;simp [results, Tryd.results39, go_sem, g0, g1]
  ·by_cases h2 : dx = 2
   ·subst h2;by_cases h3 : 1 ≤ dn
    ·have e3 : decide (dn < 1) = false := dF (by omega);rw [HO.out, if_pos (by simp [h3]), if_pos (by simp [h3])];go_enter Tryd.func39, Tryd.ntmps39;go_wp2_with fail;(try rw [hW0]);refine PK.out.mono ?_;rintro e w1 ⟨rfl, h1⟩;obtain ⟨X, hX⟩ : ∃ X, w1.alloc (.cells #[.int .i64 2, .string T, .int .i64 A] 63) = X := ⟨_, rfl⟩;have R1 : Hid (Rel W0 X) := by show Rel _ _; rw [← hX]; exact h1.alloc _
     have BX : Hid (Blk X w1.heap.size 63 [.int .i64 2, .string T, .int .i64 A]) := by show Blk _ _ _ _; rw [← hX]; exact Blk.new w1 _ #[.int .i64 2, .string T, .int .i64 A]
     have x1 := BX.out.c (j := 1) rfl;have xl := BX.out.lt;clear h1 hW0;go_wp2_with fail;(try rw [hX]);refine (I.out _).mono ?_;rintro e w2 ⟨rfl, h2⟩;obtain ⟨Y, hY⟩ : ∃ Y, w2.alloc (.cells #[.int .i64 dn, .int .i64 dd] 51) = Y := ⟨_, rfl⟩;have RY : Hid (Rel X Y) := by show Rel _ _; rw [← hY]; exact h2.alloc _
     have BY : Hid (Blk Y w2.heap.size 51 [.int .i64 dn, .int .i64 dd]) := by show Blk _ _ _ _; rw [← hY]; exact Blk.new w2 _ #[.int .i64 dn, .int .i64 dd]
     have R2 : Hid (Rel w Y) := R0.out.trans (R1.out.trans RY.out);have x0 := (BX.out.rel RY.out).c (j := 0) rfl;have y0 := BY.out.c (j := 0) rfl;have yl := BY.out.lt;have xl2 := (BX.out.rel RY.out).lt;have BZ2 : Hid (Blk Y w.heap.size 51 [.int .i64 0, .int .i64 0]) := BZ.out.rel (R1.out.trans RY.out);have k2 : w.heap.size ≤ w2.heap.size := (R0.out.trans (R1.out.trans h2)).size;clear h2 x1 hX;go_wp2_with fail;(try rw [hY]);obtain ⟨ho, hi'⟩ := pkK_some (tk := tk) (s := s) (by rw [HK.out]; decide);refine (next_tok b G tk E s _ (HP.out.rel R2.out) ho hi').mono ?_;unfold UnRes;rintro e w3 ⟨⟨v, rfl⟩, hP, h3⟩;have P3 := Hj hP;have R3 : Hid (Ro b w w3) := (Ro.of R2.out).trans h3;have BZ3 : Hid (Blk w3 w.heap.size 51 [.int .i64 0, .int .i64 0]) := BZ2.out.ro h3 (by omega);have BY3 : Hid (Blk w3 w2.heap.size 51 [.int .i64 dn, .int .i64 dd]) := BY.out.ro h3 (by omega);have z0 := BZ3.out.c (j := 0) rfl;have z1 := BZ3.out.c (j := 1) rfl;have z2 := BZ3.out.f 0;have z3 := BZ3.out.f 1;have zl := BZ3.out.lt;have v0 := BY3.out.c (j := 0) rfl;have v1 := BY3.out.c (j := 1) rfl;have vl := BY3.out.lt;clear hP h3 x0 y0 yl xl2 hY;((try simp only []); (repeat (first | go_values | go_skip | go_guarded | go_step | go_upon | go_in)));have BE : Hid (Blk ((w3.setCell ⟨w.heap.size, 0, none⟩ (.int .i64 dn)).setCell ⟨w.heap.size, 1, none⟩ (.int .i64 dd)) w.heap.size 51 [.int .i64 dn, .int .i64 dd]) := (BZ3.out.set 0 _).set 1 _;have g0 := BE.out.c (j := 0) rfl;have g1 := BE.out.c (j := 1) rfl;refine bodyPost_ret (v := .agg #[.int .i64 dn, .int .i64 dd]) ?_ rfl ⟨rfl, (P3.out.put (by omega) hG.out).put (by omega) hG.out, (R3.out.setNew (p := ⟨w.heap.size, 0, none⟩) (Nat.le_refl _) _).setNew (p := ⟨w.heap.size, 1, none⟩) (Nat.le_refl _) _⟩;simp [results, Tryd.results39, go_sem, g0, g1]
    ·have e3 : decide (dn < 1) = true := dT (by omega);rw [HO.out, if_neg (by simp [h3]), if_neg (by simp [h3])];go_enter Tryd.func39, Tryd.ntmps39;go_wp2_with fail;(try rw [hW0]);refine PK.out.mono ?_;rintro e w1 ⟨rfl, h1⟩;obtain ⟨X, hX⟩ : ∃ X, w1.alloc (.cells #[.int .i64 2, .string T, .int .i64 A] 63) = X := ⟨_, rfl⟩;have R1 : Hid (Rel W0 X) := by show Rel _ _; rw [← hX]; exact h1.alloc _
     have BX : Hid (Blk X w1.heap.size 63 [.int .i64 2, .string T, .int .i64 A]) := by show Blk _ _ _ _; rw [← hX]; exact Blk.new w1 _ #[.int .i64 2, .string T, .int .i64 A]
     have x1 := BX.out.c (j := 1) rfl;have xl := BX.out.lt;clear h1 hW0;go_wp2_with fail;(try rw [hX]);refine (I.out _).mono ?_;rintro e w2 ⟨rfl, h2⟩;obtain ⟨Y, hY⟩ : ∃ Y, w2.alloc (.cells #[.int .i64 dn, .int .i64 dd] 51) = Y := ⟨_, rfl⟩;have RY : Hid (Rel X Y) := by show Rel _ _; rw [← hY]; exact h2.alloc _
     have BY : Hid (Blk Y w2.heap.size 51 [.int .i64 dn, .int .i64 dd]) := by show Blk _ _ _ _; rw [← hY]; exact Blk.new w2 _ #[.int .i64 dn, .int .i64 dd]
     have R2 : Hid (Rel w Y) := R0.out.trans (R1.out.trans RY.out);have x0 := (BX.out.rel RY.out).c (j := 0) rfl;have y0 := BY.out.c (j := 0) rfl;have yl := BY.out.lt;have xl2 := (BX.out.rel RY.out).lt;have BZ2 : Hid (Blk Y w.heap.size 51 [.int .i64 0, .int .i64 0]) := BZ.out.rel (R1.out.trans RY.out);have k2 : w.heap.size ≤ w2.heap.size := (R0.out.trans (R1.out.trans h2)).size;clear h2 x1 hX;go_wp2_with fail;(try rw [hY]);refine (fail_any b G tk E s _ (HP.out.rel R2.out)).mono ?_;unfold UnRes;rintro e w3 ⟨⟨v, rfl⟩, hP, h3⟩;have P3 := Hj hP;have R3 : Hid (Ro b w w3) := (Ro.of R2.out).trans h3;have BZ3 : Hid (Blk w3 w.heap.size 51 [.int .i64 0, .int .i64 0]) := BZ2.out.ro h3 (by omega);have BY3 : Hid (Blk w3 w2.heap.size 51 [.int .i64 dn, .int .i64 dd]) := BY.out.ro h3 (by omega);have z0 := BZ3.out.c (j := 0) rfl;have z1 := BZ3.out.c (j := 1) rfl;have z2 := BZ3.out.f 0;have z3 := BZ3.out.f 1;have zl := BZ3.out.lt;have v0 := BY3.out.c (j := 0) rfl;have v1 := BY3.out.c (j := 1) rfl;have vl := BY3.out.lt;clear hP h3 x0 y0 yl xl2 hY;((try simp only []); (repeat (first | go_values | go_skip | go_guarded | go_step | go_upon | go_in)));have BE : Hid (Blk ((w3.setCell ⟨w.heap.size, 0, none⟩ (.int .i64 0)).setCell ⟨w.heap.size, 1, none⟩ (.int .i64 0)) w.heap.size 51 [.int .i64 0, .int .i64 0]) := (BZ3.out.set 0 _).set 1 _;have g0 := BE.out.c (j := 0) rfl;have g1 := BE.out.c (j := 1) rfl;refine bodyPost_ret (v := .agg #[.int .i64 0, .int .i64 0]) ?_ rfl ⟨rfl, (P3.out.put (by omega) hG.out).put (by omega) hG.out, (R3.out.setNew (p := ⟨w.heap.size, 0, none⟩) (Nat.le_refl _) _).setNew (p := ⟨w.heap.size, 1, none⟩) (Nat.le_refl _) _⟩;simp [results, Tryd.results39, go_sem, g0, g1]
   ·have e2 : (dx == 2) = false := by rw [zn]; exact h2
    rw [HO.out, if_neg (by simp [e2]), if_neg (by simp [e2])];go_enter Tryd.func39, Tryd.ntmps39;go_wp2_with fail;(try rw [hW0]);refine PK.out.mono ?_;rintro e w1 ⟨rfl, h1⟩;obtain ⟨X, hX⟩ : ∃ X, w1.alloc (.cells #[.int .i64 2, .string T, .int .i64 A] 63) = X := ⟨_, rfl⟩;have R1 : Hid (Rel W0 X) := by show Rel _ _; rw [← hX]; exact h1.alloc _
    have BX : Hid (Blk X w1.heap.size 63 [.int .i64 2, .string T, .int .i64 A]) := by show Blk _ _ _ _; rw [← hX]; exact Blk.new w1 _ #[.int .i64 2, .string T, .int .i64 A]
    have x1 := BX.out.c (j := 1) rfl;have xl := BX.out.lt;clear h1 hW0;go_wp2_with fail;(try rw [hX]);refine (I.out _).mono ?_;rintro e w2 ⟨rfl, h2⟩;obtain ⟨Y, hY⟩ : ∃ Y, w2.alloc (.cells #[.int .i64 dn, .int .i64 dd] 51) = Y := ⟨_, rfl⟩;have RY : Hid (Rel X Y) := by show Rel _ _; rw [← hY]; exact h2.alloc _
    have BY : Hid (Blk Y w2.heap.size 51 [.int .i64 dn, .int .i64 dd]) := by show Blk _ _ _ _; rw [← hY]; exact Blk.new w2 _ #[.int .i64 dn, .int .i64 dd]
    have R2 : Hid (Rel w Y) := R0.out.trans (R1.out.trans RY.out);have x0 := (BX.out.rel RY.out).c (j := 0) rfl;have y0 := BY.out.c (j := 0) rfl;have yl := BY.out.lt;have xl2 := (BX.out.rel RY.out).lt;have BZ2 : Hid (Blk Y w.heap.size 51 [.int .i64 0, .int .i64 0]) := BZ.out.rel (R1.out.trans RY.out);have k2 : w.heap.size ≤ w2.heap.size := (R0.out.trans (R1.out.trans h2)).size;clear h2 x1 hX;go_wp2_with fail;(try rw [hY]);refine (fail_any b G tk E s _ (HP.out.rel R2.out)).mono ?_;unfold UnRes;rintro e w3 ⟨⟨v, rfl⟩, hP, h3⟩;have P3 := Hj hP;have R3 : Hid (Ro b w w3) := (Ro.of R2.out).trans h3;have BZ3 : Hid (Blk w3 w.heap.size 51 [.int .i64 0, .int .i64 0]) := BZ2.out.ro h3 (by omega);have BY3 : Hid (Blk w3 w2.heap.size 51 [.int .i64 dn, .int .i64 dd]) := BY.out.ro h3 (by omega);have z0 := BZ3.out.c (j := 0) rfl;have z1 := BZ3.out.c (j := 1) rfl;have z2 := BZ3.out.f 0;have z3 := BZ3.out.f 1;have zl := BZ3.out.lt;have v0 := BY3.out.c (j := 0) rfl;have v1 := BY3.out.c (j := 1) rfl;have vl := BY3.out.lt;clear hP h3 x0 y0 yl xl2 hY;((try simp only []); (repeat (first | go_values | go_skip | go_guarded | go_step | go_upon | go_in)));have BE : Hid (Blk ((w3.setCell ⟨w.heap.size, 0, none⟩ (.int .i64 0)).setCell ⟨w.heap.size, 1, none⟩ (.int .i64 0)) w.heap.size 51 [.int .i64 0, .int .i64 0]) := (BZ3.out.set 0 _).set 1 _;have g0 := BE.out.c (j := 0) rfl;have g1 := BE.out.c (j := 1) rfl;refine bodyPost_ret (v := .agg #[.int .i64 0, .int .i64 0]) ?_ rfl ⟨rfl, (P3.out.put (by omega) hG.out).put (by omega) hG.out, (R3.out.setNew (p := ⟨w.heap.size, 0, none⟩) (Nat.le_refl _) _).setNew (p := ⟨w.heap.size, 1, none⟩) (Nat.le_refl _) _⟩;simp [results, Tryd.results39, go_sem, g0, g1]
 ·have e1 : (K == 2) = false := by rw [zn]; exact h1
  rw [HO.out, if_neg (by simp [e1]), if_neg (by simp [e1])];go_enter Tryd.func39, Tryd.ntmps39;go_wp2_with fail;(try rw [hW0]);refine PK.out.mono ?_;rintro e w1 ⟨rfl, h1⟩;obtain ⟨X, hX⟩ : ∃ X, w1.alloc (.cells #[.int .i64 K, .string T, .int .i64 A] 63) = X := ⟨_, rfl⟩;have R1 : Hid (Rel W0 X) := by show Rel _ _; rw [← hX]; exact h1.alloc _
  have BX : Hid (Blk X w1.heap.size 63 [.int .i64 K, .string T, .int .i64 A]) := by show Blk _ _ _ _; rw [← hX]; exact Blk.new w1 _ #[.int .i64 K, .string T, .int .i64 A]
  have x1 := BX.out.c (j := 1) rfl;have xl := BX.out.lt;clear h1 hW0;go_wp2_with fail;(try rw [hX]);refine (I.out _).mono ?_;rintro e w2 ⟨rfl, h2⟩;obtain ⟨Y, hY⟩ : ∃ Y, w2.alloc (.cells #[.int .i64 dn, .int .i64 dd] 51) = Y := ⟨_, rfl⟩;have RY : Hid (Rel X Y) := by show Rel _ _; rw [← hY]; exact h2.alloc _
  have BY : Hid (Blk Y w2.heap.size 51 [.int .i64 dn, .int .i64 dd]) := by show Blk _ _ _ _; rw [← hY]; exact Blk.new w2 _ #[.int .i64 dn, .int .i64 dd]
  have R2 : Hid (Rel w Y) := R0.out.trans (R1.out.trans RY.out);have x0 := (BX.out.rel RY.out).c (j := 0) rfl;have y0 := BY.out.c (j := 0) rfl;have yl := BY.out.lt;have xl2 := (BX.out.rel RY.out).lt;have BZ2 : Hid (Blk Y w.heap.size 51 [.int .i64 0, .int .i64 0]) := BZ.out.rel (R1.out.trans RY.out);have k2 : w.heap.size ≤ w2.heap.size := (R0.out.trans (R1.out.trans h2)).size;clear h2 x1 hX;go_wp2_with fail;(try rw [hY]);refine (fail_any b G tk E s _ (HP.out.rel R2.out)).mono ?_;unfold UnRes;rintro e w3 ⟨⟨v, rfl⟩, hP, h3⟩;have P3 := Hj hP;have R3 : Hid (Ro b w w3) := (Ro.of R2.out).trans h3;have BZ3 : Hid (Blk w3 w.heap.size 51 [.int .i64 0, .int .i64 0]) := BZ2.out.ro h3 (by omega);have BY3 : Hid (Blk w3 w2.heap.size 51 [.int .i64 dn, .int .i64 dd]) := BY.out.ro h3 (by omega);have z0 := BZ3.out.c (j := 0) rfl;have z1 := BZ3.out.c (j := 1) rfl;have z2 := BZ3.out.f 0;have z3 := BZ3.out.f 1;have zl := BZ3.out.lt;have v0 := BY3.out.c (j := 0) rfl;have v1 := BY3.out.c (j := 1) rfl;have vl := BY3.out.lt;clear hP h3 x0 y0 yl xl2 hY;((try simp only []); (repeat (first | go_values | go_skip | go_guarded | go_step | go_upon | go_in)));have BE : Hid (Blk ((w3.setCell ⟨w.heap.size, 0, none⟩ (.int .i64 0)).setCell ⟨w.heap.size, 1, none⟩ (.int .i64 0)) w.heap.size 51 [.int .i64 0, .int .i64 0]) := (BZ3.out.set 0 _).set 1 _;have g0 := BE.out.c (j := 0) rfl;have g1 := BE.out.c (j := 1) rfl;refine bodyPost_ret (v := .agg #[.int .i64 0, .int .i64 0]) ?_ rfl ⟨rfl, (P3.out.put (by omega) hG.out).put (by omega) hG.out, (R3.out.setNew (p := ⟨w.heap.size, 0, none⟩) (Nat.le_refl _) _).setNew (p := ⟨w.heap.size, 1, none⟩) (Nat.le_refl _) _⟩;simp [results, Tryd.results39, go_sem, g0, g1]
end Go.Proofs.YtlmclkaighlfaaaDoor
namespace Go.Proofs.YtlmclkaighlfaaaDoor
set_option maxHeartbeats 16000000
open Go.RowKit Cal Str Tok Frac Txt Tree
set_option linter.unusedVariables false
set_option linter.unusedSimpArgs false
def adr (m : VerM) : Nat → Option Addr
 | 0 => m.ca
 | 1 => m.sa
 | 2 => m.la
 | 3 => m.ga
 | _ => m.ra
def Apt (f : Nat → Option Addr) : Prop := ∀ i j, i < 5 → j < 5 → i ≠ j → Apart (f i) (f j)
theorem apt_set {f f' : Nat → Option Addr} {a : Nat} (h : Apt f) (e : ∀ i, i < 5 → i ≠ a → f' i = f i) (hn : ∀ j, j < 5 → j ≠ a → Apart (f' a) (f j)) : Apt f' := fun i j hi hj hne => by
 by_cases h1 : i = a
 ·subst h1;rw [e j hj (fun h => hne h.symm)]; exact hn j hj (fun h => hne h.symm)
 ·by_cases h2 : j = a
  ·subst h2;rw [e i hi h1]; exact fun x y hx hy hxy => hn i hi h1 y x hy hx hxy.symm
  ·rw [e i hi h1, e j hj h2]; exact h i j hi hj hne
def OffV (m : VerM) (q : Nat) : Prop := ∀ i, i < 5 → OffB (adr m i) q
theorem own_lt {w : World} {base T d k rc n : Nat} {ra : Option Addr} {vs : List Value} (h : w.ownsRow base T d (.slice ra k rc) n vs) : ∀ b, ra = some b → base ≤ b.block ∧ b.block < w.heap.size := fun b hb => by
 subst hb;exact h.lt b.block rfl
theorem own_cap2 {w : World} {base d k n cap : Nat} {T : TypeId} {ad : Option Addr} {vs : List Value} (h : w.ownsRow base T d (.slice ad n cap) k vs) : n ≤ cap := by
 rcases h.2 with ⟨h2, h3⟩ | ⟨g, c, cur, e, hg, r, hc, -⟩
 ·simp only [Value.slice.injEq] at h2; omega
 ·simp only [Value.slice.injEq] at e; omega
theorem apart_new {ra ea : Option Addr} {k rc g H : Nat} (h : Apart ra ea) (hat : (Value.slice ra k rc).ownBlock = some g ∨ g = H) (hE : ∀ b, ea = some b → b.block < H) : Apart (some ⟨g, 0, none⟩) ea := fun a b ha hb => by
 cases ha
 rcases hat with e | rfl
 ·obtain ⟨a', ha', e2⟩ := own_block e;rw [← e2]; exact h a' b ha' hb
 ·have := hE b hb;simp only []; omega
theorem apart_row {ra ea : Option Addr} {k rc n ec : Nat} (h : Apart ra ea) : ∀ g, (Value.slice ea n ec).ownBlock = some g → (Value.slice ra k rc).ownBlock ≠ some g := fun g hg e => by
 obtain ⟨a, ha, e1⟩ := own_block hg;obtain ⟨b, hb, e2⟩ := own_block e;exact h b a hb ha (by omega)
structure ClS (b : Nat) (w0 W : World) (BO N : Nat) (m : VerM) : Prop where
 ro : Ro b w0 W
 hb : b < w0.heap.size
 lt : w0.heap.size ≤ BO
 o : Blk W BO 38 (verC m)
 c : W.ownsRow (BO + 1) 85 2 (.slice m.ca m.cr.length m.cc) m.cr.length (m.cr.flatMap crC)
 s : W.ownsRow (BO + 1) 87 3 (.slice m.sa m.se.length m.sc) m.se.length (m.se.flatMap seC)
 l : W.ownsRow (BO + 1) 90 7 (.slice m.la m.le.length m.lc) m.le.length (m.le.flatMap leC)
 g : W.ownsRow (BO + 1) 92 13 (.slice m.ga m.gr.length m.gc) m.gr.length (m.gr.flatMap grC)
 r : W.ownsRow (BO + 1) 94 7 (.slice m.ra m.re.length m.rc) m.re.length (m.re.flatMap reC)
 ap : Apt (adr m)
 n : m.cr.length ≤ N ∧ m.se.length ≤ N ∧ m.le.length ≤ N ∧ m.gr.length ≤ N ∧ m.re.length ≤ N
 i0 : I64 m.frm
 i1 : I64 m.mode
 i2 : I64 m.unit
 b0 : ∀ p ∈ m.cr, I64 p.1 ∧ I64 p.2
 b1 : ∀ p ∈ m.se, I64 p.1 ∧ I64 p.2.1 ∧ I64 p.2.2
 b2 : ∀ p ∈ m.le, LeB (fun q => BO < q ∧ OffV m q) W p
 b3 : ∀ p ∈ m.gr, GrB (fun q => BO < q ∧ OffV m q) W p
 b4 : ∀ p ∈ m.re, ReB (fun q => BO < q ∧ OffV m q) W p
section
variable {b BO N g2 cap2 : Nat} {w0 W X w8 w9 : World} {m : VerM}
theorem ClS.go (h : ClS b w0 W BO N m) (r : Ro b W X) : ClS b w0 X BO N m := by
 have h1 := h.hb;have h2 := h.lt;have hq : ∀ q, BO < q ∧ OffV m q → q ≠ b := fun q hq => by omega
 exact ⟨h.ro.trans r, h.hb, h.lt, h.o.ro r (by omega), own_rox h.c r (by omega), own_rox h.s r (by omega), own_rox h.l r (by omega), own_rox h.g r (by omega), own_rox h.r r (by omega), h.ap, h.n, h.i0, h.i1, h.i2, h.b0, h.b1,
  fun p hp => ⟨(h.b2 p hp).1, (h.b2 p hp).2.ro r hq⟩, fun p hp => ⟨(h.b3 p hp).1, (h.b3 p hp).2.1.ro r hq, (h.b3 p hp).2.2.ro r hq⟩, fun p hp => ⟨(h.b4 p hp).1, (h.b4 p hp).2.ro r hq⟩⟩
theorem ClS.on (h : ClS b w0 W BO N m) (r : Rel W X) : ClS b w0 X BO N m := h.go (Ro.of r)
theorem ClS.up {M : Nat} (h : ClS b w0 W BO N m) (hM : N ≤ M) : ClS b w0 W BO M m := { h with n := by have := h.n; omega }
theorem ClS.adr_lt (h : ClS b w0 W BO N m) (i : Nat) : ∀ a, adr m i = some a → BO + 1 ≤ a.block ∧ a.block < W.heap.size := fun a ha => by
 match i with
 | 0 => exact own_lt h.c a ha
 | 1 => exact own_lt h.s a ha
 | 2 => exact own_lt h.l a ha
 | 3 => exact own_lt h.g a ha
 | i + 4 => exact own_lt h.r a ha
theorem ClS.off (h : ClS b w0 W BO N m) {q : Nat} (hq : W.heap.size ≤ q) : BO < q ∧ OffV m q := by
 have h1 := h.o.lt;refine ⟨by omega, fun i hi a ha => ?_⟩;have := h.adr_lt i a ha;omega
theorem ClS.toB (h : ClS b w0 W BO N m) (hN : N ≤ 100000) : VerB (fun q => w0.heap.size ≤ q) W m := by
 have h2 := h.lt;have n := h.n;have hq : ∀ q, BO < q ∧ OffV m q → w0.heap.size ≤ q := fun q hq => by omega
 exact ⟨h.i0, h.i1, h.i2, by omega, by omega, by omega, by omega, by omega, (own_rowB h.c).mono (fun q hq => by omega), (own_rowB h.s).mono (fun q hq => by omega), (own_rowB h.l).mono (fun q hq => by omega), (own_rowB h.g).mono (fun q hq => by omega), (own_rowB h.r).mono (fun q hq => by omega), h.b0, h.b1,
  fun p hp => ⟨(h.b2 p hp).1, (h.b2 p hp).2.mono hq⟩, fun p hp => ⟨(h.b3 p hp).1, (h.b3 p hp).2.1.mono hq, (h.b3 p hp).2.2.mono hq⟩, fun p hp => ⟨(h.b4 p hp).1, (h.b4 p hp).2.mono hq⟩, own_cap2 h.c, own_cap2 h.s, own_cap2 h.l, own_cap2 h.g, own_cap2 h.r⟩
theorem tx_app {a k rc H : Nat} {m' : VerM} {ra : Option Addr} (ha : a < 5) (hra : adr m a = ra) (h1 : adr m' a = some ⟨g2, 0, none⟩) (h2 : ∀ i, i < 5 → i ≠ a → adr m' i = adr m i) (hg : W.grownBy w8 (Value.slice ra k rc).ownBlock) (hat : (Value.slice ra k rc).ownBlock = some g2 ∨ g2 = H) (hH : W.heap.size ≤ H) (r : Rel w8 w9) (i : Nat) (u : Value) {p : Ex × Value} (h : TxB (fun q => BO < q ∧ OffV m q) W p) : TxB (fun q => BO < q ∧ OffV m' q) (w9.setCell ⟨BO, i, none⟩ u) p := by
 subst hra
 have h3 : TxB (fun q => BO < q ∧ OffV m' q) w8 p := h.keep hg.size (fun q hq hp => ⟨offB_grown hg hq (hp.2 a ha), hp.1, fun j hj => by
  by_cases e : j = a
  ·subst e; rw [h1]; exact offB_next hat (by omega) (hp.2 j hj)
  ·rw [h2 j hj e]; exact hp.2 j hj⟩)
 exact (h3.rel r).other (fun q hq => by omega) i u
theorem own_app {d n k rc base : Nat} {Ty : TypeId} {ra ea : Option Addr} {ec : Nat} {vs : List Value} (h : W.ownsRow base Ty d (.slice ea n ec) n vs) (hA : Apart ra ea) (hg : W.grownBy w8 (Value.slice ra k rc).ownBlock) (r : Rel w8 w9) (hb : BO < base) (i : Nat) (u : Value) : (w9.setCell ⟨BO, i, none⟩ u).ownsRow base Ty d (.slice ea n ec) n vs :=
 own_set (own_rel' (own_grown h hg (apart_row hA)) r) hb i u
theorem ClS.appC (h : ClS b w0 W BO N m) {H : Nat} {x : Int × Int} (hx : I64 x.1 ∧ I64 x.2) (hown : w8.ownsRow (BO + 1) 85 2 (.slice (some ⟨g2, 0, none⟩) (m.cr.length + 1) cap2) (m.cr.length + 1) (m.cr.flatMap crC ++ crC x)) (hg : W.grownBy w8 (Value.slice m.ca m.cr.length m.cc).ownBlock) (hat : (Value.slice m.ca m.cr.length m.cc).ownBlock = some g2 ∨ g2 = H) (hH : W.heap.size ≤ H) (r : Rel w8 w9) :
  ClS b w0 (w9.setCell ⟨BO, 3, none⟩ (.slice (some ⟨g2, 0, none⟩) (m.cr.length + 1) cap2)) BO (N + 1) { m with cr := m.cr ++ [x], ca := some ⟨g2, 0, none⟩, cc := cap2 } := by
 have h1 := h.hb;have h2 := h.lt;have hrow : ∀ q, (Value.slice m.ca m.cr.length m.cc).ownBlock = some q → BO + 1 ≤ q := fun q hq => (h.c.lt q hq).1
 have ro8 : Ro b w0 w8 := Ro.grown h.ro hg (fun q hq => by have := hrow q hq; omega);have o8 : Blk w8 BO 38 (verC m) := h.o.grown hg (fun e => by have := hrow _ e.symm; omega)
 have TX : ∀ p, TxB (fun q => BO < q ∧ OffV m q) W p → TxB (fun q => BO < q ∧ OffV { m with cr := m.cr ++ [x], ca := some ⟨g2, 0, none⟩, cc := cap2 } q) (w9.setCell ⟨BO, 3, none⟩ (.slice (some ⟨g2, 0, none⟩) (m.cr.length + 1) cap2)) p := fun p hp =>
  tx_app (a := 0) (by decide) rfl rfl (fun i hi hne => by rcases (show i = 0 ∨ i = 1 ∨ i = 2 ∨ i = 3 ∨ i = 4 by omega) with rfl | rfl | rfl | rfl | rfl <;> first | rfl | exact absurd rfl hne) hg hat hH r _ _ hp
 refine ⟨(ro8.trans (Ro.of r)).setNew (p := ⟨BO, 3, none⟩) h2 _, h1, h2, (by unfold verC; dsimp only; rw [List.length_append]; exact (o8.rel r).set 3 _), (by show World.ownsRow _ _ _ _ (.slice (some ⟨g2, 0, none⟩) (m.cr ++ [x]).length cap2) (m.cr ++ [x]).length _; rw [flat_snoc, List.length_append]; exact own_set (own_rel' hown r) (by omega) _ _), own_app h.s (h.ap 0 1 (by decide) (by decide) (by decide)) hg r (by omega) _ _, own_app h.l (h.ap 0 2 (by decide) (by decide) (by decide)) hg r (by omega) _ _, own_app h.g (h.ap 0 3 (by decide) (by decide) (by decide)) hg r (by omega) _ _, own_app h.r (h.ap 0 4 (by decide) (by decide) (by decide)) hg r (by omega) _ _,
  apt_set (a := 0) h.ap (fun i hi hne => by rcases (show i = 0 ∨ i = 1 ∨ i = 2 ∨ i = 3 ∨ i = 4 by omega) with rfl | rfl | rfl | rfl | rfl <;> first | rfl | exact absurd rfl hne) (fun j hj hne => apart_new (h.ap 0 j (by decide) hj (fun e => hne e.symm)) hat (fun b hb => Nat.lt_of_lt_of_le (h.adr_lt j b hb).2 hH)),
  by have := h.n; simp only [List.length_append, List.length_cons, List.length_nil]; omega, h.i0, h.i1, h.i2, fun p hp => (by rcases List.mem_append.1 hp with h1 | h1; exact h.b0 p h1; simp at h1; subst h1; exact hx), h.b1, fun p hp => ⟨(h.b2 p hp).1, TX _ (h.b2 p hp).2⟩, fun p hp => ⟨(h.b3 p hp).1, TX _ (h.b3 p hp).2.1, TX _ (h.b3 p hp).2.2⟩, fun p hp => ⟨(h.b4 p hp).1, TX _ (h.b4 p hp).2⟩⟩
theorem ClS.appS (h : ClS b w0 W BO N m) {H : Nat} {x : Int × Int × Int} (hx : I64 x.1 ∧ I64 x.2.1 ∧ I64 x.2.2) (hown : w8.ownsRow (BO + 1) 87 3 (.slice (some ⟨g2, 0, none⟩) (m.se.length + 1) cap2) (m.se.length + 1) (m.se.flatMap seC ++ seC x)) (hg : W.grownBy w8 (Value.slice m.sa m.se.length m.sc).ownBlock) (hat : (Value.slice m.sa m.se.length m.sc).ownBlock = some g2 ∨ g2 = H) (hH : W.heap.size ≤ H) (r : Rel w8 w9) :
  ClS b w0 (w9.setCell ⟨BO, 4, none⟩ (.slice (some ⟨g2, 0, none⟩) (m.se.length + 1) cap2)) BO (N + 1) { m with se := m.se ++ [x], sa := some ⟨g2, 0, none⟩, sc := cap2 } := by
 have h1 := h.hb;have h2 := h.lt;have hrow : ∀ q, (Value.slice m.sa m.se.length m.sc).ownBlock = some q → BO + 1 ≤ q := fun q hq => (h.s.lt q hq).1
 have ro8 : Ro b w0 w8 := Ro.grown h.ro hg (fun q hq => by have := hrow q hq; omega);have o8 : Blk w8 BO 38 (verC m) := h.o.grown hg (fun e => by have := hrow _ e.symm; omega)
 have TX : ∀ p, TxB (fun q => BO < q ∧ OffV m q) W p → TxB (fun q => BO < q ∧ OffV { m with se := m.se ++ [x], sa := some ⟨g2, 0, none⟩, sc := cap2 } q) (w9.setCell ⟨BO, 4, none⟩ (.slice (some ⟨g2, 0, none⟩) (m.se.length + 1) cap2)) p := fun p hp =>
  tx_app (a := 1) (by decide) rfl rfl (fun i hi hne => by rcases (show i = 0 ∨ i = 1 ∨ i = 2 ∨ i = 3 ∨ i = 4 by omega) with rfl | rfl | rfl | rfl | rfl <;> first | rfl | exact absurd rfl hne) hg hat hH r _ _ hp
 refine ⟨(ro8.trans (Ro.of r)).setNew (p := ⟨BO, 4, none⟩) h2 _, h1, h2, (by unfold verC; dsimp only; rw [List.length_append]; exact (o8.rel r).set 4 _), own_app h.c (h.ap 1 0 (by decide) (by decide) (by decide)) hg r (by omega) _ _, (by show World.ownsRow _ _ _ _ (.slice (some ⟨g2, 0, none⟩) (m.se ++ [x]).length cap2) (m.se ++ [x]).length _; rw [flat_snoc, List.length_append]; exact own_set (own_rel' hown r) (by omega) _ _), own_app h.l (h.ap 1 2 (by decide) (by decide) (by decide)) hg r (by omega) _ _, own_app h.g (h.ap 1 3 (by decide) (by decide) (by decide)) hg r (by omega) _ _, own_app h.r (h.ap 1 4 (by decide) (by decide) (by decide)) hg r (by omega) _ _,
  apt_set (a := 1) h.ap (fun i hi hne => by rcases (show i = 0 ∨ i = 1 ∨ i = 2 ∨ i = 3 ∨ i = 4 by omega) with rfl | rfl | rfl | rfl | rfl <;> first | rfl | exact absurd rfl hne) (fun j hj hne => apart_new (h.ap 1 j (by decide) hj (fun e => hne e.symm)) hat (fun b hb => Nat.lt_of_lt_of_le (h.adr_lt j b hb).2 hH)),
  by have := h.n; simp only [List.length_append, List.length_cons, List.length_nil]; omega, h.i0, h.i1, h.i2, h.b0, fun p hp => (by rcases List.mem_append.1 hp with h1 | h1; exact h.b1 p h1; simp at h1; subst h1; exact hx), fun p hp => ⟨(h.b2 p hp).1, TX _ (h.b2 p hp).2⟩, fun p hp => ⟨(h.b3 p hp).1, TX _ (h.b3 p hp).2.1, TX _ (h.b3 p hp).2.2⟩, fun p hp => ⟨(h.b4 p hp).1, TX _ (h.b4 p hp).2⟩⟩
theorem ClS.appL (h : ClS b w0 W BO N m) {H : Nat} {x : ByteArray × (Ex × Value)} (hx : LeB (fun q => BO < q ∧ OffV m q) W x) (hown : w8.ownsRow (BO + 1) 90 7 (.slice (some ⟨g2, 0, none⟩) (m.le.length + 1) cap2) (m.le.length + 1) (m.le.flatMap leC ++ leC x)) (hg : W.grownBy w8 (Value.slice m.la m.le.length m.lc).ownBlock) (hat : (Value.slice m.la m.le.length m.lc).ownBlock = some g2 ∨ g2 = H) (hH : W.heap.size ≤ H) (r : Rel w8 w9) :
  ClS b w0 (w9.setCell ⟨BO, 5, none⟩ (.slice (some ⟨g2, 0, none⟩) (m.le.length + 1) cap2)) BO (N + 1) { m with le := m.le ++ [x], la := some ⟨g2, 0, none⟩, lc := cap2 } := by
 have h1 := h.hb;have h2 := h.lt;have hrow : ∀ q, (Value.slice m.la m.le.length m.lc).ownBlock = some q → BO + 1 ≤ q := fun q hq => (h.l.lt q hq).1
 have ro8 : Ro b w0 w8 := Ro.grown h.ro hg (fun q hq => by have := hrow q hq; omega);have o8 : Blk w8 BO 38 (verC m) := h.o.grown hg (fun e => by have := hrow _ e.symm; omega)
 have TX : ∀ p, TxB (fun q => BO < q ∧ OffV m q) W p → TxB (fun q => BO < q ∧ OffV { m with le := m.le ++ [x], la := some ⟨g2, 0, none⟩, lc := cap2 } q) (w9.setCell ⟨BO, 5, none⟩ (.slice (some ⟨g2, 0, none⟩) (m.le.length + 1) cap2)) p := fun p hp =>
  tx_app (a := 2) (by decide) rfl rfl (fun i hi hne => by rcases (show i = 0 ∨ i = 1 ∨ i = 2 ∨ i = 3 ∨ i = 4 by omega) with rfl | rfl | rfl | rfl | rfl <;> first | rfl | exact absurd rfl hne) hg hat hH r _ _ hp
 refine ⟨(ro8.trans (Ro.of r)).setNew (p := ⟨BO, 5, none⟩) h2 _, h1, h2, (by unfold verC; dsimp only; rw [List.length_append]; exact (o8.rel r).set 5 _), own_app h.c (h.ap 2 0 (by decide) (by decide) (by decide)) hg r (by omega) _ _, own_app h.s (h.ap 2 1 (by decide) (by decide) (by decide)) hg r (by omega) _ _, (by show World.ownsRow _ _ _ _ (.slice (some ⟨g2, 0, none⟩) (m.le ++ [x]).length cap2) (m.le ++ [x]).length _; rw [flat_snoc, List.length_append]; exact own_set (own_rel' hown r) (by omega) _ _), own_app h.g (h.ap 2 3 (by decide) (by decide) (by decide)) hg r (by omega) _ _, own_app h.r (h.ap 2 4 (by decide) (by decide) (by decide)) hg r (by omega) _ _,
  apt_set (a := 2) h.ap (fun i hi hne => by rcases (show i = 0 ∨ i = 1 ∨ i = 2 ∨ i = 3 ∨ i = 4 by omega) with rfl | rfl | rfl | rfl | rfl <;> first | rfl | exact absurd rfl hne) (fun j hj hne => apart_new (h.ap 2 j (by decide) hj (fun e => hne e.symm)) hat (fun b hb => Nat.lt_of_lt_of_le (h.adr_lt j b hb).2 hH)),
  by have := h.n; simp only [List.length_append, List.length_cons, List.length_nil]; omega, h.i0, h.i1, h.i2, h.b0, h.b1, fun p hp => (by rcases List.mem_append.1 hp with h1 | h1; exact ⟨(h.b2 p h1).1, TX _ (h.b2 p h1).2⟩; simp at h1; subst h1; exact ⟨hx.1, TX _ hx.2⟩), fun p hp => ⟨(h.b3 p hp).1, TX _ (h.b3 p hp).2.1, TX _ (h.b3 p hp).2.2⟩, fun p hp => ⟨(h.b4 p hp).1, TX _ (h.b4 p hp).2⟩⟩
theorem ClS.appG (h : ClS b w0 W BO N m) {H : Nat} {x : Int × (Ex × Value) × (Ex × Value)} (hx : GrB (fun q => BO < q ∧ OffV m q) W x) (hown : w8.ownsRow (BO + 1) 92 13 (.slice (some ⟨g2, 0, none⟩) (m.gr.length + 1) cap2) (m.gr.length + 1) (m.gr.flatMap grC ++ grC x)) (hg : W.grownBy w8 (Value.slice m.ga m.gr.length m.gc).ownBlock) (hat : (Value.slice m.ga m.gr.length m.gc).ownBlock = some g2 ∨ g2 = H) (hH : W.heap.size ≤ H) (r : Rel w8 w9) :
  ClS b w0 (w9.setCell ⟨BO, 6, none⟩ (.slice (some ⟨g2, 0, none⟩) (m.gr.length + 1) cap2)) BO (N + 1) { m with gr := m.gr ++ [x], ga := some ⟨g2, 0, none⟩, gc := cap2 } := by
 have h1 := h.hb;have h2 := h.lt;have hrow : ∀ q, (Value.slice m.ga m.gr.length m.gc).ownBlock = some q → BO + 1 ≤ q := fun q hq => (h.g.lt q hq).1
 have ro8 : Ro b w0 w8 := Ro.grown h.ro hg (fun q hq => by have := hrow q hq; omega);have o8 : Blk w8 BO 38 (verC m) := h.o.grown hg (fun e => by have := hrow _ e.symm; omega)
 have TX : ∀ p, TxB (fun q => BO < q ∧ OffV m q) W p → TxB (fun q => BO < q ∧ OffV { m with gr := m.gr ++ [x], ga := some ⟨g2, 0, none⟩, gc := cap2 } q) (w9.setCell ⟨BO, 6, none⟩ (.slice (some ⟨g2, 0, none⟩) (m.gr.length + 1) cap2)) p := fun p hp =>
  tx_app (a := 3) (by decide) rfl rfl (fun i hi hne => by rcases (show i = 0 ∨ i = 1 ∨ i = 2 ∨ i = 3 ∨ i = 4 by omega) with rfl | rfl | rfl | rfl | rfl <;> first | rfl | exact absurd rfl hne) hg hat hH r _ _ hp
 refine ⟨(ro8.trans (Ro.of r)).setNew (p := ⟨BO, 6, none⟩) h2 _, h1, h2, (by unfold verC; dsimp only; rw [List.length_append]; exact (o8.rel r).set 6 _), own_app h.c (h.ap 3 0 (by decide) (by decide) (by decide)) hg r (by omega) _ _, own_app h.s (h.ap 3 1 (by decide) (by decide) (by decide)) hg r (by omega) _ _, own_app h.l (h.ap 3 2 (by decide) (by decide) (by decide)) hg r (by omega) _ _, (by show World.ownsRow _ _ _ _ (.slice (some ⟨g2, 0, none⟩) (m.gr ++ [x]).length cap2) (m.gr ++ [x]).length _; rw [flat_snoc, List.length_append]; exact own_set (own_rel' hown r) (by omega) _ _), own_app h.r (h.ap 3 4 (by decide) (by decide) (by decide)) hg r (by omega) _ _,
  apt_set (a := 3) h.ap (fun i hi hne => by rcases (show i = 0 ∨ i = 1 ∨ i = 2 ∨ i = 3 ∨ i = 4 by omega) with rfl | rfl | rfl | rfl | rfl <;> first | rfl | exact absurd rfl hne) (fun j hj hne => apart_new (h.ap 3 j (by decide) hj (fun e => hne e.symm)) hat (fun b hb => Nat.lt_of_lt_of_le (h.adr_lt j b hb).2 hH)),
  by have := h.n; simp only [List.length_append, List.length_cons, List.length_nil]; omega, h.i0, h.i1, h.i2, h.b0, h.b1, fun p hp => ⟨(h.b2 p hp).1, TX _ (h.b2 p hp).2⟩, fun p hp => (by rcases List.mem_append.1 hp with h1 | h1; exact ⟨(h.b3 p h1).1, TX _ (h.b3 p h1).2.1, TX _ (h.b3 p h1).2.2⟩; simp at h1; subst h1; exact ⟨hx.1, TX _ hx.2.1, TX _ hx.2.2⟩), fun p hp => ⟨(h.b4 p hp).1, TX _ (h.b4 p hp).2⟩⟩
theorem ClS.appR (h : ClS b w0 W BO N m) {H : Nat} {x : Int × (Ex × Value)} (hx : ReB (fun q => BO < q ∧ OffV m q) W x) (hown : w8.ownsRow (BO + 1) 94 7 (.slice (some ⟨g2, 0, none⟩) (m.re.length + 1) cap2) (m.re.length + 1) (m.re.flatMap reC ++ reC x)) (hg : W.grownBy w8 (Value.slice m.ra m.re.length m.rc).ownBlock) (hat : (Value.slice m.ra m.re.length m.rc).ownBlock = some g2 ∨ g2 = H) (hH : W.heap.size ≤ H) (r : Rel w8 w9) :
  ClS b w0 (w9.setCell ⟨BO, 7, none⟩ (.slice (some ⟨g2, 0, none⟩) (m.re.length + 1) cap2)) BO (N + 1) { m with re := m.re ++ [x], ra := some ⟨g2, 0, none⟩, rc := cap2 } := by
 have h1 := h.hb;have h2 := h.lt;have hrow : ∀ q, (Value.slice m.ra m.re.length m.rc).ownBlock = some q → BO + 1 ≤ q := fun q hq => (h.r.lt q hq).1
 have ro8 : Ro b w0 w8 := Ro.grown h.ro hg (fun q hq => by have := hrow q hq; omega);have o8 : Blk w8 BO 38 (verC m) := h.o.grown hg (fun e => by have := hrow _ e.symm; omega)
 have TX : ∀ p, TxB (fun q => BO < q ∧ OffV m q) W p → TxB (fun q => BO < q ∧ OffV { m with re := m.re ++ [x], ra := some ⟨g2, 0, none⟩, rc := cap2 } q) (w9.setCell ⟨BO, 7, none⟩ (.slice (some ⟨g2, 0, none⟩) (m.re.length + 1) cap2)) p := fun p hp =>
  tx_app (a := 4) (by decide) rfl rfl (fun i hi hne => by rcases (show i = 0 ∨ i = 1 ∨ i = 2 ∨ i = 3 ∨ i = 4 by omega) with rfl | rfl | rfl | rfl | rfl <;> first | rfl | exact absurd rfl hne) hg hat hH r _ _ hp
 refine ⟨(ro8.trans (Ro.of r)).setNew (p := ⟨BO, 7, none⟩) h2 _, h1, h2, (by unfold verC; dsimp only; rw [List.length_append]; exact (o8.rel r).set 7 _), own_app h.c (h.ap 4 0 (by decide) (by decide) (by decide)) hg r (by omega) _ _, own_app h.s (h.ap 4 1 (by decide) (by decide) (by decide)) hg r (by omega) _ _, own_app h.l (h.ap 4 2 (by decide) (by decide) (by decide)) hg r (by omega) _ _, own_app h.g (h.ap 4 3 (by decide) (by decide) (by decide)) hg r (by omega) _ _, (by show World.ownsRow _ _ _ _ (.slice (some ⟨g2, 0, none⟩) (m.re ++ [x]).length cap2) (m.re ++ [x]).length _; rw [flat_snoc, List.length_append]; exact own_set (own_rel' hown r) (by omega) _ _),
  apt_set (a := 4) h.ap (fun i hi hne => by rcases (show i = 0 ∨ i = 1 ∨ i = 2 ∨ i = 3 ∨ i = 4 by omega) with rfl | rfl | rfl | rfl | rfl <;> first | rfl | exact absurd rfl hne) (fun j hj hne => apart_new (h.ap 4 j (by decide) hj (fun e => hne e.symm)) hat (fun b hb => Nat.lt_of_lt_of_le (h.adr_lt j b hb).2 hH)),
  by have := h.n; simp only [List.length_append, List.length_cons, List.length_nil]; omega, h.i0, h.i1, h.i2, h.b0, h.b1, fun p hp => ⟨(h.b2 p hp).1, TX _ (h.b2 p hp).2⟩, fun p hp => ⟨(h.b3 p hp).1, TX _ (h.b3 p hp).2.1, TX _ (h.b3 p hp).2.2⟩, fun p hp => (by rcases List.mem_append.1 hp with h1 | h1; exact ⟨(h.b4 p h1).1, TX _ (h.b4 p h1).2⟩; simp at h1; subst h1; exact ⟨hx.1, TX _ hx.2⟩)⟩
end
end Go.Proofs.YtlmclkaighlfaaaDoor
namespace Go.Proofs.YtlmclkaighlfaaaDoor
set_option maxHeartbeats 16000000
open Go.RowKit Cal Str Tok Frac Txt Tree
attribute [local go_sem] calmUpon
set_option linter.unusedVariables false
set_option linter.unusedSimpArgs false
theorem Prs.eq {W Z : World} {b G : Nat} {tk : List Tk} {E : Int} {s : Pt} (h : Prs W b G tk E s) (hs : W.heap.size ≤ Z.heap.size) (hb : Z.heap[b]? = W.heap[b]?) (hG : tk = [] ∨ Z.heap[G]? = W.heap[G]?) : Prs Z b G tk E s := by
 obtain ⟨ad, cap, h1, h2, h3⟩ := h.tok;have oc : ∀ j, Z.cell? ⟨b, j, none⟩ = W.cell? ⟨b, j, none⟩ := fun j => World.cell?_of_block hb
 have of : ∀ j, Z.frozen? ⟨b, j, none⟩ = W.frozen? ⟨b, j, none⟩ := fun j => World.frozen?_of_block hb
 have tk2 : Toks Z b G tk := by
  rcases h.toks with e | ⟨hg, hne, hc⟩
  ·exact .inl e
  ·rcases hG with e | e
   ·exact .inl e
   ·exact .inr ⟨Nat.lt_of_lt_of_le hg hs, hne, fun i t ht => ⟨(World.cell?_of_block e).trans (hc i t ht).1, (World.cell?_of_block e).trans (hc i t ht).2.1, (World.cell?_of_block e).trans (hc i t ht).2.2⟩⟩
 exact ⟨Nat.lt_of_lt_of_le h.lt hs, h.le, ⟨ad, cap, (oc 0).trans h1, h2, h3⟩, tk2, (oc 1).trans h.c1, (oc 2).trans h.c2, (oc 3).trans h.c3, (of 0).trans h.f0, (of 2).trans h.f2, (of 3).trans h.f3⟩
theorem prs_app {b G BO N i : Nat} {tk : List Tk} {E : Int} {s : Pt} {w0 W w8 w9 : World} {m : VerM} {row : Option Nat} (h : Prs W b G tk E s) (hC : ClS b w0 W BO N m) (hg : W.grownBy w8 row) (hrow : ∀ q, row = some q → BO + 1 ≤ q) (r : Rel w8 w9) (hG : tk = [] ∨ G < w0.heap.size) (u : Value) : Prs (w9.setCell ⟨BO, i, none⟩ u) b G tk E s := by
 have h1 := hC.hb;have h2 := hC.lt;have h3 := hC.ro.size
 have key : ∀ q, q < w0.heap.size → (w9.setCell ⟨BO, i, none⟩ u).heap[q]? = W.heap[q]? := fun q hq => by
  have e1 : w8.heap[q]? = W.heap[q]? := hg.block q (by omega) (fun e => by have := hrow q e.symm; omega);have e2 : w9.heap[q]? = w8.heap[q]? := Below.block r q (by have := hg.size; omega);have e3 : (w9.setCell ⟨BO, i, none⟩ u).heap[q]? = w9.heap[q]? := Below.heap_setCell _ _ _ _ (by show q ≠ BO; omega);rw [e3, e2, e1]
 have hs : W.heap.size ≤ (w9.setCell ⟨BO, i, none⟩ u).heap.size := by
  have a1 := hg.size;have a2 := Below.size r;simp only [World.size_setCell]; omega
 refine h.eq hs (key b h1) ?_
 rcases hG with e | e
 ·exact .inl e
 ·exact .inr (key G e)
theorem ClS.o8 {b BO N : Nat} {w0 W w8 : World} {m : VerM} {row : Option Nat} (h : ClS b w0 W BO N m) (hg : W.grownBy w8 row) (hrow : ∀ q, row = some q → BO + 1 ≤ q) : Blk w8 BO 38 (verC m) := h.o.grown hg (fun e => by have := hrow _ e.symm; omega)
theorem prs_ro {b G g : Nat} {tk : List Tk} {E : Int} {s : Pt} {W X : World} (h : Prs W b G tk E s) (r : Ro g W X) (hb : b ≠ g) (hG : tk = [] ∨ G ≠ g) : Prs X b G tk E s := by
 refine h.eq r.size (r.block b h.lt hb) ?_
 rcases h.toks with e | ⟨hl, -⟩
 ·exact .inl e
 ·rcases hG with e | e
  ·exact .inl e
  ·exact .inr (r.block G hl e)
theorem prs_g {G g : Nat} {tk : List Tk} {w0 : World} (hG : tk = [] ∨ G < w0.heap.size) (h : w0.heap.size ≤ g) : tk = [] ∨ G ≠ g := by
 rcases hG with e | e
 ·exact .inl e
 ·exact .inr (by omega)
theorem new_cells2 (w : World) (c : Array Value) (T : TypeId) {g : Nat} (hg : g = w.heap.size) : ∀ (j : Nat) u, c.toList[j]? = some u → (w.alloc (.cells c T)).cell? ((⟨g, 0, none⟩ : Addr).add j) = some u := by
 subst hg;intro j u h
 have hadd : (⟨w.heap.size, 0, none⟩ : Addr).add j = ⟨w.heap.size, j, none⟩ := by unfold Addr.add; split <;> simp_all
 rw [hadd];exact (Blk.new w T c).c h
theorem acc_yes (b G : Nat) (tk : List Tk) (E : Int) (s : Pt) (X : ByteArray) (x : List UInt8) (w : World) (h : Prs w b G tk E s) (hX : X.data.toList = x) (ha : accB tk x s = true) : Calls Tryd.prog 12 #[.pointer (some ⟨b, 0, none⟩), .string X] w fun e w' => e = .returned (.bool true) ∧ Prs w' b G tk E s.adv ∧ Ro b w w' := by
 subst hX;refine (accept_any b G tk E s X w h).mono ?_;rintro e w' ⟨h1, h2, h3⟩;unfold accP at h2;rw [ha] at h1;rw [if_pos ha] at h2;exact ⟨h1, h2, h3⟩
theorem acc_no (b G : Nat) (tk : List Tk) (E : Int) (s : Pt) (X : ByteArray) (x : List UInt8) (w : World) (h : Prs w b G tk E s) (hX : X.data.toList = x) (ha : accB tk x s = false) : Calls Tryd.prog 12 #[.pointer (some ⟨b, 0, none⟩), .string X] w fun e w' => e = .returned (.bool false) ∧ Prs w' b G tk E s ∧ Ro b w w' := by
 subst hX;refine (accept_any b G tk E s X w h).mono ?_;rintro e w' ⟨h1, h2, h3⟩;unfold accP at h2;rw [ha] at h1;rw [if_neg (by simp [ha])] at h2;exact ⟨h1, h2, h3⟩
theorem exp_at (b G : Nat) (tk : List Tk) (E : Int) (s : Pt) (X : ByteArray) (x : List UInt8) (w : World) (h : Prs w b G tk E s) (hX : X.data.toList = x) : Calls Tryd.prog 8 #[.pointer (some ⟨b, 0, none⟩), .string X] w fun e w' => (∃ v, e = .returned v) ∧ Prs w' b G tk E (expP tk x s) ∧ Ro b w w' := by
 subst hX;exact expect_any b G tk E s X w h
theorem kndL_nz : ∀ p ∈ kndL, ¬ p.2 = 0 := by decide
theorem benL_nz : ∀ p ∈ benL, ¬ p.2 = 0 := by decide
theorem modL_nz : ∀ p ∈ modL, ¬ p.2 = 0 := by decide
theorem tab_bd {s : ByteArray} : ∀ {l : List (List UInt8 × Int)}, (∀ p ∈ l, 0 ≤ p.2 ∧ p.2 ≤ 100) → 0 ≤ tabI l s ∧ tabI l s ≤ 100 := by
 intro l
 induction l with
 | nil => intro _; simp [tabI]
 | cons a l ih =>
  intro h;simp only [tabI];split
  ·exact h a (List.mem_cons_self ..)
  ·exact ih (fun p hp => h p (List.mem_cons_of_mem _ hp))
theorem wrd_bd {tk : List Tk} {l : List (List UInt8 × Int)} {s : Pt} (h : ∀ p ∈ l, 0 ≤ p.2 ∧ p.2 ≤ 100) : I64 (wrdT tk l s) := by
 unfold wrdT;split
 ·have := tab_bd (s := pkT tk s) h; exact ⟨by omega, by omega⟩
 ·exact ⟨by decide, by decide⟩
theorem kndL_bd : ∀ p ∈ kndL, 0 ≤ p.2 ∧ p.2 ≤ 100 := by decide
theorem benL_bd : ∀ p ∈ benL, 0 ≤ p.2 ∧ p.2 ≤ 100 := by decide
theorem modL_bd : ∀ p ∈ modL, 0 ≤ p.2 ∧ p.2 ≤ 100 := by decide
theorem num_bd {tk : List Tk} {lo hi : Int} {s : Pt} : I64 (numT tk lo hi s) := by
 unfold numT;split
 ·exact (dec_bd _).1
 ·exact ⟨by decide, by decide⟩
theorem fac_bd {tk : List Tk} {s : Pt} : I64 (facT tk s).1 ∧ I64 (facT tk s).2 := by
 unfold facT;split
 ·exact dec_bd _
 ·exact ⟨⟨by decide, by decide⟩, ⟨by decide, by decide⟩⟩
theorem nam_size {tk : List Tk} (hT : TksOk tk) (s : Pt) : (namT tk s).size ≤ 140737488355328 := by
 unfold namT;split
 ·exact pkT_size hT s
 ·decide
theorem rem_le (tk : List Tk) (s : Pt) : rem tk s ≤ tk.length := by
 unfold rem
 split <;> omega
theorem pq_size {tk : List Tk} (hT : TksOk tk) {s : Pt} (hs : s.i ≤ tk.length) : (pq tk s).1.size ≤ 1000000 := by
 have h1 := (pe_size tk (10 * tk.length + 8)).2 0 s (by decide);have h2 := (pe_beh tk (10 * tk.length + 8) 0 .no s (by unfold md; decide)).2.2 hs;have h3 := hT.len;unfold pq;omega
theorem pq_at (b G : Nat) (tk : List Tk) (E : Int) (s : Pt) (w : World) (hT : TksOk tk) (h : Prs w b G tk E s) : Calls Tryd.prog 28 #[.pointer (some ⟨b, 0, none⟩)] w fun e w' => ∃ x, e = .returned (.agg #[.int .i64 (pq tk s).1.op, .int .i64 (pq tk s).1.va, .int .i64 (pq tk s).1.vb, .int .i64 (pq tk s).1.dm, .string (pq tk s).1.nm, x]) ∧ ExKidsB (fun g => w.heap.size ≤ g) (pq tk s).1 w' x ∧ (pq tk s).1.size ≤ 1000000 ∧ Prs w' b G tk E (pq tk s).2 ∧ Ro b w w' := by
 have hf : 10 * rem tk s + cc 0 ≤ 10 * tk.length + 8 := by have := rem_le tk s; unfold cc; simp only [if_true]; omega
 refine ((parse_all b G tk E hT (10 * tk.length + 8)).p0 w s h hf).mono ?_;rintro e w' ⟨x, h1, h2, h3, h4⟩;exact ⟨x, h1, h2, pq_size hT h.le, h3, h4⟩
theorem TxB.got {P : Nat → Prop} {w W : World} {t : Ex} {x : Value} (h : ExKidsB (fun g => w.heap.size ≤ g) t W x) (hz : t.size ≤ 1000000) (hb : ∀ q, w.heap.size ≤ q → P q) : TxB P W (t, x) := ⟨kidsB_keep (Nat.le_refl _) (fun g _ hp => ⟨rfl, hb g hp⟩) h, by show t.size ≤ _; omega⟩
theorem limQ_yes {tk : List Tk} {s : Pt} (h : accB tk kLimit s = true) : limQ tk s = (numT tk 1 73049 s.adv, numP tk 1 73049 s.adv) := if_pos h
theorem limQ_no {tk : List Tk} {s : Pt} (h : accB tk kLimit s = false) : limQ tk s = (0, s) := if_neg (by simp [h])
section
variable {tk : List Tk} {v : Ver} {s : Pt} {h0 : accB tk kCredit s = false} {h1 : accB tk kIndex s = false} {h2 : accB tk kLet s = false} {h3 : accB tk kGrant s = false}
theorem claQ_cr (h : accB tk kCredit s = true) : claQ tk v s = ((crQ tk v s.adv).1, expP tk kSemi (crQ tk v s.adv).2) ∧ claO tk s = true := ⟨by unfold claQ; rw [if_pos h], by unfold claO; rw [h]; rfl⟩
theorem claQ_se (h0 : accB tk kCredit s = false) (h : accB tk kIndex s = true) : claQ tk v s = ((seQ tk v s.adv).1, expP tk kSemi (seQ tk v s.adv).2) ∧ claO tk s = true := ⟨by unfold claQ; rw [if_neg (by simp [h0]), if_pos h], by unfold claO; rw [h0, h]; rfl⟩
theorem claQ_le (h0 : accB tk kCredit s = false) (h1 : accB tk kIndex s = false) (h : accB tk kLet s = true) : claQ tk v s = ((leQ tk v s.adv).1, expP tk kSemi (leQ tk v s.adv).2) ∧ claO tk s = true := ⟨by unfold claQ; rw [if_neg (by simp [h0]), if_neg (by simp [h1]), if_pos h], by unfold claO; rw [h0, h1, h]; rfl⟩
theorem claQ_gr (h0 : accB tk kCredit s = false) (h1 : accB tk kIndex s = false) (h2 : accB tk kLet s = false) (h : accB tk kGrant s = true) : claQ tk v s = ((grQ tk v s.adv).1, expP tk kSemi (grQ tk v s.adv).2) ∧ claO tk s = true := ⟨by unfold claQ; rw [if_neg (by simp [h0]), if_neg (by simp [h1]), if_neg (by simp [h2]), if_pos h], by unfold claO; rw [h0, h1, h2, h]; rfl⟩
theorem claQ_re (h0 : accB tk kCredit s = false) (h1 : accB tk kIndex s = false) (h2 : accB tk kLet s = false) (h3 : accB tk kGrant s = false) (h : accB tk kReduce s = true) : claQ tk v s = ((reQ tk v s.adv).1, expP tk kSemi (reQ tk v s.adv).2) ∧ claO tk s = true := ⟨by unfold claQ; rw [if_neg (by simp [h0]), if_neg (by simp [h1]), if_neg (by simp [h2]), if_neg (by simp [h3]), if_pos h], by unfold claO; rw [h0, h1, h2, h3, h]; rfl⟩
theorem claQ_no (h0 : accB tk kCredit s = false) (h1 : accB tk kIndex s = false) (h2 : accB tk kLet s = false) (h3 : accB tk kGrant s = false) (h : accB tk kReduce s = false) : claQ tk v s = (v, s) ∧ claO tk s = false := ⟨by unfold claQ; rw [if_neg (by simp [h0]), if_neg (by simp [h1]), if_neg (by simp [h2]), if_neg (by simp [h3]), if_neg (by simp [h])], by unfold claO; rw [h0, h1, h2, h3, h]; rfl⟩
end
def ClRes (b G : Nat) (tk : List Tk) (E : Int) (w0 : World) (BO N : Nat) (o : Bool) (r : Ver × Pt) (e : Ending) (w' : World) : Prop := ∃ m', e = .returned (.bool o) ∧ m'.pl = r.1 ∧ Prs w' b G tk E r.2 ∧ ClS b w0 w' BO (N + 1) m'
end Go.Proofs.YtlmclkaighlfaaaDoor

/- Lemmas, each as it is printed; no conditions but those printed. -/
import Derived.Test.YthmlhheceihcbaaGreatDoorPB42
import Derived.Test.YthmlhheceihcbaaGreatDoorPB33
import Derived.Test.YthmlhheceihcbaaGreatDoorPB32
namespace Go.Proofs.YthmlhheceihcbaaGreatDoor.Tree
set_option maxHeartbeats 16000000
open Str Frac Tok Txt
set_option linter.unusedVariables false
def Stop (p : UInt8 -> Bool) (l : List UInt8) : Prop := ∀ c m, l = c :: m -> p c = false
theorem dgb_bd {c : UInt8} (h : dgb c = true) : 48 <= (c.toNat : Int) /\ (c.toNat : Int) <= 57 := by unfold dgb at h; simpa using h
theorem dgb_no {c : UInt8} (h : ¬ (48 <= (c.toNat : Int) /\ (c.toNat : Int) <= 57)) : dgb c = false := by
 cases hx : dgb c
 ·rfl
 ·exact absurd (dgb_bd hx) h
def pj (t : Tk) : Int × List UInt8 := (t.K, t.T.data.toList)
def Aft (l : List UInt8) : Prop := ∀ c m, l = c :: m -> c = 32 \/ c = 41 \/ c = 44 \/ c = 59 \/ c = 10
theorem Aft.w {l : List UInt8} (h : Aft l) : Stop inw l := fun c m e => by rcases h c m e with rfl | rfl | rfl | rfl | rfl <;> decide
theorem Aft.n {l : List UInt8} (h : Aft l) : Stop inn l := fun c m e => by rcases h c m e with rfl | rfl | rfl | rfl | rfl <;> decide
/-! The tokens of a tree's text. -/
def kMin : List UInt8 := [109, 105, 110]
def kMax : List UInt8 := [109, 97, 120]
def sgK (op : Int) : Int := if op = 17 \/ op = 18 then 1 else 4
def parT (b : Bool) (x : List (Int × List UInt8)) : List (Int × List UInt8) := if b = true then (4, [40]) :: (x ++ [(4, [41])]) else x
def ndT (op a b d : Int) (s : ByteArray) (p : Nat -> Int -> List (Int × List UInt8)) : List (Int × List UInt8) :=
 if op = 1 then [(2, (fdT a b d).data.toList)] else if op = 2 then [(1, s.data.toList)] else if op = 3 then [(1, kBest), (4, [40]), (2, (numS a).data.toList), (4, [41])]
 else if op = 4 then (4, [45]) :: p 0 7 else if op = 5 then (1, kNot) :: p 0 3
 else if op = 6 then (1, kFloor) :: (4, [40]) :: (p 0 0 ++ [(4, [41])])
 else if op = 19 then (1, kMin) :: (4, [40]) :: (p 0 0 ++ (4, [44]) :: (p 1 0 ++ [(4, [41])]))
 else if op = 20 then (1, kMax) :: (4, [40]) :: (p 0 0 ++ (4, [44]) :: (p 1 0 ++ [(4, [41])]))
 else if op = 21 then (1, kIf) :: (p 0 0 ++ (1, kThen) :: (p 1 0 ++ (1, kElse) :: p 2 0))
 else p 0 (if levI op = 4 then 5 else levI op) ++ (sgK op, (sgS op).data.toList) :: p 1 (levI op + 1)
def Ex.tb : Ex -> List (Int × List UInt8)
 | .no => []
 | .mk op a b d s n kid => ndT op a b d s fun i l => parT (decide (levI (kid i).op < l)) (kid i).tb
def Ex.tp (t : Ex) (l : Int) : List (Int × List UInt8) := parT (decide (levI t.op < l)) t.tb
end Go.Proofs.YthmlhheceihcbaaGreatDoor.Tree
namespace Go.Proofs.YthmlhheceihcbaaGreatDoor.Tree
set_option maxHeartbeats 16000000
open Str Frac Tok Txt
set_option linter.unusedVariables false
/-! What stands at the head of a row of tokens. -/
def hdB (x : List UInt8) : List (Int × List UInt8) -> Bool
 | (K, y) :: _ => (K == 1 || K == 4) && y == x
 | [] => false
def hdO : List (List UInt8 × Int) -> List (Int × List UInt8) -> Bool
 | [], _ => false
 | p :: l, ts => if hdB p.1 ts = true then true else hdO l ts
structure Fol (L : Int) (ts : List (Int × List UInt8)) : Prop where
 or : L <= 1 -> hdB kOr ts = false
 and : L <= 2 -> hdB kAnd ts = false
 rel : L <= 4 -> hdO relL ts = false
 sum : L <= 5 -> hdO sumL ts = false
 mul : L <= 6 -> hdO mulL ts = false
theorem Fol.mono {L M : Int} {ts : List (Int × List UInt8)} (h : Fol L ts) (hl : L <= M) : Fol M ts := ⟨fun k => h.or (by omega), fun k => h.and (by omega), fun k => h.rel (by omega), fun k => h.sum (by omega), fun k => h.mul (by omega)⟩
/-! The parser with enough fuel. -/
def PE (tk : List Tk) (m : Nat) (a : Ex) (s : Pt) (r : Ex × Pt) : Prop := ∃ f0, ∀ f, f0 <= f -> pe tk f m a s = r
theorem PE.step {tk : List Tk} {m : Nat} {a : Ex} {s : Pt} {r : Ex × Pt} (f0 : Nat) (h : ∀ f, f0 <= f -> pe tk (f + 1) m a s = r) : PE tk m a s r := ⟨f0 + 1, fun f hf => by
 obtain ⟨g, rfl⟩ : ∃ g, f = g + 1 := ⟨f - 1, by omega⟩
 exact h g (by omega)⟩
theorem PE.m1 {tk : List Tk} {a x : Ex} {s t : Pt} {r : Ex × Pt} (h : PE tk 2 .no s (x, t)) (h1 : PE tk 11 x t r) : PE tk 1 a s r := by
 obtain ⟨f1, e1⟩ := h; obtain ⟨f2, e2⟩ := h1;exact PE.step (f1 + f2) (fun f hf => by rw [pe_1, e1 f (by omega), e2 f (by omega)])
theorem PE.m2 {tk : List Tk} {a x : Ex} {s t : Pt} {r : Ex × Pt} (h : PE tk 3 .no s (x, t)) (h1 : PE tk 12 x t r) : PE tk 2 a s r := by
 obtain ⟨f1, e1⟩ := h; obtain ⟨f2, e2⟩ := h1;exact PE.step (f1 + f2) (fun f hf => by rw [pe_2, e1 f (by omega), e2 f (by omega)])
theorem PE.m5 {tk : List Tk} {a x : Ex} {s t : Pt} {r : Ex × Pt} (h : PE tk 6 .no s (x, t)) (h1 : PE tk 15 x t r) : PE tk 5 a s r := by
 obtain ⟨f1, e1⟩ := h; obtain ⟨f2, e2⟩ := h1;exact PE.step (f1 + f2) (fun f hf => by rw [pe_5, e1 f (by omega), e2 f (by omega)])
theorem PE.m6 {tk : List Tk} {a x : Ex} {s t : Pt} {r : Ex × Pt} (h : PE tk 7 .no s (x, t)) (h1 : PE tk 16 x t r) : PE tk 6 a s r := by
 obtain ⟨f1, e1⟩ := h; obtain ⟨f2, e2⟩ := h1;exact PE.step (f1 + f2) (fun f hf => by rw [pe_6, e1 f (by omega), e2 f (by omega)])
end Go.Proofs.YthmlhheceihcbaaGreatDoor.Tree
namespace Go.Proofs.YthmlhheceihcbaaGreatDoor.Tree
set_option maxHeartbeats 16000000
open Str Frac Tok Txt
set_option linter.unusedVariables false
def At (tk : List Tk) (t : Ex) (m : Nat) (L : Int) : Prop := ∀ i rest, (tk.drop i).map pj = t.tp L ++ rest -> Fol L rest -> ∃ e, t.same e = true /\ PE tk m .no ⟨i, true⟩ (e, ⟨i + (t.tp L).length, true⟩)
def Sp (tk : List Tk) (t : Ex) (m : Nat) (L : Int) (k : Nat) : Prop := ∀ i rest, (tk.drop i).map pj = t.tp L ++ rest -> Fol (L + 1) rest -> ∃ e, t.same e = true /\ ∀ r, PE tk k e ⟨i + (t.tp L).length, true⟩ r -> PE tk m .no ⟨i, true⟩ r
structure TG (tk : List Tk) (t : Ex) : Prop where
 a0 : At tk t 0 0
 a1 : At tk t 1 1
 a2 : At tk t 2 2
 a3 : At tk t 3 3
 a4 : At tk t 4 4
 a5 : At tk t 5 5
 a6 : At tk t 6 6
 a7 : At tk t 7 7
 s1 : Sp tk t 1 1 11
 s2 : Sp tk t 2 2 12
 s5 : Sp tk t 5 5 15
 s6 : Sp tk t 6 6 16
/-! Fuel. -/
def cm (m : Nat) : Nat := if m = 0 then 8 else if m = 1 then 7 else if m = 2 then 6 else if m = 3 then 5 else if m = 4 then 4 else if m = 5 then 3 else if m = 6 then 2 else 1
theorem pe_stab (tk : List Tk) (f : Nat) : ∀ m a s, md m -> 10 * rem tk s + cm m <= f -> pe tk (f + 1) m a s = pe tk f m a s := by
 induction f with
 | zero => intro m a s hm h; unfold cm at h; exfalso; revert h; (repeat' split) <;> omega
 | succ f ih =>
  have i0 : ∀ a s, 10 * rem tk s + 8 <= f -> pe tk (f + 1) 0 a s = pe tk f 0 a s := fun a s h => ih 0 a s (by unfold md; decide) h
  have b0 : ∀ a s, rem tk (pe tk f 0 a s).2 <= rem tk s := fun a s => (pe_beh tk f 0 a s (by unfold md; decide)).rem
  have i1 : ∀ a s, 10 * rem tk s + 7 <= f -> pe tk (f + 1) 1 a s = pe tk f 1 a s := fun a s h => ih 1 a s (by unfold md; decide) h
  have b1 : ∀ a s, rem tk (pe tk f 1 a s).2 <= rem tk s := fun a s => (pe_beh tk f 1 a s (by unfold md; decide)).rem
  have i2 : ∀ a s, 10 * rem tk s + 6 <= f -> pe tk (f + 1) 2 a s = pe tk f 2 a s := fun a s h => ih 2 a s (by unfold md; decide) h
  have b2 : ∀ a s, rem tk (pe tk f 2 a s).2 <= rem tk s := fun a s => (pe_beh tk f 2 a s (by unfold md; decide)).rem
  have i3 : ∀ a s, 10 * rem tk s + 5 <= f -> pe tk (f + 1) 3 a s = pe tk f 3 a s := fun a s h => ih 3 a s (by unfold md; decide) h
  have b3 : ∀ a s, rem tk (pe tk f 3 a s).2 <= rem tk s := fun a s => (pe_beh tk f 3 a s (by unfold md; decide)).rem
  have i4 : ∀ a s, 10 * rem tk s + 4 <= f -> pe tk (f + 1) 4 a s = pe tk f 4 a s := fun a s h => ih 4 a s (by unfold md; decide) h
  have b4 : ∀ a s, rem tk (pe tk f 4 a s).2 <= rem tk s := fun a s => (pe_beh tk f 4 a s (by unfold md; decide)).rem
  have i5 : ∀ a s, 10 * rem tk s + 3 <= f -> pe tk (f + 1) 5 a s = pe tk f 5 a s := fun a s h => ih 5 a s (by unfold md; decide) h
  have b5 : ∀ a s, rem tk (pe tk f 5 a s).2 <= rem tk s := fun a s => (pe_beh tk f 5 a s (by unfold md; decide)).rem
  have i6 : ∀ a s, 10 * rem tk s + 2 <= f -> pe tk (f + 1) 6 a s = pe tk f 6 a s := fun a s h => ih 6 a s (by unfold md; decide) h
  have b6 : ∀ a s, rem tk (pe tk f 6 a s).2 <= rem tk s := fun a s => (pe_beh tk f 6 a s (by unfold md; decide)).rem
  have i7 : ∀ a s, 10 * rem tk s + 1 <= f -> pe tk (f + 1) 7 a s = pe tk f 7 a s := fun a s h => ih 7 a s (by unfold md; decide) h
  have b7 : ∀ a s, rem tk (pe tk f 7 a s).2 <= rem tk s := fun a s => (pe_beh tk f 7 a s (by unfold md; decide)).rem
  have i11 : ∀ a s, 10 * rem tk s + 1 <= f -> pe tk (f + 1) 11 a s = pe tk f 11 a s := fun a s h => ih 11 a s (by unfold md; decide) h
  have b11 : ∀ a s, rem tk (pe tk f 11 a s).2 <= rem tk s := fun a s => (pe_beh tk f 11 a s (by unfold md; decide)).rem
  have i12 : ∀ a s, 10 * rem tk s + 1 <= f -> pe tk (f + 1) 12 a s = pe tk f 12 a s := fun a s h => ih 12 a s (by unfold md; decide) h
  have b12 : ∀ a s, rem tk (pe tk f 12 a s).2 <= rem tk s := fun a s => (pe_beh tk f 12 a s (by unfold md; decide)).rem
  have i15 : ∀ a s, 10 * rem tk s + 1 <= f -> pe tk (f + 1) 15 a s = pe tk f 15 a s := fun a s h => ih 15 a s (by unfold md; decide) h
  have b15 : ∀ a s, rem tk (pe tk f 15 a s).2 <= rem tk s := fun a s => (pe_beh tk f 15 a s (by unfold md; decide)).rem
  have i16 : ∀ a s, 10 * rem tk s + 1 <= f -> pe tk (f + 1) 16 a s = pe tk f 16 a s := fun a s h => ih 16 a s (by unfold md; decide) h
  have b16 : ∀ a s, rem tk (pe tk f 16 a s).2 <= rem tk s := fun a s => (pe_beh tk f 16 a s (by unfold md; decide)).rem
  have xb : ∀ x s, rem tk (expP tk x s) <= rem tk s := fun x s => (exp_beh tk x s).rem
  intro m a s hm h;unfold md at hm
  rcases hm with rfl | rfl | rfl | rfl | rfl | rfl | rfl | rfl | rfl | rfl | rfl | rfl
  ·have h : 10 * rem tk s + 8 <= f + 1 := h;rw [pe_0 tk (f + 1) a s, pe_0 tk f a s];by_cases hA : accB tk kIf s = true
   ·rw [if_pos hA, if_pos hA];have q0 := (acc_beh hA).2;rw [i0 .no s.adv (by omega)];have q1 := b0 .no s.adv;have q2 := xb kThen (pe tk f 0 .no s.adv).2;rw [i0 .no (expP tk kThen (pe tk f 0 .no s.adv).2) (by omega)];have q3 := b0 .no (expP tk kThen (pe tk f 0 .no s.adv).2);have q4 := xb kElse (pe tk f 0 .no (expP tk kThen (pe tk f 0 .no s.adv).2)).2;rw [i0 .no (expP tk kElse (pe tk f 0 .no (expP tk kThen (pe tk f 0 .no s.adv).2)).2) (by omega)]
   ·rw [if_neg hA, if_neg hA]; exact i1 _ _ (by omega)
  ·have h : 10 * rem tk s + 7 <= f + 1 := h;rw [pe_1 tk (f + 1) a s, pe_1 tk f a s, i2 .no s (by omega)];have q := b2 .no s;exact i11 _ _ (by omega)
  ·have h : 10 * rem tk s + 1 <= f + 1 := h;rw [pe_11 tk (f + 1) a s, pe_11 tk f a s];by_cases hA : accB tk kOr s = true
   ·rw [if_pos hA, if_pos hA];have q0 := (acc_beh hA).2;rw [i2 .no s.adv (by omega)];have q := b2 .no s.adv;exact i11 _ _ (by omega)
   ·rw [if_neg hA, if_neg hA]
  ·have h : 10 * rem tk s + 6 <= f + 1 := h;rw [pe_2 tk (f + 1) a s, pe_2 tk f a s, i3 .no s (by omega)];have q := b3 .no s;exact i12 _ _ (by omega)
  ·have h : 10 * rem tk s + 1 <= f + 1 := h;rw [pe_12 tk (f + 1) a s, pe_12 tk f a s];by_cases hA : accB tk kAnd s = true
   ·rw [if_pos hA, if_pos hA];have q0 := (acc_beh hA).2;rw [i3 .no s.adv (by omega)];have q := b3 .no s.adv;exact i12 _ _ (by omega)
   ·rw [if_neg hA, if_neg hA]
  ·have h : 10 * rem tk s + 5 <= f + 1 := h;rw [pe_3 tk (f + 1) a s, pe_3 tk f a s];by_cases hA : accB tk kNot s = true
   ·rw [if_pos hA, if_pos hA];have q0 := (acc_beh hA).2;rw [i3 .no s.adv (by omega)]
   ·rw [if_neg hA, if_neg hA]; exact i4 _ _ (by omega)
  ·have h : 10 * rem tk s + 4 <= f + 1 := h;rw [pe_4 tk (f + 1) a s, pe_4 tk f a s, i5 .no s (by omega)];by_cases hA : binO tk (pe tk f 5 .no s).2 relL = true
   ·rw [if_pos hA, if_pos hA];have q0 := (bin_beh hA).2;have q := b5 .no s;rw [i5 .no (pe tk f 5 .no s).2.adv (by omega)]
   ·rw [if_neg hA, if_neg hA]
  ·have h : 10 * rem tk s + 3 <= f + 1 := h;rw [pe_5 tk (f + 1) a s, pe_5 tk f a s, i6 .no s (by omega)];have q := b6 .no s;exact i15 _ _ (by omega)
  ·have h : 10 * rem tk s + 1 <= f + 1 := h;rw [pe_15 tk (f + 1) a s, pe_15 tk f a s];by_cases hA : binO tk s sumL = true
   ·rw [if_pos hA, if_pos hA];have q0 := (bin_beh hA).2;rw [i6 .no s.adv (by omega)];have q := b6 .no s.adv;exact i15 _ _ (by omega)
   ·rw [if_neg hA, if_neg hA]
  ·have h : 10 * rem tk s + 2 <= f + 1 := h;rw [pe_6 tk (f + 1) a s, pe_6 tk f a s, i7 .no s (by omega)];have q := b7 .no s;exact i16 _ _ (by omega)
  ·have h : 10 * rem tk s + 1 <= f + 1 := h;rw [pe_16 tk (f + 1) a s, pe_16 tk f a s];by_cases hA : binO tk s mulL = true
   ·rw [if_pos hA, if_pos hA];have q0 := (bin_beh hA).2;rw [i7 .no s.adv (by omega)];have q := b7 .no s.adv;exact i16 _ _ (by omega)
   ·rw [if_neg hA, if_neg hA]
  ·have h : 10 * rem tk s + 1 <= f + 1 := h;rw [pe_7 tk (f + 1) a s, pe_7 tk f a s];by_cases h1 : accB tk kNeg s = true
   ·rw [if_pos h1, if_pos h1];have q0 := (acc_beh h1).2;rw [i7 .no s.adv (by omega)]
   rw [if_neg h1, if_neg h1];by_cases h2 : accB tk kOpen s = true
   ·rw [if_pos h2, if_pos h2];have q0 := (acc_beh h2).2;rw [i0 .no s.adv (by omega)]
   rw [if_neg h2, if_neg h2];by_cases h3 : accB tk kBest s = true
   ·rw [if_pos h3, if_pos h3]
   rw [if_neg h3, if_neg h3];by_cases h4 : accB tk kFloor s = true
   ·rw [if_pos h4, if_pos h4];have q0 := (acc_beh h4).2;have q1 := xb kOpen s.adv;rw [i0 .no (expP tk kOpen s.adv) (by omega)]
   rw [if_neg h4, if_neg h4];by_cases h5 : binO tk s mmL = true
   ·rw [if_pos h5, if_pos h5];have q0 := (bin_beh h5).2;have q1 := xb kOpen s.adv;rw [i0 .no (expP tk kOpen s.adv) (by omega)];have q2 := b0 .no (expP tk kOpen s.adv);have q3 := xb kComma (pe tk f 0 .no (expP tk kOpen s.adv)).2;rw [i0 .no (expP tk kComma (pe tk f 0 .no (expP tk kOpen s.adv)).2) (by omega)]
   rw [if_neg h5, if_neg h5]
theorem pe_const (tk : List Tk) {m : Nat} (hm : md m) (a : Ex) (s : Pt) {f : Nat} (h : 10 * rem tk s + cm m <= f) : ∀ k, pe tk (f + k) m a s = pe tk f m a s := by
 intro k
 induction k with
 | zero => rfl
 | succ k ih => rw [<- Nat.add_assoc, pe_stab tk (f + k) m a s hm (by omega), ih]
theorem PE.at {tk : List Tk} {m : Nat} (hm : md m) {a : Ex} {s : Pt} {r : Ex × Pt} (h : PE tk m a s r) {f : Nat} (hf : 10 * rem tk s + cm m <= f) : pe tk f m a s = r := by
 obtain ⟨f0, e⟩ := h;rw [<- pe_const tk hm a s hf f0];exact e (f + f0) (by omega)
end Go.Proofs.YthmlhheceihcbaaGreatDoor.Tree

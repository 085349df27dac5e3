/- Lemmas, each as it is printed; no conditions but those printed. -/
import Derived.Test.YthmlhheceihcbaaGreatDoorKB9
import Derived.Great.Walk
namespace Go.Proofs.YthmlhheceihcbaaGreatDoor.Tree
set_option maxHeartbeats 16000000
open Str Frac Tok Txt
set_option linter.unusedVariables false
noncomputable section
structure Pt where
 i : Nat
 ok : Bool
def Pt.adv (s : Pt) : Pt := ⟨s.i + 1, s.ok⟩
def Pt.no (s : Pt) : Pt := ⟨s.i, false⟩
def tkAt (tk : List Tk) (s : Pt) : Option Tk := if s.ok = true then tk[s.i]? else none
def pkK (tk : List Tk) (s : Pt) : Int := match tkAt tk s with | some t => t.K | none => 0
def pkT (tk : List Tk) (s : Pt) : ByteArray := match tkAt tk s with | some t => t.T | none => ⟨#[]⟩
def pkA (tk : List Tk) (E : Int) (s : Pt) : Int := match tkAt tk s with | some t => t.A | none => E
def posI (tk : List Tk) (E : Int) (i : Nat) : Int := match tk[i]? with | some t => t.A | none => E
def accB (tk : List Tk) (x : List UInt8) (s : Pt) : Bool := match tkAt tk s with | some t => (t.K == 1 || t.K == 4) && t.T.data.toList == x | none => false
def accP (tk : List Tk) (x : List UInt8) (s : Pt) : Pt := if accB tk x s = true then s.adv else s
def expP (tk : List Tk) (x : List UInt8) (s : Pt) : Pt := if accB tk x s = true then s.adv else s.no
def namO (tk : List Tk) (s : Pt) : Bool := match tkAt tk s with | some t => t.K == 1 && namB t.T | none => false
def namT (tk : List Tk) (s : Pt) : ByteArray := if namO tk s = true then pkT tk s else ⟨#[]⟩
def namP (tk : List Tk) (s : Pt) : Pt := if namO tk s = true then s.adv else s.no
def whoB (s : ByteArray) : Bool := decB s && (decX s == 2 && decD s == 1)
def numO (tk : List Tk) (lo hi : Int) (s : Pt) : Bool := match tkAt tk s with | some t => t.K == 2 && (whoB t.T && (decide (lo <= decN t.T) && decide (decN t.T <= hi))) | none => false
def numT (tk : List Tk) (lo hi : Int) (s : Pt) : Int := if numO tk lo hi s = true then decN (pkT tk s) else 0
def numP (tk : List Tk) (lo hi : Int) (s : Pt) : Pt := if numO tk lo hi s = true then s.adv else s.no
def binT (tk : List Tk) (s : Pt) : List (List UInt8 × Int) -> Int
 | [] => 0
 | p :: l => if accB tk p.1 s = true then p.2 else binT tk s l
def binO (tk : List Tk) (s : Pt) : List (List UInt8 × Int) -> Bool
 | [] => false
 | p :: l => if accB tk p.1 s = true then true else binO tk s l
def binP (tk : List Tk) (s : Pt) (l : List (List UInt8 × Int)) : Pt := if binO tk s l = true then s.adv else s
def trB (op : Int) (a b : Ex) : Ex := .mk op 0 0 0 ⟨#[]⟩ 2 (fun i => if i = 0 then a else b)
def trU (op : Int) (a : Ex) : Ex := .mk op 0 0 0 ⟨#[]⟩ 1 (fun _ => a)
def trI (a b c : Ex) : Ex := .mk 21 0 0 0 ⟨#[]⟩ 3 (fun i => if i = 0 then a else if i = 1 then b else c)
def trN (s : ByteArray) : Ex := .mk 2 0 0 0 s 0 (fun _ => .no)
def trL (a b d : Int) : Ex := .mk 1 a b d ⟨#[]⟩ 0 (fun _ => .no)
def trS (n : Int) : Ex := .mk 3 n 1 0 ⟨#[]⟩ 0 (fun _ => .no)
def kIf : List UInt8 := [105, 102]
def kThen : List UInt8 := [116, 104, 101, 110]
def kElse : List UInt8 := [101, 108, 115, 101]
def kOr : List UInt8 := [111, 114]
def kAnd : List UInt8 := [97, 110, 100]
def kNot : List UInt8 := [110, 111, 116]
def kNeg : List UInt8 := [45]
def kOpen : List UInt8 := [40]
def kShut : List UInt8 := [41]
def kComma : List UInt8 := [44]
def kBest : List UInt8 := [98, 101, 115, 116]
def kFloor : List UInt8 := [102, 108, 111, 111, 114]
def relL : List (List UInt8 × Int) := [([60], 11), ([60, 61], 12), ([61], 13), ([60, 62], 14), ([62], 15), ([62, 61], 16)]
def sumL : List (List UInt8 × Int) := [([43], 7), ([45], 8)]
def mulL : List (List UInt8 × Int) := [([42], 9), ([47], 10)]
def mmL : List (List UInt8 × Int) := [([109, 105, 110], 19), ([109, 97, 120], 20)]
def pe (tk : List Tk) : Nat -> Nat -> Ex -> Pt -> Ex × Pt
 | 0, _, a, s => (a, s)
 | f + 1, m, a, s =>
  if m = 0 then
   if accB tk kIf s = true then
    let c := pe tk f 0 .no s.adv
    let x := pe tk f 0 .no (expP tk kThen c.2)
    let y := pe tk f 0 .no (expP tk kElse x.2)
    (trI c.1 x.1 y.1, y.2)
   else pe tk f 1 .no s
  else if m = 1 then pe tk f 11 (pe tk f 2 .no s).1 (pe tk f 2 .no s).2
  else if m = 11 then (if accB tk kOr s = true then pe tk f 11 (trB 18 a (pe tk f 2 .no s.adv).1) (pe tk f 2 .no s.adv).2 else (a, s))
  else if m = 2 then pe tk f 12 (pe tk f 3 .no s).1 (pe tk f 3 .no s).2
  else if m = 12 then (if accB tk kAnd s = true then pe tk f 12 (trB 17 a (pe tk f 3 .no s.adv).1) (pe tk f 3 .no s.adv).2 else (a, s))
  else if m = 3 then (if accB tk kNot s = true then (trU 5 (pe tk f 3 .no s.adv).1, (pe tk f 3 .no s.adv).2) else pe tk f 4 .no s)
  else if m = 4 then
   let e := pe tk f 5 .no s
   if binO tk e.2 relL = true then (trB (binT tk e.2 relL) e.1 (pe tk f 5 .no e.2.adv).1, (pe tk f 5 .no e.2.adv).2) else e
  else if m = 5 then pe tk f 15 (pe tk f 6 .no s).1 (pe tk f 6 .no s).2
  else if m = 15 then (if binO tk s sumL = true then pe tk f 15 (trB (binT tk s sumL) a (pe tk f 6 .no s.adv).1) (pe tk f 6 .no s.adv).2 else (a, s))
  else if m = 6 then pe tk f 16 (pe tk f 7 .no s).1 (pe tk f 7 .no s).2
  else if m = 16 then (if binO tk s mulL = true then pe tk f 16 (trB (binT tk s mulL) a (pe tk f 7 .no s.adv).1) (pe tk f 7 .no s.adv).2 else (a, s))
  else if accB tk kNeg s = true then (trU 4 (pe tk f 7 .no s.adv).1, (pe tk f 7 .no s.adv).2)
  else if accB tk kOpen s = true then ((pe tk f 0 .no s.adv).1, expP tk kShut (pe tk f 0 .no s.adv).2)
  else if accB tk kBest s = true then (trS (numT tk 1 45 (expP tk kOpen s.adv)), expP tk kShut (numP tk 1 45 (expP tk kOpen s.adv)))
  else if accB tk kFloor s = true then
   let e := pe tk f 0 .no (expP tk kOpen s.adv)
   (trU 6 e.1, expP tk kShut e.2)
  else if binO tk s mmL = true then
   let x := pe tk f 0 .no (expP tk kOpen s.adv)
   let y := pe tk f 0 .no (expP tk kComma x.2)
   (trB (binT tk s mmL) x.1 y.1, expP tk kShut y.2)
  else if pkK tk s = 2 then (trL (decN (pkT tk s)) (decD (pkT tk s)) (decX (pkT tk s)), s.adv)
  else (trN (namT tk s), namP tk s)
def rem (tk : List Tk) (s : Pt) : Nat := if s.ok = true then tk.length - s.i else 0
def Beh (tk : List Tk) (s t : Pt) : Prop := s.i <= t.i /\ (t.ok = true -> s.ok = true) /\ (s.i <= tk.length -> t.i <= tk.length)
theorem Beh.refl (tk : List Tk) (s : Pt) : Beh tk s s := ⟨Nat.le_refl _, id, id⟩
theorem Beh.trans {tk : List Tk} {a b c : Pt} (h : Beh tk a b) (k : Beh tk b c) : Beh tk a c := ⟨Nat.le_trans h.1 k.1, fun x => h.2.1 (k.2.1 x), fun x => k.2.2 (h.2.2 x)⟩
theorem Beh.rem {tk : List Tk} {a b : Pt} (h : Beh tk a b) : rem tk b <= rem tk a := by
 obtain ⟨h1, h2, -⟩ := h;unfold Tree.rem;by_cases hb : b.ok = true
 ·rw [if_pos hb, if_pos (h2 hb)]; omega
 ·rw [if_neg hb]; omega
theorem tkAt_some {tk : List Tk} {s : Pt} {t : Tk} (h : tkAt tk s = some t) : s.ok = true /\ s.i < tk.length /\ tk[s.i]? = some t := by
 unfold tkAt at h
 split at h
 ·rename_i ho; exact ⟨ho, (List.getElem?_eq_some_iff.1 h).1, h⟩
 ·cases h
theorem accB_some {tk : List Tk} {x : List UInt8} {s : Pt} (h : accB tk x s = true) : ∃ t, tkAt tk s = some t /\ (t.K = 1 \/ t.K = 4) /\ t.T.data.toList = x := by
 unfold accB at h
 split at h
 ·rename_i t ht;simp at h;exact ⟨t, ht, h⟩
 ·cases h
theorem adv_beh {tk : List Tk} {s : Pt} {t : Tk} (h : tkAt tk s = some t) : Beh tk s s.adv /\ rem tk s.adv + 1 <= rem tk s := by
 obtain ⟨ho, hi, -⟩ := tkAt_some h;refine ⟨⟨Nat.le_succ _, id, fun _ => hi⟩, ?_⟩;unfold rem Pt.adv;simp only [ho, if_true]; omega
theorem acc_beh {tk : List Tk} {x : List UInt8} {s : Pt} (h : accB tk x s = true) : Beh tk s s.adv /\ rem tk s.adv + 1 <= rem tk s := by
 obtain ⟨t, ht, -⟩ := accB_some h;exact adv_beh ht
theorem no_beh (tk : List Tk) (s : Pt) : Beh tk s s.no := ⟨Nat.le_refl _, (fun h => by cases h), id⟩
theorem exp_beh (tk : List Tk) (x : List UInt8) (s : Pt) : Beh tk s (expP tk x s) := by
 unfold expP; split
 ·rename_i h; exact (acc_beh h).1
 ·exact no_beh tk s
theorem nam_beh (tk : List Tk) (s : Pt) : Beh tk s (namP tk s) := by
 unfold namP; split
 ·rename_i h;unfold namO at h
  split at h
  ·rename_i t ht; exact (adv_beh ht).1
  ·cases h
 ·exact no_beh tk s
theorem num_beh (tk : List Tk) (lo hi : Int) (s : Pt) : Beh tk s (numP tk lo hi s) := by
 unfold numP; split
 ·rename_i h;unfold numO at h
  split at h
  ·rename_i t ht; exact (adv_beh ht).1
  ·cases h
 ·exact no_beh tk s
theorem bin_beh {tk : List Tk} {s : Pt} {l : List (List UInt8 × Int)} (h : binO tk s l = true) : Beh tk s s.adv /\ rem tk s.adv + 1 <= rem tk s := by
 induction l with
 | nil => cases h
 | cons p l ih =>
  simp only [binO] at h
  split at h
  ·rename_i ha; exact acc_beh ha
  ·exact ih h
theorem pk_two {tk : List Tk} {s : Pt} (h : pkK tk s = 2) : ∃ t, tkAt tk s = some t /\ t.K = 2 := by
 unfold pkK at h
 split at h
 ·rename_i t ht; exact ⟨t, ht, h⟩
 ·omega
theorem pe_0 (tk : List Tk) (f : Nat) (a : Ex) (s : Pt) : pe tk (f + 1) 0 a s = if accB tk kIf s = true then (trI (pe tk f 0 .no s.adv).1 (pe tk f 0 .no (expP tk kThen (pe tk f 0 .no s.adv).2)).1 (pe tk f 0 .no (expP tk kElse (pe tk f 0 .no (expP tk kThen (pe tk f 0 .no s.adv).2)).2)).1, (pe tk f 0 .no (expP tk kElse (pe tk f 0 .no (expP tk kThen (pe tk f 0 .no s.adv).2)).2)).2) else pe tk f 1 .no s := rfl
theorem pe_1 (tk : List Tk) (f : Nat) (a : Ex) (s : Pt) : pe tk (f + 1) 1 a s = pe tk f 11 (pe tk f 2 .no s).1 (pe tk f 2 .no s).2 := rfl
theorem pe_11 (tk : List Tk) (f : Nat) (a : Ex) (s : Pt) : pe tk (f + 1) 11 a s = if accB tk kOr s = true then pe tk f 11 (trB 18 a (pe tk f 2 .no s.adv).1) (pe tk f 2 .no s.adv).2 else (a, s) := rfl
theorem pe_2 (tk : List Tk) (f : Nat) (a : Ex) (s : Pt) : pe tk (f + 1) 2 a s = pe tk f 12 (pe tk f 3 .no s).1 (pe tk f 3 .no s).2 := rfl
theorem pe_12 (tk : List Tk) (f : Nat) (a : Ex) (s : Pt) : pe tk (f + 1) 12 a s = if accB tk kAnd s = true then pe tk f 12 (trB 17 a (pe tk f 3 .no s.adv).1) (pe tk f 3 .no s.adv).2 else (a, s) := rfl
theorem pe_3 (tk : List Tk) (f : Nat) (a : Ex) (s : Pt) : pe tk (f + 1) 3 a s = if accB tk kNot s = true then (trU 5 (pe tk f 3 .no s.adv).1, (pe tk f 3 .no s.adv).2) else pe tk f 4 .no s := rfl
theorem pe_4 (tk : List Tk) (f : Nat) (a : Ex) (s : Pt) : pe tk (f + 1) 4 a s = if binO tk (pe tk f 5 .no s).2 relL = true then (trB (binT tk (pe tk f 5 .no s).2 relL) (pe tk f 5 .no s).1 (pe tk f 5 .no (pe tk f 5 .no s).2.adv).1, (pe tk f 5 .no (pe tk f 5 .no s).2.adv).2) else pe tk f 5 .no s := rfl
theorem pe_5 (tk : List Tk) (f : Nat) (a : Ex) (s : Pt) : pe tk (f + 1) 5 a s = pe tk f 15 (pe tk f 6 .no s).1 (pe tk f 6 .no s).2 := rfl
theorem pe_15 (tk : List Tk) (f : Nat) (a : Ex) (s : Pt) : pe tk (f + 1) 15 a s = if binO tk s sumL = true then pe tk f 15 (trB (binT tk s sumL) a (pe tk f 6 .no s.adv).1) (pe tk f 6 .no s.adv).2 else (a, s) := rfl
theorem pe_6 (tk : List Tk) (f : Nat) (a : Ex) (s : Pt) : pe tk (f + 1) 6 a s = pe tk f 16 (pe tk f 7 .no s).1 (pe tk f 7 .no s).2 := rfl
theorem pe_16 (tk : List Tk) (f : Nat) (a : Ex) (s : Pt) : pe tk (f + 1) 16 a s = if binO tk s mulL = true then pe tk f 16 (trB (binT tk s mulL) a (pe tk f 7 .no s.adv).1) (pe tk f 7 .no s.adv).2 else (a, s) := rfl
theorem pe_7 (tk : List Tk) (f : Nat) (a : Ex) (s : Pt) : pe tk (f + 1) 7 a s =
  if accB tk kNeg s = true then (trU 4 (pe tk f 7 .no s.adv).1, (pe tk f 7 .no s.adv).2)
  else if accB tk kOpen s = true then ((pe tk f 0 .no s.adv).1, expP tk kShut (pe tk f 0 .no s.adv).2)
  else if accB tk kBest s = true then (trS (numT tk 1 45 (expP tk kOpen s.adv)), expP tk kShut (numP tk 1 45 (expP tk kOpen s.adv)))
  else if accB tk kFloor s = true then (trU 6 (pe tk f 0 .no (expP tk kOpen s.adv)).1, expP tk kShut (pe tk f 0 .no (expP tk kOpen s.adv)).2)
  else if binO tk s mmL = true then (trB (binT tk s mmL) (pe tk f 0 .no (expP tk kOpen s.adv)).1 (pe tk f 0 .no (expP tk kComma (pe tk f 0 .no (expP tk kOpen s.adv)).2)).1, expP tk kShut (pe tk f 0 .no (expP tk kComma (pe tk f 0 .no (expP tk kOpen s.adv)).2)).2)
  else if pkK tk s = 2 then (trL (decN (pkT tk s)) (decD (pkT tk s)) (decX (pkT tk s)), s.adv)
  else (trN (namT tk s), namP tk s) := rfl
def md (m : Nat) : Prop := m = 0 \/ m = 1 \/ m = 11 \/ m = 2 \/ m = 12 \/ m = 3 \/ m = 4 \/ m = 5 \/ m = 15 \/ m = 6 \/ m = 16 \/ m = 7
theorem pe_beh (tk : List Tk) (f : Nat) : ∀ m a s, md m -> Beh tk s (pe tk f m a s).2 := by
 induction f with
 | zero => intro m a s _; exact Beh.refl tk s
 | succ f ih =>
  have I : ∀ m a s, (md m) -> Beh tk s (pe tk f m a s).2 := ih;have i0 := fun a s => ih 0 a s (by unfold md; decide)
  have i1 := fun a s => ih 1 a s (by unfold md; decide)
  have i11 := fun a s => ih 11 a s (by unfold md; decide)
  have i2 := fun a s => ih 2 a s (by unfold md; decide)
  have i12 := fun a s => ih 12 a s (by unfold md; decide)
  have i3 := fun a s => ih 3 a s (by unfold md; decide)
  have i4 := fun a s => ih 4 a s (by unfold md; decide)
  have i5 := fun a s => ih 5 a s (by unfold md; decide)
  have i15 := fun a s => ih 15 a s (by unfold md; decide)
  have i6 := fun a s => ih 6 a s (by unfold md; decide)
  have i16 := fun a s => ih 16 a s (by unfold md; decide)
  have i7 := fun a s => ih 7 a s (by unfold md; decide)
  intro m a s hm;unfold md at hm
  rcases hm with rfl | rfl | rfl | rfl | rfl | rfl | rfl | rfl | rfl | rfl | rfl | rfl
  ·rw [pe_0];by_cases h : accB tk kIf s = true
   ·rw [if_pos h]; exact ((acc_beh h).1.trans (i0 _ _)).trans (((exp_beh tk _ _).trans (i0 _ _)).trans ((exp_beh tk _ _).trans (i0 _ _)))
   ·rw [if_neg h]; exact i1 _ _
  ·rw [pe_1]; exact (i2 _ _).trans (i11 _ _)
  ·rw [pe_11];by_cases h : accB tk kOr s = true
   ·rw [if_pos h]; exact ((acc_beh h).1.trans (i2 _ _)).trans (i11 _ _)
   ·rw [if_neg h]; exact Beh.refl tk s
  ·rw [pe_2]; exact (i3 _ _).trans (i12 _ _)
  ·rw [pe_12];by_cases h : accB tk kAnd s = true
   ·rw [if_pos h]; exact ((acc_beh h).1.trans (i3 _ _)).trans (i12 _ _)
   ·rw [if_neg h]; exact Beh.refl tk s
  ·rw [pe_3];by_cases h : accB tk kNot s = true
   ·rw [if_pos h]; exact (acc_beh h).1.trans (i3 _ _)
   ·rw [if_neg h]; exact i4 _ _
  ·rw [pe_4];by_cases h : binO tk (pe tk f 5 .no s).2 relL = true
   ·rw [if_pos h]; exact ((i5 _ _).trans (bin_beh h).1).trans (i5 _ _)
   ·rw [if_neg h]; exact i5 _ _
  ·rw [pe_5]; exact (i6 _ _).trans (i15 _ _)
  ·rw [pe_15];by_cases h : binO tk s sumL = true
   ·rw [if_pos h]; exact ((bin_beh h).1.trans (i6 _ _)).trans (i15 _ _)
   ·rw [if_neg h]; exact Beh.refl tk s
  ·rw [pe_6]; exact (i7 _ _).trans (i16 _ _)
  ·rw [pe_16];by_cases h : binO tk s mulL = true
   ·rw [if_pos h]; exact ((bin_beh h).1.trans (i7 _ _)).trans (i16 _ _)
   ·rw [if_neg h]; exact Beh.refl tk s
  ·rw [pe_7];by_cases h1 : accB tk kNeg s = true
   ·rw [if_pos h1]; exact (acc_beh h1).1.trans (i7 _ _)
   rw [if_neg h1];by_cases h2 : accB tk kOpen s = true
   ·rw [if_pos h2]; exact ((acc_beh h2).1.trans (i0 _ _)).trans (exp_beh tk _ _)
   rw [if_neg h2];by_cases h3 : accB tk kBest s = true
   ·rw [if_pos h3]; exact ((acc_beh h3).1.trans (exp_beh tk _ _)).trans ((num_beh tk _ _ _).trans (exp_beh tk _ _))
   rw [if_neg h3];by_cases h4 : accB tk kFloor s = true
   ·rw [if_pos h4]; exact ((acc_beh h4).1.trans (exp_beh tk _ _)).trans ((i0 _ _).trans (exp_beh tk _ _))
   rw [if_neg h4];by_cases h5 : binO tk s mmL = true
   ·rw [if_pos h5]; exact ((bin_beh h5).1.trans (exp_beh tk _ _)).trans ((i0 _ _).trans ((exp_beh tk _ _).trans ((i0 _ _).trans (exp_beh tk _ _))))
   rw [if_neg h5];by_cases h6 : pkK tk s = 2
   ·rw [if_pos h6]; obtain ⟨t, ht, -⟩ := pk_two h6; exact (adv_beh ht).1
   rw [if_neg h6]; exact nam_beh tk s
end
end Go.Proofs.YthmlhheceihcbaaGreatDoor.Tree
namespace Go.Proofs.YthmlhheceihcbaaGreatDoor
set_option maxHeartbeats 16000000
open Go.RowKit Cal Str Tok Frac Txt Tree Tryz
attribute [local go_sem] calmUpon
set_option linter.unusedVariables false
set_option linter.unusedSimpArgs false
def Toks (w : World) (b G : Nat) (tk : List Tk) : Prop := tk = [] \/ (G < w.heap.size /\ G ≠ b /\ ∀ i t, tk[i]? = some t -> w.cell? ⟨G, i * 3, none⟩ = some (.int .i64 t.K) /\ w.cell? ⟨G, i * 3 + 1, none⟩ = some (.string t.T) /\ w.cell? ⟨G, i * 3 + 2, none⟩ = some (.int .i64 t.A))
theorem Toks.ro {w w' : World} {b G : Nat} {tk : List Tk} (h : Toks w b G tk) (r : Ro b w w') : Toks w' b G tk := by
 rcases h with h | ⟨hg, hb, hc⟩
 ·exact .inl h
 ·exact .inr ⟨Nat.lt_of_lt_of_le hg r.size, hb, fun i t ht => ⟨r.cell hg hb (hc i t ht).1, r.cell hg hb (hc i t ht).2.1, r.cell hg hb (hc i t ht).2.2⟩⟩
structure TksOk (tk : List Tk) : Prop where
 len : tk.length <= 8000
 each : ∀ t ∈ tk, t.T.size <= 140737488355328 /\ -9223372036854775808 <= t.A /\ t.A <= 9223372036854775807 /\ (t.K = 1 \/ t.K = 2 \/ t.K = 3 \/ t.K = 4) /\ (t.K = 2 -> decB t.T = true)
structure Prs (w : World) (b G : Nat) (tk : List Tk) (E : Int) (s : Pt) : Prop where
 lt : b < w.heap.size
 le : s.i <= tk.length
 tok : ∃ ad cap, w.cell? ⟨b, 0, none⟩ = some (.slice ad (tk.length - s.i) cap) /\ tk.length - s.i <= cap /\ (s.i < tk.length -> ad = some ⟨G, s.i * 3, none⟩)
 toks : Toks w b G tk
 c1 : w.cell? ⟨b, 1, none⟩ = some (.int .i64 E)
 c2 : w.cell? ⟨b, 2, none⟩ = some (.bool (!s.ok))
 c3 : w.cell? ⟨b, 3, none⟩ = some (.int .i64 (if s.ok = true then 0 else posI tk E s.i))
 f0 : w.frozen? ⟨b, 0, none⟩ = false
 f2 : w.frozen? ⟨b, 2, none⟩ = false
 f3 : w.frozen? ⟨b, 3, none⟩ = false
theorem Prs.rel {w w' : World} {b G : Nat} {tk : List Tk} {E : Int} {s : Pt} (h : Prs w b G tk E s) (r : Rel w w') : Prs w' b G tk E s := by
 obtain ⟨ad, cap, h1, h2, h3⟩ := h.tok;exact ⟨Nat.lt_of_lt_of_le h.lt r.size, h.le, ⟨ad, cap, r.cell h1, h2, h3⟩, h.toks.ro (Ro.of r), r.cell h.c1, r.cell h.c2, r.cell h.c3, ((rcell r).2 b 0 h.lt).trans h.f0, ((rcell r).2 b 2 h.lt).trans h.f2, ((rcell r).2 b 3 h.lt).trans h.f3⟩
theorem Prs.other {w : World} {b G : Nat} {tk : List Tk} {E : Int} {s : Pt} (h : Prs w b G tk E s) {g i : Nat} {v : Value} (hne : g ≠ b) (ht : Toks (w.setCell ⟨g, i, none⟩ v) b G tk) : Prs (w.setCell ⟨g, i, none⟩ v) b G tk E s := by
 obtain ⟨ad, cap, h1, h2, h3⟩ := h.tok;have oc : ∀ j, (w.setCell ⟨g, i, none⟩ v).cell? ⟨b, j, none⟩ = w.cell? ⟨b, j, none⟩ := fun j => World.cell?_setCell_other _ _ _ _ (fun e => hne (by injection e))
 exact ⟨by simpa [World.setCell] using h.lt, h.le, ⟨ad, cap, (oc 0).trans h1, h2, h3⟩, ht, (oc 1).trans h.c1, (oc 2).trans h.c2, (oc 3).trans h.c3, by rw [World.frozen?_setCell]; exact h.f0, by rw [World.frozen?_setCell]; exact h.f2, by rw [World.frozen?_setCell]; exact h.f3⟩
def PkRes (tk : List Tk) (E : Int) (s : Pt) (w : World) (e : Ending) (w' : World) : Prop := e = .returned (.agg #[.int .i64 (pkK tk s), .string (pkT tk s), .int .i64 (pkA tk E s)]) /\ Rel w w'
theorem pk_at {tk : List Tk} {E : Int} {s : Pt} (ho : s.ok = true) {t : Tk} (h : tk[s.i]? = some t) : pkK tk s = t.K /\ pkT tk s = t.T /\ pkA tk E s = t.A := by
 unfold pkK pkT pkA tkAt;rw [if_pos ho, h]; exact ⟨rfl, rfl, rfl⟩
theorem pk_end {tk : List Tk} {E : Int} {s : Pt} (h : s.ok = false \/ tk.length <= s.i) : pkK tk s = 0 /\ pkT tk s = ⟨#[]⟩ /\ pkA tk E s = E := by
 have hn : tkAt tk s = none := by
  unfold tkAt
  rcases h with h | h
  ·rw [if_neg (by simp [h])]
  ·split
   ·exact List.getElem?_eq_none h
   ·rfl
 unfold pkK pkT pkA;rw [hn]; exact ⟨rfl, rfl, rfl⟩
theorem peek_any (b G : Nat) (tk : List Tk) (E : Int) (s : Pt) (w : World) (h : Prs w b G tk E s) : Calls prog 68 #[.pointer (some ⟨b, 0, none⟩)] w (PkRes tk E s w) := by
 obtain ⟨ad, cap, t0, hcap, hT⟩ := h.tok;have HTK := h.toks;have hlt := h.lt;have t1 := h.c1;have t2 := h.c2;have hle := h.le;clear h;unfold PkRes;obtain ⟨n, hn⟩ : ∃ n, tk.length - s.i = n := ⟨_, rfl⟩;rw [hn] at t0 hcap;by_cases hz : n = 0
 ·obtain ⟨e1, e2, e3⟩ := pk_end (tk := tk) (E := E) (s := s) (.inr (by omega));rw [e1, e2, e3];subst hz;clear hT hn e1 e2 e3;go_enter func68, ntmps68;refine gw ?_;refine bodyPost_ret (v := .agg #[.int .i64 0, .string ⟨#[]⟩, .int .i64 E]) ?_ rfl ⟨rfl, ?_⟩
  ·simp [results, results68, go_sem]
  ·exact rx0
 ·have e0 : ((n : Int) == 0) = false := by rw [zn]; omega
  obtain ⟨k, hk⟩ : ∃ k, s.ok = k := ⟨_, rfl⟩;rw [hk] at t2;cases k
  ·obtain ⟨e1, e2, e3⟩ := pk_end (tk := tk) (E := E) (s := s) (.inl hk);rw [e1, e2, e3];clear hT hn e1 e2 e3 hk;go_enter func68, ntmps68;refine gw ?_;refine bodyPost_ret (v := .agg #[.int .i64 0, .string ⟨#[]⟩, .int .i64 E]) ?_ rfl ⟨rfl, ?_⟩
   ·simp [results, results68, go_sem]
   ·exact rx0
  ·obtain rfl := hT (by omega);obtain ⟨t, ht⟩ : ∃ t, tk[s.i]? = some t := ⟨_, List.getElem?_eq_getElem (by omega)⟩;obtain ⟨e1, e2, e3⟩ := pk_at (E := E) hk ht;rw [e1, e2, e3]
   obtain ⟨q0, q1, q2⟩ : w.cell? ⟨G, s.i * 3, none⟩ = some (.int .i64 t.K) /\ w.cell? ⟨G, s.i * 3 + 1, none⟩ = some (.string t.T) /\ w.cell? ⟨G, s.i * 3 + 2, none⟩ = some (.int .i64 t.A) := by
    rcases HTK with h | ⟨-, -, h⟩
    ·subst h; simp at ht
    ·exact h _ t ht
   have hG : G < w.heap.size := World.block_lt_of_cell? _ _ q0;have hG' : ¬ G = w.heap.size := by omega
   have n1 : 0 < n := by omega
   have n2 : (0 : Int) < (n : Int) := by omega
   clear hT hn e1 e2 e3 hk ht;go_enter func68, ntmps68;refine gw ?_;refine bodyPost_ret (v := .agg #[.int .i64 t.K, .string t.T, .int .i64 t.A]) ?_ rfl ⟨rfl, ?_⟩
   ·simp [results, results68, go_sem]
   ·exact rx0
theorem tl_eq {a b : ByteArray} : (a.toList == b.toList) = (a.data.toList == b.data.toList) := by
 rw [Lib.toList_data, Lib.toList_data]
theorem accB_pk (tk : List Tk) (x : List UInt8) (s : Pt) : accB tk x s = ((pkK tk s == 1 || pkK tk s == 4) && ((pkT tk s).data.toList == x)) := by
 unfold accB pkK pkT
 cases tkAt tk s with
 | none => rfl
 | some t => rfl
theorem namO_pk (tk : List Tk) (s : Pt) : namO tk s = (pkK tk s == 1 && namB (pkT tk s)) := by
 unfold namO pkK pkT
 cases tkAt tk s with
 | none => rfl
 | some t => rfl
theorem numO_pk (tk : List Tk) (lo hi : Int) (s : Pt) : numO tk lo hi s = (pkK tk s == 2 && (whoB (pkT tk s) && (decide (lo <= decN (pkT tk s)) && decide (decN (pkT tk s) <= hi)))) := by
 unfold numO pkK pkT
 cases tkAt tk s with
 | none => rfl
 | some t => rfl
theorem pkT_size {tk : List Tk} (h : TksOk tk) (s : Pt) : (pkT tk s).size <= 140737488355328 := by
 unfold pkT tkAt;split
 ·rename_i t ht
  split at ht
  ·exact (h.each t (List.mem_of_getElem? ht)).1
  ·cases ht
 ·decide
theorem pkK_some {tk : List Tk} {s : Pt} (h : ¬ pkK tk s = 0) : s.ok = true /\ s.i < tk.length := by
 unfold pkK at h
 split at h
 ·rename_i t ht;exact ⟨(tkAt_some ht).1, (tkAt_some ht).2.1⟩
 ·exact absurd rfl h
theorem posI_pk {tk : List Tk} {E : Int} {s : Pt} (h : s.ok = true) : pkA tk E s = posI tk E s.i := by
 unfold pkA posI tkAt;rw [if_pos h]
theorem Prs.next {w : World} {b G : Nat} {tk : List Tk} {E : Int} {s : Pt} (h : Prs w b G tk E s) (ho : s.ok = true) (hi : s.i < tk.length) {ad ad2 : Option Addr} {cap c2 : Nat} (hc : tk.length - s.i <= cap) (ht : s.i < tk.length -> ad = some ⟨G, s.i * 3, none⟩) (ha : ad2 = if cap = 1 then ad else Option.map (fun x => x.add 3) ad) (hc2 : c2 = cap - 1) (h0 : w.cell? ⟨b, 0, none⟩ = some (.slice ad (tk.length - s.i) cap)) :
  Prs (w.setCell ⟨b, 0, none⟩ (.slice ad2 (tk.length - s.i - 1) c2)) b G tk E s.adv := by
 have oc : ∀ j, ¬ j = 0 -> (w.setCell ⟨b, 0, none⟩ (.slice ad2 (tk.length - s.i - 1) c2)).cell? ⟨b, j, none⟩ = w.cell? ⟨b, j, none⟩ := fun j hj => World.cell?_setCell_other _ _ _ _ (by intro e; injection e; omega)
 have hp := h.c3;rw [if_pos ho] at hp;refine ⟨by simpa [World.setCell] using h.lt, hi, ⟨ad2, c2, ?_, ?_, ?_⟩, h.toks.ro ((Ro.refl b w).set 0 _), (oc 1 (by decide)).trans h.c1, (oc 2 (by decide)).trans h.c2, ?_, by rw [World.frozen?_setCell]; exact h.f0, by rw [World.frozen?_setCell]; exact h.f2, by rw [World.frozen?_setCell]; exact h.f3⟩
 ·rw [World.cell?_setCell_same _ _ _ h0];show some (Value.slice ad2 (tk.length - s.i - 1) c2) = some (Value.slice ad2 (tk.length - (s.i + 1)) c2)
  rw [Nat.sub_sub]
 ·show tk.length - (s.i + 1) <= c2
  omega
 ·intro hn;have hn' : s.i + 1 < tk.length := hn;rw [if_neg (by omega), ht hi] at ha;rw [ha];show _ = some (⟨G, (s.i + 1) * 3, none⟩ : Addr)
  rw [Nat.add_mul];simp [Addr.add]
 ·rw [oc 3 (by decide)];show _ = some (Value.int IntKind.i64 (if s.ok = true then 0 else _))
  rw [if_pos ho]; exact hp
theorem Prs.fail {w : World} {b G : Nat} {tk : List Tk} {E : Int} {s : Pt} (h : Prs w b G tk E s) (ho : s.ok = true) : Prs ((w.setCell ⟨b, 3, none⟩ (.int .i64 (posI tk E s.i))).setCell ⟨b, 2, none⟩ (.bool true)) b G tk E s.no := by
 obtain ⟨ad, cap, h1, h2, h3⟩ := h.tok;have oc : ∀ j, ¬ j = 2 -> ¬ j = 3 -> ((w.setCell ⟨b, 3, none⟩ (.int .i64 (posI tk E s.i))).setCell ⟨b, 2, none⟩ (.bool true)).cell? ⟨b, j, none⟩ = w.cell? ⟨b, j, none⟩ := fun j h2 h3 => (World.cell?_setCell_other _ _ _ _ (by intro e; injection e; omega)).trans (World.cell?_setCell_other _ _ _ _ (by intro e; injection e; omega))
 refine ⟨by simpa [World.setCell] using h.lt, h.le, ⟨ad, cap, (oc 0 (by decide) (by decide)).trans h1, h2, h3⟩, h.toks.ro (((Ro.refl b w).set 3 _).set 2 _), (oc 1 (by decide) (by decide)).trans h.c1, ?_, ?_, by rw [World.frozen?_setCell, World.frozen?_setCell]; exact h.f0, by rw [World.frozen?_setCell, World.frozen?_setCell]; exact h.f2, by rw [World.frozen?_setCell, World.frozen?_setCell]; exact h.f3⟩
 ·exact World.cell?_setCell_same _ _ _ ((World.cell?_setCell_other _ _ _ _ (by simp)).trans h.c2)
 ·rw [World.cell?_setCell_other _ _ _ _ (by simp)];exact World.cell?_setCell_same _ _ _ h.c3
def UnRes (b G : Nat) (tk : List Tk) (E : Int) (s : Pt) (w : World) (e : Ending) (w' : World) : Prop := (∃ v, e = .returned v) /\ Prs w' b G tk E s /\ Ro b w w'
theorem no_no {s : Pt} (h : s.ok = false) : s.no = s := by
 cases s; cases h; rfl
theorem fail_any (b G : Nat) (tk : List Tk) (E : Int) (s : Pt) (w : World) (h : Prs w b G tk E s) : Calls prog 67 #[.pointer (some ⟨b, 0, none⟩)] w (UnRes b G tk E s.no w) := by
 have HP := Hj h;have hlt := h.lt;have t2 := h.c2;clear h;unfold UnRes;obtain ⟨k, hk⟩ : ∃ k, s.ok = k := ⟨_, rfl⟩;rw [hk] at t2;cases k
 ·rw [no_no hk];go_enter func67, ntmps67;refine gw ?_;refine Go.Great.bodyPost_end0 rfl rfl ⟨⟨_, rfl⟩, HP.out, Ro.refl _ _⟩
 ·have PK := Hj (peek_any b G tk E s w HP.out);unfold PkRes at PK;rw [posI_pk hk] at PK;have HK := Hj hk;clear hk;go_enter func67, ntmps67;go_wp2_with fail;refine PK.out.mono ?_;rintro e w1 ⟨rfl, h1⟩;have P1 := Hj (HP.out.rel h1);have R1 := Hj (Ro.of (b := b) h1);have u2 := P1.out.c2;have u3 := P1.out.c3;have v2 := P1.out.f2;have v3 := P1.out.f3;have ul := P1.out.lt;have F := Hj (P1.out.fail HK.out);have ix : ∀ w, (Instr.field 129 (.agg #[.int .i64 (pkK tk s), .string (pkT tk s), .int .i64 (posI tk E s.i)]) 2).run prog w = .ok (.int .i64 (posI tk E s.i)) w := fun _ => by kernel_rfl
  clear h1 t2;refine gw ?_;refine Go.Great.bodyPost_end0 rfl rfl ⟨⟨_, rfl⟩, F.out, (R1.out.set 3 _).set 2 _⟩
theorem next_tok (b G : Nat) (tk : List Tk) (E : Int) (s : Pt) (w : World) (h : Prs w b G tk E s) (ho : s.ok = true) (hi : s.i < tk.length) : Calls prog 70 #[.pointer (some ⟨b, 0, none⟩)] w (UnRes b G tk E s.adv w) := by
 obtain ⟨ad, cap, t0, hcap, hT⟩ := h.tok;have hlt := h.lt;have f0 := h.f0;unfold UnRes;have F := Hj (h.next ho hi hcap hT rfl rfl t0);have n1 : 1 <= tk.length - s.i := by omega
 obtain ⟨n, hn⟩ : ∃ n, tk.length - s.i = n := ⟨_, rfl⟩;rw [hn] at t0 hcap n1 F;have c1 : 1 <= cap := by omega
 have n1i : (1 : Int) <= (n : Int) := by omega
 have c1i : (1 : Int) <= (cap : Int) := by omega
 have nci : (n : Int) <= (cap : Int) := by omega
 clear h hT hn;go_enter func70, ntmps70;refine gw ?_;refine Go.Great.bodyPost_end0 rfl rfl ⟨⟨_, rfl⟩, F.out, (Ro.refl b w).set 0 _⟩
theorem is_any (b G : Nat) (tk : List Tk) (E : Int) (s : Pt) (X : ByteArray) (w : World) (h : Prs w b G tk E s) : Calls prog 75 #[.pointer (some ⟨b, 0, none⟩), .string X] w (BRes (accB tk X.data.toList s) w) := by
 have PK := Hj (peek_any b G tk E s w h);rw [accB_pk];unfold PkRes at PK;unfold BRes;obtain ⟨K, hK⟩ : ∃ K, pkK tk s = K := ⟨_, rfl⟩;obtain ⟨T, hT⟩ : ∃ T, pkT tk s = T := ⟨_, rfl⟩;obtain ⟨A, hA⟩ : ∃ A, pkA tk E s = A := ⟨_, rfl⟩;rw [hK, hT, hA] at PK;rw [hK, hT];rw [<- tl_eq];clear hK hT hA h;by_cases h1 : K = 1
 ·subst h1;go_enter func75, ntmps75;go_wp2_with fail;refine PK.out.mono ?_;rintro e w1 ⟨rfl, h1⟩;have kz1 := h1.size;(try simp only [zsa, zsc, zsd] at kz1);have H1 := Hj h1;clear h1;go_wp2;go_ret;exact ⟨ret_b2 (by simp), rx10⟩
 ·have e1 : (K == 1) = false := by rw [zn]; exact h1
  by_cases h4 : K = 4
  ·subst h4;go_enter func75, ntmps75;go_wp2_with fail;refine PK.out.mono ?_;rintro e w1 ⟨rfl, h1⟩;have kz1 := h1.size;(try simp only [zsa, zsc, zsd] at kz1);have H1 := Hj h1;clear h1;go_wp2;go_ret;exact ⟨ret_b2 (by simp), rx10⟩
  ·have e4 : (K == 4) = false := by rw [zn]; exact h4
   go_enter func75, ntmps75;go_wp2_with fail;refine PK.out.mono ?_;rintro e w1 ⟨rfl, h1⟩;have kz1 := h1.size;(try simp only [zsa, zsc, zsd] at kz1);have H1 := Hj h1;clear h1;go_wp2;go_ret;exact ⟨ret_b2 (by simp [e1, e4]), rx10⟩
def AccRes (b G : Nat) (tk : List Tk) (E : Int) (x : List UInt8) (s : Pt) (w : World) (e : Ending) (w' : World) : Prop := e = .returned (.bool (accB tk x s)) /\ Prs w' b G tk E (accP tk x s) /\ Ro b w w'
theorem accept_any (b G : Nat) (tk : List Tk) (E : Int) (s : Pt) (X : ByteArray) (w : World) (h : Prs w b G tk E s) : Calls prog 27 #[.pointer (some ⟨b, 0, none⟩), .string X] w (AccRes b G tk E X.data.toList s w) := by
 have I := Hj (is_any b G tk E s X w h);have HP := Hj h;unfold BRes at I;unfold AccRes accP;obtain ⟨k, hk⟩ : ∃ k, accB tk X.data.toList s = k := ⟨_, rfl⟩;rw [hk] at I |-;clear h;cases k
 ·rw [if_neg (by simp)];clear hk;go_enter func27, ntmps27;go_wp2_with fail;refine I.out.mono ?_;rintro e w1 ⟨rfl, h1⟩;have P1 := Hj (HP.out.rel h1);have R1 := Hj (Ro.of (b := b) h1);clear h1;go_wp2;go_ret;exact ⟨rfl, P1.out, R1.out⟩
 ·rw [if_pos rfl];obtain ⟨t, ht, -⟩ := accB_some hk;obtain ⟨ho, hi, -⟩ := tkAt_some ht;clear hk ht;go_enter func27, ntmps27;go_wp2_with fail;refine I.out.mono ?_;rintro e w1 ⟨rfl, h1⟩;have P1 := Hj (HP.out.rel h1);have R1 := Hj (Ro.of (b := b) h1);clear h1;go_wp2_with fail;refine (next_tok b G tk E s _ P1.out ho hi).mono ?_;unfold UnRes;rintro e w2 ⟨⟨v, rfl⟩, hP, h2⟩;have P2 := Hj hP;have R2 := Hj (R1.out.trans h2);clear hP h2;go_wp2;go_ret;exact ⟨rfl, P2.out, R2.out⟩
theorem expect_any (b G : Nat) (tk : List Tk) (E : Int) (s : Pt) (X : ByteArray) (w : World) (h : Prs w b G tk E s) : Calls prog 23 #[.pointer (some ⟨b, 0, none⟩), .string X] w (UnRes b G tk E (expP tk X.data.toList s) w) := by
 have I := Hj (accept_any b G tk E s X w h);unfold AccRes accP at I;unfold UnRes expP;obtain ⟨k, hk⟩ : ∃ k, accB tk X.data.toList s = k := ⟨_, rfl⟩;rw [hk] at I |-;clear h hk;cases k
 ·rw [if_neg (by simp)] at I |-;go_enter func23, ntmps23;go_wp2_with fail;refine I.out.mono ?_;rintro e w1 ⟨rfl, hP, h1⟩;have P1 := Hj hP;have R1 := Hj h1;clear hP h1;go_wp2_with fail;refine (fail_any b G tk E s _ P1.out).mono ?_;unfold UnRes;rintro e w2 ⟨⟨v, rfl⟩, hP, h2⟩;have P2 := Hj hP;have R2 := Hj (R1.out.trans h2);clear hP h2;refine gw ?_;refine Go.Great.bodyPost_end0 rfl rfl ⟨⟨_, rfl⟩, P2.out, R2.out⟩
 ·rw [if_pos rfl] at I |-;go_enter func23, ntmps23;go_wp2_with fail;refine I.out.mono ?_;rintro e w1 ⟨rfl, hP, h1⟩;have P1 := Hj hP;have R1 := Hj h1;clear hP h1;refine gw ?_;refine Go.Great.bodyPost_end0 rfl rfl ⟨⟨_, rfl⟩, P1.out, R1.out⟩
def NamRes (b G : Nat) (tk : List Tk) (E : Int) (s : Pt) (w : World) (e : Ending) (w' : World) : Prop := e = .returned (.string (namT tk s)) /\ Prs w' b G tk E (namP tk s) /\ Ro b w w'
theorem pname_any (b G : Nat) (tk : List Tk) (E : Int) (s : Pt) (w : World) (h : Prs w b G tk E s) (hT : TksOk tk) : Calls prog 24 #[.pointer (some ⟨b, 0, none⟩)] w (NamRes b G tk E s w) := by
 have PK := Hj (peek_any b G tk E s w h);have HP := Hj h;have hz := pkT_size hT s;unfold PkRes at PK;unfold NamRes namT namP;have hO := namO_pk tk s;obtain ⟨K, hK⟩ : ∃ K, pkK tk s = K := ⟨_, rfl⟩;obtain ⟨T, hT'⟩ : ∃ T, pkT tk s = T := ⟨_, rfl⟩;obtain ⟨A, hA⟩ : ∃ A, pkA tk E s = A := ⟨_, rfl⟩;rw [hK, hT', hA] at PK;rw [hT'] at hz |-;rw [hK, hT'] at hO;have I := Hj fun w => isName_any T w hz
 obtain ⟨nb, hnb⟩ : ∃ nb, namB T = nb := ⟨_, rfl⟩;rw [hnb] at I hO;clear h hT' hA hnb;by_cases h1 : K = 1
 ·subst h1;cases nb
  ·rw [hO, if_neg (by simp), if_neg (by simp)];clear hO hK;go_enter func24, ntmps24;go_wp2_with fail;refine PK.out.mono ?_;rintro e w1 ⟨rfl, h1⟩;have P1 := Hj (HP.out.rel (h1.alloc (.cells #[.int .i64 1, .string T, .int .i64 A] 129)));have R1 := Hj (Ro.of (b := b) (h1.alloc (.cells #[.int .i64 1, .string T, .int .i64 A] 129)));clear h1;go_wp2_with fail;refine (I.out _).mono ?_;rintro e w2 ⟨rfl, rfl⟩;go_wp2_with fail;refine (fail_any b G tk E s _ P1.out).mono ?_;unfold UnRes;rintro e w2 ⟨⟨v, rfl⟩, hP, h2⟩;have P2 := Hj hP;have R2 := Hj (R1.out.trans h2);clear hP h2;go_wp2;go_ret;exact ⟨rfl, P2.out, R2.out⟩
  ·rw [hO, if_pos (by simp), if_pos (by simp)];obtain ⟨ho, hi⟩ := pkK_some (tk := tk) (s := s) (by omega);clear hO hK;go_enter func24, ntmps24;go_wp2_with fail;refine PK.out.mono ?_;rintro e w1 ⟨rfl, h1⟩;have P1 := Hj (HP.out.rel (h1.alloc (.cells #[.int .i64 1, .string T, .int .i64 A] 129)));have R1 := Hj (Ro.of (b := b) (h1.alloc (.cells #[.int .i64 1, .string T, .int .i64 A] 129)));have kb : w1.heap.size ≠ b := by have := HP.out.lt; have := h1.size; omega
   clear h1;go_wp2_with fail;refine (I.out _).mono ?_;rintro e w2 ⟨rfl, rfl⟩;go_wp2_with fail;refine (next_tok b G tk E s _ P1.out ho hi).mono ?_;unfold UnRes;rintro e w2 ⟨⟨v, rfl⟩, hP, h2⟩;have P2 := Hj hP;have R2 := Hj (R1.out.trans h2);have k1 : w2.cell? ⟨w1.heap.size, 1, none⟩ = some (.string T) := h2.cell (by simp) kb (by simp);clear hP h2;go_wp2;go_ret;exact ⟨rfl, P2.out, R2.out⟩
 ·have e1 : (K == 1) = false := by rw [zn]; exact h1
  rw [hO, e1, if_neg (by simp), if_neg (by simp)];clear hO hK;go_enter func24, ntmps24;go_wp2_with fail;refine PK.out.mono ?_;rintro e w1 ⟨rfl, h1⟩;have P1 := Hj (HP.out.rel (h1.alloc (.cells #[.int .i64 K, .string T, .int .i64 A] 129)));have R1 := Hj (Ro.of (b := b) (h1.alloc (.cells #[.int .i64 K, .string T, .int .i64 A] 129)));clear h1;go_wp2_with fail;refine (fail_any b G tk E s _ P1.out).mono ?_;unfold UnRes;rintro e w2 ⟨⟨v, rfl⟩, hP, h2⟩;have P2 := Hj hP;have R2 := Hj (R1.out.trans h2);clear hP h2;go_wp2;go_ret;exact ⟨rfl, P2.out, R2.out⟩
noncomputable def whoN (s : ByteArray) : Int := flN (decN s) (decD s)
theorem who_val {s : ByteArray} (h : whoB s = true) : whoN s = decN s := by
 unfold whoB at h;simp only [Bool.and_eq_true, beq_iff_eq] at h;obtain ⟨h1, -, h3⟩ := h;have hf := dec_only h1 rfl rfl rfl;have hv := (fdC_iff.1 (fdB_iff.1 hf).1).1;unfold whoN flN;rw [if_pos hv, h3]; simp
theorem dec_bd (s : ByteArray) : (-9223372036854775808 <= decN s /\ decN s <= 9223372036854775807) /\ (-9223372036854775808 <= decD s /\ decD s <= 9223372036854775807) := by
 cases hB : decB s
 ·obtain ⟨e1, e2, -⟩ := dec_no hB;rw [e1, e2]; omega
 ·have hv := (fdC_iff.1 (fdB_iff.1 (dec_only hB rfl rfl rfl)).1).1;have := (validB_iff _ _).1 hv;omega
def WhoRes (s : ByteArray) (w : World) (e : Ending) (w' : World) : Prop := e = .returned (.tuple #[.int .i64 (whoN s), .bool (whoB s)]) /\ Rel w w'
theorem pwhole_any (s : ByteArray) (w : World) (hs : s.size <= 140737488355328) : Calls prog 71 #[.string s] w (WhoRes s w) := by
 have D := Hj fun w => Decimal_any s w (by unfold maxLen; omega)
 obtain ⟨⟨n0, n1⟩, d0, d1⟩ := dec_bd s;have FL := Hj fun w => floor_any (decN s) (decD s) w n0 n1 d0 d1
 have hB : whoB s = (decB s && (decX s == 2 && decD s == 1)) := rfl;unfold DecRes at D;unfold ZRes at FL;unfold WhoRes;have hN : whoN s = flN (decN s) (decD s) := rfl;rw [hB, hN]
 have hE : decB s = true -> flE (decN s) (decD s) = 0 := fun hb => by
  unfold flE; rw [if_pos (fdC_iff.1 (fdB_iff.1 (dec_only hb rfl rfl rfl)).1).1]
 obtain ⟨N, hN'⟩ : ∃ N, decN s = N := ⟨_, rfl⟩;obtain ⟨DD, hD'⟩ : ∃ DD, decD s = DD := ⟨_, rfl⟩;obtain ⟨X, hX'⟩ : ∃ X, decX s = X := ⟨_, rfl⟩;obtain ⟨B, hB'⟩ : ∃ B, decB s = B := ⟨_, rfl⟩;obtain ⟨F, hF'⟩ : ∃ F, flN (decN s) (decD s) = F := ⟨_, rfl⟩;obtain ⟨FE, hFE'⟩ : ∃ FE, flE (decN s) (decD s) = FE := ⟨_, rfl⟩;rw [hF', hFE'] at FL;rw [hFE', hB'] at hE;rw [hF', hB', hX', hD'];rw [hN', hD', hX', hB'] at D;rw [hN', hD'] at FL;clear hB hN hN' hD' hX' hB' hF' hFE' n0 n1 d0 d1;go_enter func71, ntmps71;go_wp2_with fail;refine (D.out _).mono ?_;rintro e w1 ⟨rfl, h1⟩;have kz1 := h1.size;(try simp only [zsa, zsc, zsd] at kz1);have H1 := Hj h1;clear h1;go_wp2_with fail;refine (FL.out _).mono ?_;rintro e w2 ⟨rfl, h2⟩;have c1 : w2.cell? ⟨w1.heap.size, 1, none⟩ = some (.int .i64 DD) := h2.cell (by simp);have kz2 := h2.size;(try simp only [zsa, zsc, zsd] at kz2);have H2 := Hj h2;clear h2;cases B
 ·go_wp2_with fail;refine wp_region_calm (fun _ _ => True) (fun _ => false) [0, 1, 2, 3, 4, 5, 6, 7, 8, 9, 10, 11, 12, 13, 14, 15, 16] 0 (by kernel_rfl) (by kernel_rfl) (fun _ _ _ _ _ => trivial) trivial (fun w0 h0 => ?_)
  iterate 3
   refine wcg ?_;apply ei
   ·intro M w hM hS;unfold calmAt;go_simp;exact ⟨rfl, Rel.refl _⟩
  iterate 2 (refine wcn ?_)
  iterate 2
   refine wcg ?_;apply ei
   ·intro M w hM hS;unfold calmAt;go_simp;exact ⟨rfl, Rel.refl _⟩
  iterate 2 (refine wcn ?_)
  iterate 2
   refine wcg ?_;apply ei
   ·intro M w hM hS;unfold calmAt;go_simp;exact ⟨rfl, Rel.refl _⟩
  iterate 3 (refine wcn ?_)
  iterate 3
   refine wcg ?_;apply ei
   ·intro M w hM hS;unfold calmAt;go_simp;exact ⟨rfl, Rel.refl _⟩
  refine wpAnyR_end (by kernel_rfl) (fun w3 h3' => ?_);(try simp only [Act.put, zla, zlb, zlc]);have h3 := h0.trans h3';clear h0 h3';have kz3 := h3.size;(try simp only [zsa, zsc, zsd] at kz3);have H3 := Hj h3;clear h3;go_wp2;refine bodyPost_ret (v := .tuple #[.int .i64 F, .bool false]) ?_ rfl ⟨rfl, rx3210⟩;simp [results, results71, go_sem]
 ·have he := hE rfl;subst he;by_cases hx : X = 2
  ·subst hx;go_wp2_with fail;refine wp_region_calm (fun _ w' => w'.cell? ⟨w1.heap.size, 1, none⟩ = some (.int .i64 DD)) (fun _ => false) [0, 1, 2, 3, 4, 5, 6, 7, 8, 9, 10, 11, 12, 13, 14, 15, 16] 0 (by kernel_rfl) (by kernel_rfl) ?hst ?hS0 (fun w0 h0 => ?_)
   case hst => exact fun _ _ _ h r => r.cell h
   case hS0 => exact c1
   iterate 17
    refine wcg ?_;apply ei
    ·intro M w hM hS;have d1 := hS;unfold calmAt;go_simp;exact ⟨rfl, Rel.refl _⟩
   refine wpAnyR_end (by kernel_rfl) (fun w3 h3' => ?_);(try simp only [Act.put, zla, zlb, zlc]);have h3 := h0.trans h3';clear h0 h3';have kz3 := h3.size;(try simp only [zsa, zsc, zsd] at kz3);have H3 := Hj h3;clear h3;go_wp2;refine bodyPost_ret (v := .tuple #[.int .i64 F, .bool (DD == 1)]) ?_ rfl ⟨by simp, rx3210⟩;simp [results, results71, go_sem]
  ·have ex : (X == 2) = false := by rw [zn]; exact hx
   go_wp2_with fail;refine wp_region_calm (fun _ _ => True) (fun _ => false) [0, 1, 2, 3, 4, 5, 6, 7, 8, 9, 10, 11, 12, 13, 14, 15, 16] 0 (by kernel_rfl) (by kernel_rfl) (fun _ _ _ _ _ => trivial) trivial (fun w0 h0 => ?_)
   iterate 11
    refine wcg ?_;apply ei
    ·intro M w hM hS;unfold calmAt;go_simp;exact ⟨rfl, Rel.refl _⟩
   iterate 3 (refine wcn ?_)
   iterate 3
    refine wcg ?_;apply ei
    ·intro M w hM hS;unfold calmAt;go_simp;exact ⟨rfl, Rel.refl _⟩
   refine wpAnyR_end (by kernel_rfl) (fun w3 h3' => ?_);(try simp only [Act.put, zla, zlb, zlc]);have h3 := h0.trans h3';clear h0 h3';have kz3 := h3.size;(try simp only [zsa, zsc, zsd] at kz3);have H3 := Hj h3;clear h3;go_wp2;refine bodyPost_ret (v := .tuple #[.int .i64 F, .bool false]) ?_ rfl ⟨by simp [ex], rx3210⟩;simp [results, results71, go_sem]
def NumRes' (b G : Nat) (tk : List Tk) (E lo hi : Int) (s : Pt) (w : World) (e : Ending) (w' : World) : Prop := e = .returned (.int .i64 (numT tk lo hi s)) /\ Prs w' b G tk E (numP tk lo hi s) /\ Ro b w w'
theorem pnumber_any (b G : Nat) (tk : List Tk) (E lo hi : Int) (s : Pt) (w : World) (h : Prs w b G tk E s) (hT : TksOk tk) : Calls prog 25 #[.pointer (some ⟨b, 0, none⟩), .int .i64 lo, .int .i64 hi] w (NumRes' b G tk E lo hi s w) := by
 have PK := Hj (peek_any b G tk E s w h);have HP := Hj h;have hz := pkT_size hT s;unfold PkRes at PK;unfold NumRes' numT numP;have hO := numO_pk tk lo hi s;obtain ⟨K, hK⟩ : ∃ K, pkK tk s = K := ⟨_, rfl⟩;obtain ⟨T, hT'⟩ : ∃ T, pkT tk s = T := ⟨_, rfl⟩;obtain ⟨A, hA⟩ : ∃ A, pkA tk E s = A := ⟨_, rfl⟩;rw [hK, hT', hA] at PK;rw [hT'] at hz |-;rw [hK, hT'] at hO;have I := Hj fun w => pwhole_any T w hz
 have hv : whoB T = true -> whoN T = decN T := who_val;unfold WhoRes at I;obtain ⟨wb, hwb⟩ : ∃ wb, whoB T = wb := ⟨_, rfl⟩;obtain ⟨wn, hwn⟩ : ∃ wn, whoN T = wn := ⟨_, rfl⟩;obtain ⟨dn, hdn⟩ : ∃ dn, decN T = dn := ⟨_, rfl⟩;rw [hwb, hwn] at I;rw [hwb, hwn, hdn] at hv;rw [hwb, hdn] at hO;rw [hdn];have kb : Hid (∀ w1 : World, Rel w w1 -> w1.heap.size ≠ b) := fun w1 r => by have := HP.out.lt; have := r.size; omega
 clear h hT' hA hwb hwn hdn;have hK2 : K = 2 -> s.ok = true /\ s.i < tk.length := fun h2 => pkK_some (tk := tk) (s := s) (by omega)
 clear hK;by_cases hgood : K = 2 /\ wb = true /\ lo <= dn /\ dn <= hi
 ·obtain ⟨rfl, rfl, h3, h4⟩ := hgood;obtain ⟨ho, hi'⟩ := hK2 rfl;have hvv := hv rfl;subst hvv;have e3 : decide (wn < lo) = false := dF (by omega);have e4 : decide (hi < wn) = false := dF (by omega);rw [hO, if_pos (by simp [h3, h4]), if_pos (by simp [h3, h4])];clear hO hv;go_enter func25, ntmps25;go_wp2_with fail;refine PK.out.mono ?_;rintro e w1 ⟨rfl, h1⟩;have P1 := Hj (HP.out.rel (h1.alloc (.cells #[.int .i64 2, .string T, .int .i64 A] 129)));have R1 := Hj (Ro.of (b := b) (h1.alloc (.cells #[.int .i64 2, .string T, .int .i64 A] 129)));clear h1;go_wp2_with fail;refine (I.out _).mono ?_;rintro e w2 ⟨rfl, h2⟩;have P2 := Hj (P1.out.rel h2);have R2 := Hj (R1.out.trans (Ro.of h2));have c0 : w2.cell? ⟨w1.heap.size, 0, none⟩ = some (.int .i64 2) := h2.cell (by simp);clear h2;go_wp2_with fail;refine (next_tok b G tk E s _ P2.out ho hi').mono ?_;unfold UnRes;rintro e w3 ⟨⟨v, rfl⟩, hP, h3⟩;have P3 := Hj hP;have R3 := Hj (R2.out.trans h3);clear hP h3;go_wp2;go_ret;exact ⟨rfl, P3.out, R3.out⟩
 ·have hO2 : ¬ numO tk lo hi s = true := by
   rw [hO]; simp only [Bool.and_eq_true, beq_iff_eq, decide_eq_true_eq]; exact hgood
  rw [if_neg hO2, if_neg hO2]
  have hways : ¬ K = 2 \/ (K = 2 /\ wb = false) \/ (K = 2 /\ wb = true /\ dn < lo) \/ (K = 2 /\ wb = true /\ ¬ dn < lo /\ hi < dn) := by
   by_cases a : K = 2
   ·cases wb
    ·exact .inr (.inl ⟨a, rfl⟩)
    ·by_cases c : dn < lo
     ·exact .inr (.inr (.inl ⟨a, rfl, c⟩))
     ·exact .inr (.inr (.inr ⟨a, rfl, c, by
       by_cases d : dn <= hi
       ·exact absurd ⟨a, rfl, by omega, d⟩ hgood
       ·omega⟩))
   ·exact .inl a
  clear hO hO2 hgood hK2
  rcases hways with h2 | ⟨rfl, rfl⟩ | ⟨rfl, rfl, h3⟩ | ⟨rfl, rfl, h3, h4⟩
  ·have e1 : (K == 2) = false := by rw [zn]; exact h2
   clear hv;go_enter func25, ntmps25;go_wp2_with fail;refine PK.out.mono ?_;rintro e w1 ⟨rfl, h1⟩;have P1 := Hj (HP.out.rel (h1.alloc (.cells #[.int .i64 K, .string T, .int .i64 A] 129)));have R1 := Hj (Ro.of (b := b) (h1.alloc (.cells #[.int .i64 K, .string T, .int .i64 A] 129)));clear h1;go_wp2_with fail;refine (I.out _).mono ?_;rintro e w2 ⟨rfl, h2⟩;have P2 := Hj (P1.out.rel h2);have R2 := Hj (R1.out.trans (Ro.of h2));have c0 : w2.cell? ⟨w1.heap.size, 0, none⟩ = some (.int .i64 K) := h2.cell (by simp);clear h2;go_wp2_with fail;refine (fail_any b G tk E s _ P2.out).mono ?_;unfold UnRes;rintro e w3 ⟨⟨v, rfl⟩, hP, h3⟩;have P3 := Hj hP;have R3 := Hj (R2.out.trans h3);clear hP h3;go_wp2;go_ret;exact ⟨rfl, P3.out, R3.out⟩
  ·clear hv;go_enter func25, ntmps25;go_wp2_with fail;refine PK.out.mono ?_;rintro e w1 ⟨rfl, h1⟩;have P1 := Hj (HP.out.rel (h1.alloc (.cells #[.int .i64 2, .string T, .int .i64 A] 129)));have R1 := Hj (Ro.of (b := b) (h1.alloc (.cells #[.int .i64 2, .string T, .int .i64 A] 129)));clear h1;go_wp2_with fail;refine (I.out _).mono ?_;rintro e w2 ⟨rfl, h2⟩;have P2 := Hj (P1.out.rel h2);have R2 := Hj (R1.out.trans (Ro.of h2));have c0 : w2.cell? ⟨w1.heap.size, 0, none⟩ = some (.int .i64 2) := h2.cell (by simp);clear h2;go_wp2_with fail;refine (fail_any b G tk E s _ P2.out).mono ?_;unfold UnRes;rintro e w3 ⟨⟨v, rfl⟩, hP, h3⟩;have P3 := Hj hP;have R3 := Hj (R2.out.trans h3);clear hP h3;go_wp2;go_ret;exact ⟨rfl, P3.out, R3.out⟩
  ·have hvv := hv rfl;subst hvv;have e3 : decide (wn < lo) = true := decide_eq_true h3;clear hv;go_enter func25, ntmps25;go_wp2_with fail;refine PK.out.mono ?_;rintro e w1 ⟨rfl, h1⟩;have P1 := Hj (HP.out.rel (h1.alloc (.cells #[.int .i64 2, .string T, .int .i64 A] 129)));have R1 := Hj (Ro.of (b := b) (h1.alloc (.cells #[.int .i64 2, .string T, .int .i64 A] 129)));clear h1;go_wp2_with fail;refine (I.out _).mono ?_;rintro e w2 ⟨rfl, h2⟩;have P2 := Hj (P1.out.rel h2);have R2 := Hj (R1.out.trans (Ro.of h2));have c0 : w2.cell? ⟨w1.heap.size, 0, none⟩ = some (.int .i64 2) := h2.cell (by simp);clear h2;go_wp2_with fail;refine (fail_any b G tk E s _ P2.out).mono ?_;unfold UnRes;rintro e w3 ⟨⟨v, rfl⟩, hP, h3⟩;have P3 := Hj hP;have R3 := Hj (R2.out.trans h3);clear hP h3;go_wp2;go_ret;exact ⟨rfl, P3.out, R3.out⟩
  ·have hvv := hv rfl;subst hvv;have e3 : decide (wn < lo) = false := decide_eq_false h3;have e4 : decide (hi < wn) = true := decide_eq_true h4;clear hv;go_enter func25, ntmps25;go_wp2_with fail;refine PK.out.mono ?_;rintro e w1 ⟨rfl, h1⟩;have P1 := Hj (HP.out.rel (h1.alloc (.cells #[.int .i64 2, .string T, .int .i64 A] 129)));have R1 := Hj (Ro.of (b := b) (h1.alloc (.cells #[.int .i64 2, .string T, .int .i64 A] 129)));clear h1;go_wp2_with fail;refine (I.out _).mono ?_;rintro e w2 ⟨rfl, h2⟩;have P2 := Hj (P1.out.rel h2);have R2 := Hj (R1.out.trans (Ro.of h2));have c0 : w2.cell? ⟨w1.heap.size, 0, none⟩ = some (.int .i64 2) := h2.cell (by simp);clear h2;go_wp2_with fail;refine (fail_any b G tk E s _ P2.out).mono ?_;unfold UnRes;rintro e w3 ⟨⟨v, rfl⟩, hP, h3⟩;have P3 := Hj hP;have R3 := Hj (R2.out.trans h3);clear hP h3;go_wp2;go_ret;exact ⟨rfl, P3.out, R3.out⟩
def BinRes (b G : Nat) (tk : List Tk) (E : Int) (l : List (List UInt8 × Int)) (s : Pt) (w : World) (e : Ending) (w' : World) : Prop := e = .returned (.tuple #[.int .i64 (binT tk s l), .bool (binO tk s l)]) /\ Prs w' b G tk E (binP tk s l) /\ Ro b w w'
theorem bin_no {tk : List Tk} {s : Pt} {l : List (List UInt8 × Int)} (h : ∀ (i : Nat) p, l[i]? = some p -> accB tk p.1 s = false) : binO tk s l = false /\ binT tk s l = 0 := by
 induction l with
 | nil => exact ⟨rfl, rfl⟩
 | cons q l ih =>
  have h0 := h 0 q rfl;obtain ⟨h1, h2⟩ := ih (fun i p hp => h (i + 1) p hp);exact ⟨by simp [binO, h0, h1], by simp [binT, h0, h2]⟩
theorem bin_hit {tk : List Tk} {s : Pt} : ∀ {l : List (List UInt8 × Int)} {j : Nat} {q : List UInt8 × Int}, l[j]? = some q -> accB tk q.1 s = true -> (∀ (i : Nat) p, i < j -> l[i]? = some p -> accB tk p.1 s = false) -> binO tk s l = true /\ binT tk s l = q.2 := by
 intro l
 induction l with
 | nil => intro j q h; simp at h
 | cons p l ih =>
  intro j q hq ha hn
  cases j with
  | zero =>
   simp at hq; subst hq
   exact ⟨by simp [binO, ha], by simp [binT, ha]⟩
  | succ j =>
   have h0 := hn 0 p (by omega) rfl;simp only [List.getElem?_cons_succ] at hq;obtain ⟨h1, h2⟩ := ih hq ha (fun i p hi hp => hn (i + 1) p (by omega) hp);exact ⟨by simp [binO, h0, h1], by simp [binT, h0, h2]⟩
theorem binary_any (b G : Nat) (tk : List Tk) (E : Int) (l : List (List UInt8 × Int)) (s : Pt) (g c : Nat) (w : World) (h : Prs w b G tk E s) (hl : l.length <= 10) (hg : g < w.heap.size) (hgb : g ≠ b)
  (hc : ∀ (i : Nat) p, l[i]? = some p -> w.cell? ⟨g, i * 2, none⟩ = some (.string ⟨p.1.toArray⟩) /\ w.cell? ⟨g, i * 2 + 1, none⟩ = some (.int .i64 p.2)) :
  Calls prog 202 #[.pointer (some ⟨b, 0, none⟩), .slice (some ⟨g, 0, none⟩) l.length c] w (BinRes b G tk E l s w) := by
 have HP := Hj h;have HC := Hj hc;unfold BinRes;obtain ⟨n, hn⟩ : ∃ n, l.length = n := ⟨_, rfl⟩;have HN := Hj hn;rw [hn] at hl |-;clear h hc hn;go_enter func202, ntmps202;go_wp2_with fail
 go_loopw [10] (fun i wx => ∃ k : Nat, k <= n /\ i = .int .i64 k /\ Hid (∀ (i : Nat) p, i < k -> l[i]? = some p -> accB tk p.1 s = false) /\ Hid (Prs wx b G tk E s) /\ Hid (Ro b w wx)) (fun i _ => n - (intOf i).toNat)
 case atStart => exact ⟨0, by omega, rfl, fun i p hi => by omega, HP.out, Ro.refl _ _⟩
 case round =>
  obtain ⟨k, hk, rfl, hno, hP, hR⟩ := hrel;by_cases hlt : k < n
  ·obtain ⟨p, hp⟩ : ∃ p, l[k]? = some p := ⟨_, List.getElem?_eq_getElem (by rw [HN.out]; exact hlt)⟩;obtain ⟨q0, q1⟩ := HC.out k p hp;have c0 := hR.out.cell hg hgb q0;have c1 := hR.out.cell hg hgb q1;have ki : (k : Int) < (n : Int) := by omega
   have HPp := Hj hp;obtain ⟨S, hS⟩ : ∃ S : ByteArray, (⟨p.1.toArray⟩ : ByteArray) = S := ⟨_, rfl⟩;have hSl : S.data.toList = p.1 := by rw [<- hS]
   obtain ⟨z, hz⟩ : ∃ z, p.2 = z := ⟨_, rfl⟩;rw [hS] at c0;rw [hz] at c1;have P0 := Hj (hP.out.rel ((Rel.refl _).alloc (.cells #[.string S, .int .i64 z] 144)));have A := Hj (accept_any b G tk E s S _ P0.out);unfold AccRes accP at A;rw [hSl] at A;have hgr := Nat.lt_of_lt_of_le hg hR.out.size;have kb : wr.heap.size ≠ b := by have := hP.out.lt; omega
   obtain ⟨k', hk'⟩ : ∃ k', accB tk p.1 s = k' := ⟨_, rfl⟩;rw [hk'] at A;have HK' := Hj hk';have HZ := Hj hz;clear q0 q1 hp hS hSl hk' hz
   cases k'
   ·rw [if_neg (by simp)] at A;go_wp2_with fail;refine A.out.mono ?_;rintro e w2 ⟨rfl, hP2, h2⟩;have P2 := Hj hP2;have R2 := Hj ((hR.out.alloc _).trans h2);clear hP2 h2;go_wp2
    go_roundw
    case rel => exact ⟨k + 1, by omega, by go_num, (by
     intro i p' hi hp';by_cases e : i = k
     ·subst e;have := HPp.out.symm.trans hp';cases this
      exact HK'.out
     ·exact hno.out i p' (by omega) hp'), P2.out, R2.out⟩
    case measure => simp [intOf]; omega
   ·rw [if_pos rfl] at A;go_wp2_with fail;refine A.out.mono ?_;rintro e w2 ⟨rfl, hP2, h2⟩;have P2 := Hj hP2;have R2 := Hj ((hR.out.alloc _).trans h2);have k1 : w2.cell? ⟨wr.heap.size, 1, none⟩ = some (.int .i64 z) := h2.cell (by simp) kb (by simp);clear hP2 h2;go_wp2;obtain ⟨b1, b2⟩ := bin_hit HPp.out HK'.out hno.out;have eP : binP tk s l = s.adv := by unfold binP; rw [b1, if_pos rfl]
    rw [b1, b2, HZ.out, eP];refine bodyPost_ret (v := .tuple #[.int .i64 z, .bool true]) ?_ rfl ⟨rfl, P2.out, R2.out⟩;simp [results, results202, go_sem]
  ·have : k = n := by omega
   subst this;obtain ⟨b1, b2⟩ := bin_no (tk := tk) (s := s) (l := l) (fun i p hp => hno.out i p (by have := (List.getElem?_eq_some_iff.1 hp).1; have := HN.out; omega) hp);have eP : binP tk s l = s := by unfold binP; rw [b1, if_neg (by simp)]
   go_wp2;rw [b1, b2, eP];refine bodyPost_ret (v := .tuple #[.int .i64 0, .bool false]) ?_ rfl ⟨rfl, hP.out, hR.out⟩;simp [results, results202, go_sem]
end Go.Proofs.YthmlhheceihcbaaGreatDoor

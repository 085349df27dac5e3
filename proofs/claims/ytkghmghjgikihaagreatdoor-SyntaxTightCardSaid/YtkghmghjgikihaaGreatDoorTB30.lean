/- Bundle of texts: each says at its head what it proves; no conditions but those printed. -/
import Derived.Test.YtkghmghjgikihaaGreatDoorTB0
import Derived.Test.YtkghmghjgikihaaGreatDoorTB25
/- Calm operations in the midst of a region that draws its order: those that are calm from here on are taken first. Over any program. Its conditions are those printed. -/
namespace Go.Proofs.YtkghmghjgikihaaGreatDoor
open Go.RowKit
section
variable {P : Program} {ops : Array Oper} {Q : Exit → Act → World → Prop} {S : Array Bool → World → Prop} {T : Nat → Bool}
def closedB (ops : Array Oper) (L : Array Bool) : Bool := (List.range ops.size).all fun j => match ops[j]? with
 | some oj => !L.getD j false || oj.after.all fun e => !Region.binds .any e || L.getD e.on false
 | none => true
def subB (M L : Array Bool) : Bool := (List.range M.size).all fun k => !M.getD k false || L.getD k false
theorem closedB_of {L : Array Bool} (h : closedB ops L = true) : Closed .any ops L := fun j oj hj hl e he hb => by
 unfold closedB at h
 rw [List.all_eq_true] at h
 have hlt : j < ops.size := (Array.getElem?_eq_some_iff.1 hj).1
 have h1 := h j (List.mem_range.2 hlt)
 rw [hj] at h1
 simp only [hl, Bool.not_true, Bool.false_or] at h1
 rw [Array.all_eq_true_iff_forall_mem] at h1
 have := h1 e he
 rw [hb] at this
 simpa using this
theorem subB_of {M L : Array Bool} (h : subB M L = true) : ∀ k, M.getD k false = true → L.getD k false = true := fun k hk => by
 unfold subB at h
 rw [List.all_eq_true] at h
 by_cases hlt : k < M.size
 ·have := h k (List.mem_range.2 hlt)
  rw [hk] at this
  simpa using this
 ·simp [Array.getElem?_eq_none (Nat.le_of_not_lt hlt)] at hk
theorem wpAnyR_more {M L : Array Bool} {a : Act} {w : World} (cs : List Nat) (f : Nat)
  (hB : (Region.noSelect ops && (cs.all fun i => !T i) && closedB ops L && subB M L && calmB .any ops cs L) = true)
  (hst : ∀ M w w', S M w → Rel w w' → S M w') (hS : S M w)
  (h : wpCalm P .any ops S (fun a' => wpAnyR P .any ops (NoPanic Q) S T f M (takenB cs L) a' w) cs a) : wpAnyR P .any ops (NoPanic Q) S T (f + cs.length) M L a w := by
 simp only [Bool.and_eq_true, List.all_eq_true, Bool.not_eq_true'] at hB
 obtain ⟨⟨⟨⟨h1, h2⟩, h3⟩, h4⟩, h5⟩ := hB
 exact wpAnyR_calms (md := .any) (T := T) h1 (fun _ _ _ _ _ h => (h : False).elim) hst f M w hS cs L a h2 (closedB_of h3) (subB_of h4) h5 h
end
end Go.Proofs.YtkghmghjgikihaaGreatDoor

/- Parentheses: how many a text of a tree has, that no shorter way of writing them gives the same tree, that they are balanced. No program in sight; no conditions but those printed. -/
namespace Go.Proofs.YtkghmghjgikihaaGreatDoor.Tree
open Go.RowKit Cal Str Tok Frac Txt
set_option linter.unusedVariables false
def ndP (op : Int) (p : Nat → Int → Nat) : Nat :=
 if op = 1 then 0 else if op = 2 then 0 else if op = 3 then 1 else if op = 4 then p 0 7 else if op = 5 then p 0 3
 else if op = 6 then 1 + p 0 0 else if op = 19 then 1 + p 0 0 + p 1 0 else if op = 20 then 1 + p 0 0 + p 1 0 else if op = 21 then p 0 0 + p 1 0 + p 2 0
 else p 0 (if levI op = 4 then 5 else levI op) + p 1 (levI op + 1)
def Ex.pn : Ex → Nat
 | .no => 0
 | .mk op a b d s n kid => ndP op fun i l => (kid i).pn + (if levI (kid i).op < l then 1 else 0)
def Ex.pl (t : Ex) (l : Int) : Nat := Ex.pn t + (if levI t.op < l then 1 else 0)
theorem pn_mk (op a b d : Int) (s : ByteArray) (n : Nat) (kid : Nat → Ex) : Ex.pn (.mk op a b d s n kid) = ndP op fun i l => Ex.pl (kid i) l := rfl
theorem pl_mono {t : Ex} {l m : Int} (h : l ≤ m) : Ex.pl t l ≤ Ex.pl t m := by
 unfold Ex.pl
 split
 ·rw [if_pos (by omega)]; omega
 ·omega
theorem pl_low {t : Ex} {l : Int} (h : ¬ levI t.op < l) : Ex.pl t l = Ex.pn t := by unfold Ex.pl; rw [if_neg h]; rfl
theorem pl_no (l : Int) (h : l ≤ 7) : Ex.pl .no l = 0 := by
 unfold Ex.pl
 rw [if_neg (show ¬ levI Ex.no.op < l by have : levI Ex.no.op = 7 := rfl; omega)]; rfl
theorem ndP_bin {op : Int} (h0 : 7 ≤ op) (h1 : op ≤ 18) (p : Nat → Int → Nat) : ndP op p = p 0 (if levI op = 4 then 5 else levI op) + p 1 (levI op + 1) := by
 unfold ndP
 rw [if_neg (by omega), if_neg (by omega), if_neg (by omega), if_neg (by omega), if_neg (by omega), if_neg (by omega), if_neg (by omega), if_neg (by omega), if_neg (by omega)]
theorem pl_bin {op : Int} {a b : Ex} {L : Int} (h0 : 7 ≤ op) (h1 : op ≤ 18) (hL : levI op = L) (h4 : ¬ L = 4) : Ex.pl (trB op a b) L = Ex.pl a L + Ex.pl b (L + 1) := by
 rw [pl_low (show ¬ levI op < L by omega)]
 unfold trB
 rw [pn_mk, ndP_bin h0 h1, hL, if_neg h4]; rfl
theorem pl_rel {op : Int} {a b : Ex} (h0 : 7 ≤ op) (h1 : op ≤ 18) (hL : levI op = 4) : Ex.pl (trB op a b) 4 = Ex.pl a 5 + Ex.pl b 5 := by
 rw [pl_low (show ¬ levI op < 4 by omega)]
 unfold trB
 rw [pn_mk, ndP_bin h0 h1, hL, if_pos rfl]; rfl
/-! The tokens. -/
def opT (t : Tk) : Bool := t.T.data.toList == [40]
def cO (tk : List Tk) (i : Nat) : Nat := (tk.take i).countP opT
theorem cO_mono (tk : List Tk) {i j : Nat} (h : i ≤ j) : cO tk i ≤ cO tk j := by
 unfold cO
 have : (tk.take i).Sublist (tk.take j) := by
  have e : tk.take i = (tk.take j).take i := by rw [List.take_take, Nat.min_eq_left h]
  rw [e]; exact List.take_sublist _ _
 exact this.countP_le
theorem cO_one {tk : List Tk} {i : Nat} {t : Tk} (h : tk[i]? = some t) (ho : opT t = true) : cO tk (i + 1) = cO tk i + 1 := by
 unfold cO
 rw [List.take_add_one, h, List.countP_append]
 simp [ho]
theorem acc_open {tk : List Tk} {s : Pt} (h : accB tk kOpen s = true) : cO tk (s.i + 1) = cO tk s.i + 1 := by
 obtain ⟨t, ht, -, e⟩ := accB_some h
 obtain ⟨-, -, h3⟩ := tkAt_some ht
 exact cO_one h3 (by unfold opT; rw [e]; rfl)
theorem exp_ok {tk : List Tk} {x : List UInt8} {s : Pt} (h : (expP tk x s).ok = true) : accB tk x s = true ∧ expP tk x s = s.adv := by
 unfold expP at h ⊢
 split
 ·rename_i ha; exact ⟨ha, rfl⟩
 ·rename_i ha; rw [if_neg ha] at h; cases h
theorem num_ok {tk : List Tk} {lo hi : Int} {s : Pt} (h : (numP tk lo hi s).ok = true) : numP tk lo hi s = s.adv := by
 unfold numP at h ⊢
 split
 ·rfl
 ·rename_i ha; rw [if_neg ha] at h; cases h
theorem binT_of {tk : List Tk} {s : Pt} {l : List (List UInt8 × Int)} {Q : Int → Prop} (hl : ∀ p ∈ l, Q p.2) (h : binO tk s l = true) : Q (binT tk s l) := by
 induction l with
 | nil => cases h
 | cons p l ih =>
  simp only [binO] at h
  simp only [binT]
  split
  ·exact hl p (by simp)
  ·rename_i ha
   rw [if_neg ha] at h
   exact ih (fun q hq => hl q (by simp [hq])) h
theorem rel_lev {tk : List Tk} {s : Pt} (h : binO tk s relL = true) : 7 ≤ binT tk s relL ∧ binT tk s relL ≤ 18 ∧ levI (binT tk s relL) = 4 := binT_of (Q := fun o => 7 ≤ o ∧ o ≤ 18 ∧ levI o = 4) (by decide) h
theorem sum_lev {tk : List Tk} {s : Pt} (h : binO tk s sumL = true) : 7 ≤ binT tk s sumL ∧ binT tk s sumL ≤ 18 ∧ levI (binT tk s sumL) = 5 := binT_of (Q := fun o => 7 ≤ o ∧ o ≤ 18 ∧ levI o = 5) (by decide) h
theorem mul_lev {tk : List Tk} {s : Pt} (h : binO tk s mulL = true) : 7 ≤ binT tk s mulL ∧ binT tk s mulL ≤ 18 ∧ levI (binT tk s mulL) = 6 := binT_of (Q := fun o => 7 ≤ o ∧ o ≤ 18 ∧ levI o = 6) (by decide) h
theorem mm_op {tk : List Tk} {s : Pt} (h : binO tk s mmL = true) : binT tk s mmL = 19 ∨ binT tk s mmL = 20 := binT_of (Q := fun o => o = 19 ∨ o = 20) (by decide) h
theorem pe_open (tk : List Tk) (f : Nat) : (∀ m s, (m = 0 ∨ m = 1 ∨ m = 2 ∨ m = 3 ∨ m = 4 ∨ m = 5 ∨ m = 6 ∨ m = 7) → (pe tk f m .no s).2.ok = true → cO tk s.i + Ex.pl (pe tk f m .no s).1 m ≤ cO tk (pe tk f m .no s).2.i) ∧
  (∀ L a s, (L = 1 ∨ L = 2 ∨ L = 5 ∨ L = 6) → (pe tk f (10 + L) a s).2.ok = true → cO tk s.i + Ex.pl (pe tk f (10 + L) a s).1 L ≤ cO tk (pe tk f (10 + L) a s).2.i + Ex.pl a L) := by
 induction f with
 | zero => exact ⟨fun m s hm _ => by
   show cO tk s.i + Ex.pl Ex.no m ≤ cO tk s.i
   rw [pl_no _ (by omega)]; omega, fun L a s _ _ => by show cO tk s.i + Ex.pl a L ≤ cO tk s.i + Ex.pl a L; omega⟩
 | succ f ih =>
  obtain ⟨im, il⟩ := ih
  have i0 := fun s h => im 0 s (by decide) h
  have i1 := fun s h => im 1 s (by decide) h
  have i2 := fun s h => im 2 s (by decide) h
  have i3 := fun s h => im 3 s (by decide) h
  have i4 := fun s h => im 4 s (by decide) h
  have i5 := fun s h => im 5 s (by decide) h
  have i6 := fun s h => im 6 s (by decide) h
  have i7 := fun s h => im 7 s (by decide) h
  have l1 := fun a s h => il 1 a s (by decide) h
  have l2 := fun a s h => il 2 a s (by decide) h
  have l5 := fun a s h => il 5 a s (by decide) h
  have l6 := fun a s h => il 6 a s (by decide) h
  have up : ∀ {m : Nat} {a : Ex} {s : Pt}, md m → (pe tk f m a s).2.ok = true → s.ok = true := fun hm h => (pe_beh tk f _ _ _ hm).2.1 h
  have M : ∀ m, m = 0 ∨ m = 1 ∨ m = 2 ∨ m = 3 ∨ m = 4 ∨ m = 5 ∨ m = 6 ∨ m = 7 ∨ m = 11 ∨ m = 12 ∨ m = 15 ∨ m = 16 → md m := fun m h => by unfold md; omega
  have av : ∀ s : Pt, s.adv.i = s.i + 1 := fun _ => rfl
  have mo : ∀ i, cO tk i ≤ cO tk (i + 1) := fun i => cO_mono tk (Nat.le_succ i)
  have ex : ∀ {x s}, (expP tk x s).ok = true → cO tk s.i ≤ cO tk (expP tk x s).i ∧ s.ok = true := fun {x s} h => by
   obtain ⟨h1, h2⟩ := exp_ok h
   obtain ⟨t, ht, -⟩ := accB_some h1
   rw [h2]; exact ⟨mo s.i, (tkAt_some ht).1⟩
  have eo : ∀ {s}, (expP tk kOpen s).ok = true → cO tk (expP tk kOpen s).i = cO tk s.i + 1 ∧ s.ok = true := fun {s} h => by
   obtain ⟨h1, h2⟩ := exp_ok h
   obtain ⟨t, ht, -⟩ := accB_some h1
   rw [h2]; exact ⟨acc_open h1, (tkAt_some ht).1⟩
  refine ⟨fun m s hm => ?_, fun L a s hL => ?_⟩
  ·rcases hm with rfl | rfl | rfl | rfl | rfl | rfl | rfl | rfl
   ·rw [pe_0]
    by_cases h : accB tk kIf s = true
    ·rw [if_pos h]
     intro hok
     have h3 := i0 _ hok
     obtain ⟨x3, o3⟩ := ex (up (M 0 (by decide)) hok)
     have h2 := i0 _ o3
     obtain ⟨x2, o2⟩ := ex (up (M 0 (by decide)) o3)
     have h1 := i0 _ o2
     have q := mo s.i
     rw [av] at h1
     generalize pe tk f 0 .no (expP tk kElse (pe tk f 0 .no (expP tk kThen (pe tk f 0 .no s.adv).2)).2) = y at *
     generalize pe tk f 0 .no (expP tk kThen (pe tk f 0 .no s.adv).2) = x at *
     generalize pe tk f 0 .no s.adv = c at *
     have e : Ex.pl (trI c.1 x.1 y.1) 0 = Ex.pl c.1 0 + Ex.pl x.1 0 + Ex.pl y.1 0 := rfl
     show cO tk s.i + Ex.pl (trI c.1 x.1 y.1) 0 ≤ cO tk y.2.i
     have h1' : cO tk (s.i + 1) + Ex.pl c.1 0 ≤ cO tk c.2.i := h1
     have h2' : cO tk (expP tk kThen c.2).i + Ex.pl x.1 0 ≤ cO tk x.2.i := h2
     have h3' : cO tk (expP tk kElse x.2).i + Ex.pl y.1 0 ≤ cO tk y.2.i := h3
     omega
    ·rw [if_neg h]
     intro hok
     have h1 := i1 _ hok
     have := pl_mono (t := (pe tk f 1 .no s).1) (show (0 : Int) ≤ 1 by decide)
     exact Nat.le_trans (Nat.add_le_add_left this _) h1
   ·rw [pe_1]
    intro hok
    have h2 := l1 _ _ hok
    have h1 := i2 _ (up (m := 11) (M 11 (by decide)) hok)
    generalize pe tk f 2 .no s = x at *
    generalize pe tk f 11 x.1 x.2 = r at *
    have p := pl_mono (t := x.1) (show (1 : Int) ≤ 2 by decide)
    have h1' : cO tk s.i + Ex.pl x.1 2 ≤ cO tk x.2.i := h1
    have h2' : cO tk x.2.i + Ex.pl r.1 1 ≤ cO tk r.2.i + Ex.pl x.1 1 := h2
    show cO tk s.i + Ex.pl r.1 1 ≤ cO tk r.2.i
    omega
   ·rw [pe_2]
    intro hok
    have h2 := l2 _ _ hok
    have h1 := i3 _ (up (m := 12) (M 12 (by decide)) hok)
    generalize pe tk f 3 .no s = x at *
    generalize pe tk f 12 x.1 x.2 = r at *
    have p := pl_mono (t := x.1) (show (2 : Int) ≤ 3 by decide)
    have h1' : cO tk s.i + Ex.pl x.1 3 ≤ cO tk x.2.i := h1
    have h2' : cO tk x.2.i + Ex.pl r.1 2 ≤ cO tk r.2.i + Ex.pl x.1 2 := h2
    show cO tk s.i + Ex.pl r.1 2 ≤ cO tk r.2.i
    omega
   ·rw [pe_3]
    by_cases h : accB tk kNot s = true
    ·rw [if_pos h]
     intro hok
     have h1 := i3 _ hok
     have q := mo s.i
     rw [av] at h1
     generalize pe tk f 3 .no s.adv = x at *
     have e : Ex.pl (trU 5 x.1) 3 = Ex.pl x.1 3 := rfl
     have h1' : cO tk (s.i + 1) + Ex.pl x.1 3 ≤ cO tk x.2.i := h1
     show cO tk s.i + Ex.pl (trU 5 x.1) 3 ≤ cO tk x.2.i
     omega
    ·rw [if_neg h]
     intro hok
     have h1 := i4 _ hok
     have := pl_mono (t := (pe tk f 4 .no s).1) (show (3 : Int) ≤ 4 by decide)
     exact Nat.le_trans (Nat.add_le_add_left this _) h1
   ·rw [pe_4]
    by_cases h : binO tk (pe tk f 5 .no s).2 relL = true
    ·rw [if_pos h]
     intro hok
     have h2 := i5 _ hok
     have o2 : (pe tk f 5 .no s).2.ok = true := (pe_beh tk f 5 .no (pe tk f 5 .no s).2.adv (M 5 (by decide))).2.1 hok
     have h1 := i5 _ o2
     have q := mo (pe tk f 5 .no s).2.i
     rw [av] at h2
     obtain ⟨b1, b2, b3⟩ := rel_lev h
     generalize pe tk f 5 .no (pe tk f 5 .no s).2.adv = y at *
     generalize pe tk f 5 .no s = x at *
     have e := pl_rel (a := x.1) (b := y.1) b1 b2 b3
     have h1' : cO tk s.i + Ex.pl x.1 5 ≤ cO tk x.2.i := h1
     have h2' : cO tk (x.2.i + 1) + Ex.pl y.1 5 ≤ cO tk y.2.i := h2
     show cO tk s.i + Ex.pl (trB (binT tk x.2 relL) x.1 y.1) 4 ≤ cO tk y.2.i
     omega
    ·rw [if_neg h]
     intro hok
     have h1 := i5 _ hok
     have := pl_mono (t := (pe tk f 5 .no s).1) (show (4 : Int) ≤ 5 by decide)
     exact Nat.le_trans (Nat.add_le_add_left this _) h1
   ·rw [pe_5]
    intro hok
    have h2 := l5 _ _ hok
    have h1 := i6 _ (up (m := 15) (M 15 (by decide)) hok)
    generalize pe tk f 6 .no s = x at *
    generalize pe tk f 15 x.1 x.2 = r at *
    have p := pl_mono (t := x.1) (show (5 : Int) ≤ 6 by decide)
    have h1' : cO tk s.i + Ex.pl x.1 6 ≤ cO tk x.2.i := h1
    have h2' : cO tk x.2.i + Ex.pl r.1 5 ≤ cO tk r.2.i + Ex.pl x.1 5 := h2
    show cO tk s.i + Ex.pl r.1 5 ≤ cO tk r.2.i
    omega
   ·rw [pe_6]
    intro hok
    have h2 := l6 _ _ hok
    have h1 := i7 _ (up (m := 16) (M 16 (by decide)) hok)
    generalize pe tk f 7 .no s = x at *
    generalize pe tk f 16 x.1 x.2 = r at *
    have p := pl_mono (t := x.1) (show (6 : Int) ≤ 7 by decide)
    have h1' : cO tk s.i + Ex.pl x.1 7 ≤ cO tk x.2.i := h1
    have h2' : cO tk x.2.i + Ex.pl r.1 6 ≤ cO tk r.2.i + Ex.pl x.1 6 := h2
    show cO tk s.i + Ex.pl r.1 6 ≤ cO tk r.2.i
    omega
   ·rw [pe_7]
    by_cases h1 : accB tk kNeg s = true
    ·rw [if_pos h1]
     intro hok
     have h1 := i7 _ hok
     have q := mo s.i
     rw [av] at h1
     generalize pe tk f 7 .no s.adv = x at *
     have e : Ex.pl (trU 4 x.1) 7 = Ex.pl x.1 7 := rfl
     have h1' : cO tk (s.i + 1) + Ex.pl x.1 7 ≤ cO tk x.2.i := h1
     show cO tk s.i + Ex.pl (trU 4 x.1) 7 ≤ cO tk x.2.i
     omega
    rw [if_neg h1]
    by_cases h2 : accB tk kOpen s = true
    ·rw [if_pos h2]
     intro hok
     obtain ⟨x1, o1⟩ := ex hok
     have h1 := i0 _ o1
     have q := acc_open h2
     rw [av] at h1
     generalize pe tk f 0 .no s.adv = x at *
     have e : Ex.pl x.1 7 ≤ Ex.pl x.1 0 + 1 := by unfold Ex.pl; split <;> omega
     have h1' : cO tk (s.i + 1) + Ex.pl x.1 0 ≤ cO tk x.2.i := h1
     show cO tk s.i + Ex.pl x.1 7 ≤ cO tk (expP tk kShut x.2).i
     omega
    rw [if_neg h2]
    by_cases h3 : accB tk kBest s = true
    ·rw [if_pos h3]
     intro hok
     obtain ⟨x1, o1⟩ := ex hok
     have o2 : (expP tk kOpen s.adv).ok = true := (num_beh tk 1 45 _).2.1 o1
     obtain ⟨x2, -⟩ := eo o2
     have e3 := num_ok o1
     have q3 := mo (expP tk kOpen s.adv).i
     have q := mo s.i
     rw [av] at x2
     have ei : (numP tk 1 45 (expP tk kOpen s.adv)).i = (expP tk kOpen s.adv).i + 1 := by rw [e3]; rfl
     rw [ei] at x1
     have e : ∀ n, Ex.pl (trS n) 7 = 1 := fun n => rfl
     show cO tk s.i + Ex.pl (trS _) 7 ≤ cO tk (expP tk kShut (numP tk 1 45 (expP tk kOpen s.adv))).i
     rw [e]
     omega
    rw [if_neg h3]
    by_cases h4 : accB tk kFloor s = true
    ·rw [if_pos h4]
     intro hok
     obtain ⟨x1, o1⟩ := ex hok
     have h1 := i0 _ o1
     obtain ⟨x2, -⟩ := eo (up (M 0 (by decide)) o1)
     have q := mo s.i
     rw [av] at x2
     generalize pe tk f 0 .no (expP tk kOpen s.adv) = x at *
     have e : Ex.pl (trU 6 x.1) 7 = 1 + Ex.pl x.1 0 := rfl
     have h1' : cO tk (expP tk kOpen s.adv).i + Ex.pl x.1 0 ≤ cO tk x.2.i := h1
     show cO tk s.i + Ex.pl (trU 6 x.1) 7 ≤ cO tk (expP tk kShut x.2).i
     omega
    rw [if_neg h4]
    by_cases h5 : binO tk s mmL = true
    ·rw [if_pos h5]
     intro hok
     obtain ⟨x1, o1⟩ := ex hok
     have h1 := i0 _ o1
     obtain ⟨x2, o2⟩ := ex (up (M 0 (by decide)) o1)
     have h2 := i0 _ o2
     obtain ⟨x3, -⟩ := eo (up (M 0 (by decide)) o2)
     have q := mo s.i
     rw [av] at x3
     have hm := mm_op h5
     generalize pe tk f 0 .no (expP tk kComma (pe tk f 0 .no (expP tk kOpen s.adv)).2) = y at *
     generalize pe tk f 0 .no (expP tk kOpen s.adv) = x at *
     have e : Ex.pl (trB (binT tk s mmL) x.1 y.1) 7 = 1 + Ex.pl x.1 0 + Ex.pl y.1 0 := by
      rcases hm with e | e <;> rw [e] <;> rfl
     have h1' : cO tk (expP tk kComma x.2).i + Ex.pl y.1 0 ≤ cO tk y.2.i := h1
     have h2' : cO tk (expP tk kOpen s.adv).i + Ex.pl x.1 0 ≤ cO tk x.2.i := h2
     show cO tk s.i + Ex.pl (trB (binT tk s mmL) x.1 y.1) 7 ≤ cO tk (expP tk kShut y.2).i
     omega
    rw [if_neg h5]
    by_cases h6 : pkK tk s = 2
    ·rw [if_pos h6]
     intro hok
     have q := mo s.i
     have e : ∀ a b d, Ex.pl (trL a b d) 7 = 0 := fun _ _ _ => rfl
     show cO tk s.i + Ex.pl (trL _ _ _) 7 ≤ cO tk (s.i + 1)
     rw [e]; omega
    ·rw [if_neg h6]
     intro hok
     have e : ∀ a, Ex.pl (trN a) 7 = 0 := fun _ => rfl
     have q := cO_mono tk (nam_beh tk s).1
     show cO tk s.i + Ex.pl (trN _) 7 ≤ cO tk (namP tk s).i
     rw [e]; omega
  ·rcases hL with rfl | rfl | rfl | rfl
   ·show (pe tk (f + 1) 11 a s).2.ok = true → cO tk s.i + Ex.pl (pe tk (f + 1) 11 a s).1 1 ≤ cO tk (pe tk (f + 1) 11 a s).2.i + Ex.pl a 1
    rw [pe_11]
    by_cases h : accB tk kOr s = true
    ·rw [if_pos h]
     intro hok
     have h2 := l1 _ _ hok
     have h1 := i2 _ (up (m := 11) (M 11 (by decide)) hok)
     have q := mo s.i
     rw [av] at h1
     have e := fun y : Ex => pl_bin (op := 18) (a := a) (b := y) (L := 1) (by decide) (by decide) (by decide) (by decide)
     generalize pe tk f 2 .no s.adv = y at *
     have e' := e y.1
     generalize pe tk f 11 (trB 18 a y.1) y.2 = r at *
     have h1' : cO tk (s.i + 1) + Ex.pl y.1 2 ≤ cO tk y.2.i := h1
     have h2' : cO tk y.2.i + Ex.pl r.1 1 ≤ cO tk r.2.i + Ex.pl (trB 18 a y.1) 1 := h2
     have e'' : Ex.pl (trB 18 a y.1) 1 = Ex.pl a 1 + Ex.pl y.1 2 := e'
     show cO tk s.i + Ex.pl r.1 1 ≤ cO tk r.2.i + Ex.pl a 1
     omega
    ·rw [if_neg h]
     intro hok
     exact Nat.le_refl _
   ·show (pe tk (f + 1) 12 a s).2.ok = true → cO tk s.i + Ex.pl (pe tk (f + 1) 12 a s).1 2 ≤ cO tk (pe tk (f + 1) 12 a s).2.i + Ex.pl a 2
    rw [pe_12]
    by_cases h : accB tk kAnd s = true
    ·rw [if_pos h]
     intro hok
     have h2 := l2 _ _ hok
     have h1 := i3 _ (up (m := 12) (M 12 (by decide)) hok)
     have q := mo s.i
     rw [av] at h1
     have e := fun y : Ex => pl_bin (op := 17) (a := a) (b := y) (L := 2) (by decide) (by decide) (by decide) (by decide)
     generalize pe tk f 3 .no s.adv = y at *
     have e' := e y.1
     generalize pe tk f 12 (trB 17 a y.1) y.2 = r at *
     have h1' : cO tk (s.i + 1) + Ex.pl y.1 3 ≤ cO tk y.2.i := h1
     have h2' : cO tk y.2.i + Ex.pl r.1 2 ≤ cO tk r.2.i + Ex.pl (trB 17 a y.1) 2 := h2
     have e'' : Ex.pl (trB 17 a y.1) 2 = Ex.pl a 2 + Ex.pl y.1 3 := e'
     show cO tk s.i + Ex.pl r.1 2 ≤ cO tk r.2.i + Ex.pl a 2
     omega
    ·rw [if_neg h]
     intro hok
     exact Nat.le_refl _
   ·show (pe tk (f + 1) 15 a s).2.ok = true → cO tk s.i + Ex.pl (pe tk (f + 1) 15 a s).1 5 ≤ cO tk (pe tk (f + 1) 15 a s).2.i + Ex.pl a 5
    rw [pe_15]
    by_cases h : binO tk s sumL = true
    ·rw [if_pos h]
     intro hok
     have h2 := l5 _ _ hok
     have h1 := i6 _ (up (m := 15) (M 15 (by decide)) hok)
     have q := mo s.i
     rw [av] at h1
     obtain ⟨b1, b2, b3⟩ := sum_lev h
     have e := fun y : Ex => pl_bin (a := a) (b := y) (L := 5) b1 b2 b3 (by decide)
     generalize pe tk f 6 .no s.adv = y at *
     have e' := e y.1
     generalize pe tk f 15 (trB (binT tk s sumL) a y.1) y.2 = r at *
     have h1' : cO tk (s.i + 1) + Ex.pl y.1 6 ≤ cO tk y.2.i := h1
     have h2' : cO tk y.2.i + Ex.pl r.1 5 ≤ cO tk r.2.i + Ex.pl (trB (binT tk s sumL) a y.1) 5 := h2
     have e'' : Ex.pl (trB (binT tk s sumL) a y.1) 5 = Ex.pl a 5 + Ex.pl y.1 6 := e'
     show cO tk s.i + Ex.pl r.1 5 ≤ cO tk r.2.i + Ex.pl a 5
     omega
    ·rw [if_neg h]
     intro hok
     exact Nat.le_refl _
   ·show (pe tk (f + 1) 16 a s).2.ok = true → cO tk s.i + Ex.pl (pe tk (f + 1) 16 a s).1 6 ≤ cO tk (pe tk (f + 1) 16 a s).2.i + Ex.pl a 6
    rw [pe_16]
    by_cases h : binO tk s mulL = true
    ·rw [if_pos h]
     intro hok
     have h2 := l6 _ _ hok
     have h1 := i7 _ (up (m := 16) (M 16 (by decide)) hok)
     have q := mo s.i
     rw [av] at h1
     obtain ⟨b1, b2, b3⟩ := mul_lev h
     have e := fun y : Ex => pl_bin (a := a) (b := y) (L := 6) b1 b2 b3 (by decide)
     generalize pe tk f 7 .no s.adv = y at *
     have e' := e y.1
     generalize pe tk f 16 (trB (binT tk s mulL) a y.1) y.2 = r at *
     have h1' : cO tk (s.i + 1) + Ex.pl y.1 7 ≤ cO tk y.2.i := h1
     have h2' : cO tk y.2.i + Ex.pl r.1 6 ≤ cO tk r.2.i + Ex.pl (trB (binT tk s mulL) a y.1) 6 := h2
     have e'' : Ex.pl (trB (binT tk s mulL) a y.1) 6 = Ex.pl a 6 + Ex.pl y.1 7 := e'
     show cO tk s.i + Ex.pl r.1 6 ≤ cO tk r.2.i + Ex.pl a 6
     omega
    ·rw [if_neg h]
     intro hok
     exact Nat.le_refl _
/-! The bytes. -/
def c40 (l : List UInt8) : Nat := l.count 40
def c41 (l : List UInt8) : Nat := l.count 41
theorem allF_open (s : ByteArray) : ∀ (f a : Nat) (acc : List Tk), a ≤ s.size → ∀ l x e, allF s f a acc = (l, x, e) → e = 0 → l.countP opT ≤ acc.countP opT + c40 (s.data.toList.drop a) := by
 intro f
 induction f with
 | zero =>
  intro a acc ha l x e h he
  simp only [allF] at h
  injection h with h1 _
  subst h1; omega
 | succ f ih =>
  intro a acc ha l x e h he
  simp only [allF] at h
  have hs := skp_le ha
  by_cases h1 : skp s a = s.size
  ·rw [if_pos h1] at h
   injection h with h1 _
   subst h1; omega
  ·rw [if_neg h1] at h
   by_cases h2 : tokK s (skp s a) = 0
   ·rw [if_pos h2] at h
    injection h with _ h3
    injection h3 with _ h3
    omega
   ·rw [if_neg h2] at h
    have hb : skp s a < s.size := by omega
    have hle := tok_le hb
    have hn := tokN_pos h2
    have h3 := ih _ _ hle l x e h he
    rw [List.countP_append] at h3
    generalize skp s a = b at *
    generalize tokN s b = n at *
    have e1 : s.data.toList.drop b = (s.extract b (b + n)).data.toList ++ s.data.toList.drop (b + n) := by
     rw [ext_data, show b + n - b = n by omega, ← List.drop_drop, List.take_append_drop]
    have e2 : c40 (s.data.toList.drop b) = c40 (s.extract b (b + n)).data.toList + c40 (s.data.toList.drop (b + n)) := by
     unfold c40; rw [e1, List.count_append]
    have e3 : c40 (s.data.toList.drop b) ≤ c40 (s.data.toList.drop a) := by
     unfold c40
     rw [show b = a + (b - a) by omega, ← List.drop_drop]
     exact (List.drop_sublist _ _).count_le 40
    have e4 : [(⟨tokK s b, s.extract b (b + n), (b : Int)⟩ : Tk)].countP opT ≤ c40 (s.extract b (b + n)).data.toList := by
     rw [List.countP_singleton]
     split
     ·rename_i ho
      unfold opT at ho
      simp only [beq_iff_eq] at ho
      unfold c40; rw [ho]; decide
     ·omega
    omega
theorem allR_open (s : ByteArray) (h : (allR s).2.2 = 0) : (allR s).1.countP opT ≤ c40 s.data.toList := by
 unfold allR at h ⊢
 by_cases h8 : s.size ≤ 8000
 ·rw [if_pos h8] at h ⊢
  obtain ⟨R, hR⟩ : ∃ R, allF s (s.size + 1) 0 [] = R := ⟨_, rfl⟩
  rw [hR] at h ⊢
  have := allF_open s (s.size + 1) 0 [] (Nat.zero_le _) R.1 R.2.1 R.2.2 hR h
  rw [List.drop_zero] at this
  simpa using this
 ·rw [if_neg h8] at h; cases h
theorem parsed_open {s : ByteArray} {f : Ex} {x : Int} (h : prV s = (f, x, 0)) : Ex.pl f 0 ≤ c40 s.data.toList := by
 unfold prV at h
 by_cases h0 : (allR s).2.2 = 0
 ·rw [if_pos h0] at h
  by_cases h1 : finB (allR s).1 (prQ s).2 = true
  ·rw [if_pos h1] at h
   by_cases h2 : (prQ s).1.valid = true
   ·rw [if_pos h2] at h
    injection h with h3 _
    have hk := (pe_open (allR s).1 (10 * (allR s).1.length + 8)).1 0 ⟨0, true⟩ (by decide)
    unfold finB at h1
    simp only [Bool.and_eq_true, beq_iff_eq] at h1
    have hk' : cO (allR s).1 0 + Ex.pl (prQ s).1 0 ≤ cO (allR s).1 (prQ s).2.i := hk h1.1
    rw [h1.2, h3] at hk'
    have := allR_open s h0
    unfold cO at hk'
    rw [List.take_length] at hk'
    omega
   ·rw [if_neg h2] at h; injection h with _ h3; injection h3 with _ h3; cases h3
  ·rw [if_neg h1] at h; injection h with _ h3; injection h3 with _ h3; cases h3
 ·rw [if_neg h0] at h; injection h with _ h3; injection h3 with _ h3; exact absurd h3 h0
theorem c40_app (a b : List UInt8) : c40 (a ++ b) = c40 a + c40 b := List.count_append
theorem c40_all {l : List UInt8} {p : UInt8 → Bool} (h : l.all p = true) (hp : p 40 = false) : c40 l = 0 := by
 unfold c40
 rw [List.count_eq_zero]
 intro hm
 rw [List.all_eq_true] at h
 rw [h 40 hm] at hp; cases hp
theorem lit_all {a b d : Int} (h : fdB a b d = true) : (fdT a b d).data.toList.all inn = true := by
 obtain ⟨x, t, e, h1, h2⟩ := lit_form h
 rw [e, List.all_cons, h2]
 unfold inn inw; rw [h1]; simp
theorem nam_all {s : ByteArray} (h : namB s = true) : s.data.toList.all inw = true := okL_all (okL_name h).1
theorem sgS_no (op : Int) : c40 (sgS op).data.toList = 0 := by
 unfold sgS
 repeat' split
 all_goals decide
def Suf (l : List UInt8) : Prop := ∀ k, c40 (l.drop k) ≤ c41 (l.drop k)
theorem suf_app {a b : List UInt8} (h : Suf a) (k : Suf b) : Suf (a ++ b) := fun n => by
 rw [List.drop_append]
 have h1 := h n
 have h2 := k (n - a.length)
 unfold c40 c41 at *
 rw [List.count_append, List.count_append]; omega
theorem suf_no {l : List UInt8} (h : c40 l = 0) : Suf l := fun n => by
 have : c40 (l.drop n) ≤ c40 l := (List.drop_sublist n l).count_le 40
 omega
theorem suf_par {l : List UInt8} (h : Suf l) : Suf (40 :: (l ++ [41])) := fun n => by
 cases n with
 | zero =>
  have := h 0
  rw [List.drop_zero] at *
  unfold c40 c41 at *
  rw [List.count_cons, List.count_cons, List.count_append, List.count_append]
  simp; omega
 | succ n =>
  rw [List.drop_succ_cons]
  exact suf_app h (suf_no (by decide)) n
theorem par_c40 (b : Bool) (x : ByteArray) : c40 (parS b x).data.toList = c40 x.data.toList + if b = true then 1 else 0 := by
 unfold parS
 cases b
 ·rfl
 ·rw [if_pos rfl, if_pos rfl, app_list, app_list, c40_app, c40_app, show c40 (⟨#[40]⟩ : ByteArray).data.toList = 1 by decide, show c40 (⟨#[41]⟩ : ByteArray).data.toList = 0 by decide]; omega
theorem par_suf (b : Bool) {x : ByteArray} (h : Suf x.data.toList) : Suf (parS b x).data.toList := by
 unfold parS
 cases b
 ·exact h
 ·rw [if_pos rfl, app_list, app_list, List.append_assoc]; exact suf_par h
theorem num_all {a : Int} (h0 : 1 ≤ a) (h1 : a ≤ 45) : (numS a).data.toList.all inn = true := by
 obtain ⟨m1, m2, -⟩ := num_small h0 h1
 rw [m1]; exact lit_all m2
theorem put_c40 (t : Ex) : t.form = true → c40 t.bare.data.toList = Ex.pn t ∧ Suf t.bare.data.toList := by
 induction t with
 | no => intro h; simp [Ex.form] at h
 | mk op a b d s n kid ih =>
  intro h
  obtain ⟨h1, h2⟩ := form_of h
  obtain ⟨o1, o2⟩ := op_of h1
  have hn := nod_ar h1
  have P : ∀ i, i < n → ∀ l : Int, c40 ((kid i).put l).data.toList = Ex.pl (kid i) l ∧ Suf ((kid i).put l).data.toList := fun i hi l => by
   obtain ⟨q1, q2⟩ := ih i (h2 i hi)
   refine ⟨?_, par_suf _ q2⟩
   unfold Ex.put Ex.pl
   rw [par_c40, q1]
   congr 1
   by_cases hd : levI (kid i).op < l
   ·rw [if_pos hd, if_pos (by simpa using hd)]
   ·rw [if_neg hd, if_neg (by simpa using hd)]
  have Z : ∀ l : List UInt8, c40 (⟨l.toArray⟩ : ByteArray).data.toList = c40 l := fun l => by rw [mk_list]
  have S0 : ∀ l : List UInt8, c40 l = 0 → Suf (⟨l.toArray⟩ : ByteArray).data.toList := fun l h => by rw [mk_list]; exact suf_no h
  rw [bare_mk, pn_mk]
  unfold ndS ndP
  by_cases e1 : op = 1
  ·rw [if_pos e1, if_pos e1]; subst e1
   have := c40_all (lit_all (nod_lit h1).1) (by decide)
   exact ⟨this, suf_no this⟩
  rw [if_neg e1, if_neg e1]
  by_cases e2 : op = 2
  ·rw [if_pos e2, if_pos e2]; subst e2
   have hs : namB s = true := by
    unfold nodB at h1
    simp at h1
    exact h1.2.1
   have := c40_all (nam_all hs) (by decide)
   exact ⟨this, suf_no this⟩
  rw [if_neg e2, if_neg e2]
  by_cases e3 : op = 3
  ·rw [if_pos e3, if_pos e3]; subst e3
   have hs : 1 ≤ a ∧ a ≤ 45 := by
    unfold nodB at h1
    simp at h1
    omega
   have hz := c40_all (num_all hs.1 hs.2) (by decide)
   refine ⟨?_, ?_⟩
   ·rw [app_list, app_list, c40_app, c40_app, hz]; decide
   ·rw [app_list, app_list, List.append_assoc, show (⟨#[98, 101, 115, 116, 40]⟩ : ByteArray).data.toList = [98, 101, 115, 116] ++ [40] from rfl, List.append_assoc]
    exact suf_app (suf_no (by decide)) (suf_par (suf_no hz))
  rw [if_neg e3, if_neg e3]
  by_cases e4 : op = 4
  ·rw [if_pos e4, if_pos e4]; subst e4
   obtain rfl : n = 1 := by simp [arI] at hn; omega
   obtain ⟨p1, p2⟩ := P 0 (by decide) 7
   refine ⟨?_, ?_⟩
   ·rw [app_list, c40_app, p1, show c40 (⟨#[45]⟩ : ByteArray).data.toList = 0 by decide]; (try dsimp only); omega
   ·rw [app_list]; exact suf_app (suf_no (by decide)) p2
  rw [if_neg e4, if_neg e4]
  by_cases e5 : op = 5
  ·rw [if_pos e5, if_pos e5]; subst e5
   obtain rfl : n = 1 := by simp [arI] at hn; omega
   obtain ⟨p1, p2⟩ := P 0 (by decide) 3
   refine ⟨?_, ?_⟩
   ·rw [app_list, c40_app, p1, show c40 (⟨#[110, 111, 116, 32]⟩ : ByteArray).data.toList = 0 by decide]; (try dsimp only); omega
   ·rw [app_list]; exact suf_app (suf_no (by decide)) p2
  rw [if_neg e5, if_neg e5]
  by_cases e6 : op = 6
  ·rw [if_pos e6, if_pos e6]; subst e6
   obtain rfl : n = 1 := by simp [arI] at hn; omega
   obtain ⟨p1, p2⟩ := P 0 (by decide) 0
   refine ⟨?_, ?_⟩
   ·rw [app_list, app_list, c40_app, c40_app, p1, show c40 (⟨#[102, 108, 111, 111, 114, 40]⟩ : ByteArray).data.toList = 1 by decide, show c40 (⟨#[41]⟩ : ByteArray).data.toList = 0 by decide]; (try dsimp only); omega
   ·rw [app_list, app_list, List.append_assoc, show (⟨#[102, 108, 111, 111, 114, 40]⟩ : ByteArray).data.toList = [102, 108, 111, 111, 114] ++ [40] from rfl, List.append_assoc]
    exact suf_app (suf_no (by decide)) (suf_par p2)
  rw [if_neg e6, if_neg e6]
  have mm : ∀ w : List UInt8, n = 2 → c40 w = 0 → c40 (((((⟨(w ++ [40]).toArray⟩ ++ (kid 0).put 0) ++ ⟨#[44, 32]⟩) ++ (kid 1).put 0) ++ ⟨#[41]⟩ : ByteArray)).data.toList = 1 + Ex.pl (kid 0) 0 + Ex.pl (kid 1) 0 ∧ Suf (((((⟨(w ++ [40]).toArray⟩ ++ (kid 0).put 0) ++ ⟨#[44, 32]⟩) ++ (kid 1).put 0) ++ ⟨#[41]⟩ : ByteArray)).data.toList := fun w hn2 hw => by
   obtain ⟨p1, p2⟩ := P 0 (by omega) 0
   obtain ⟨q1, q2⟩ := P 1 (by omega) 0
   refine ⟨?_, ?_⟩
   ·rw [app_list, app_list, app_list, app_list, c40_app, c40_app, c40_app, c40_app, p1, q1, Z, c40_app, hw, show c40 [40] = 1 by decide, show c40 (⟨#[41]⟩ : ByteArray).data.toList = 0 by decide, show c40 (⟨#[44, 32]⟩ : ByteArray).data.toList = 0 by decide]; (try dsimp only); omega
   ·rw [app_list, app_list, app_list, app_list, mk_list]
    simp only [List.append_assoc]
    have := suf_par (suf_app p2 (suf_app (a := (⟨#[44, 32]⟩ : ByteArray).data.toList) (suf_no (by decide)) q2))
    simp only [List.append_assoc, List.cons_append] at this
    exact suf_app (suf_no hw) this
  by_cases e19 : op = 19
  ·rw [if_pos e19, if_pos e19]; subst e19
   obtain rfl : n = 2 := by simp [arI] at hn; omega
   exact mm [109, 105, 110] rfl (by decide)
  rw [if_neg e19, if_neg e19]
  by_cases e20 : op = 20
  ·rw [if_pos e20, if_pos e20]; subst e20
   obtain rfl : n = 2 := by simp [arI] at hn; omega
   exact mm [109, 97, 120] rfl (by decide)
  rw [if_neg e20, if_neg e20]
  by_cases e21 : op = 21
  ·rw [if_pos e21, if_pos e21]; subst e21
   obtain rfl : n = 3 := by simp [arI] at hn; omega
   obtain ⟨p1, p2⟩ := P 0 (by decide) 0
   obtain ⟨q1, q2⟩ := P 1 (by decide) 0
   obtain ⟨r1, r2⟩ := P 2 (by decide) 0
   refine ⟨?_, ?_⟩
   ·rw [app_list, app_list, app_list, app_list, app_list, c40_app, c40_app, c40_app, c40_app, c40_app, p1, q1, r1, show c40 (⟨#[105, 102, 32]⟩ : ByteArray).data.toList = 0 by decide, show c40 (⟨#[32, 116, 104, 101, 110, 32]⟩ : ByteArray).data.toList = 0 by decide, show c40 (⟨#[32, 101, 108, 115, 101, 32]⟩ : ByteArray).data.toList = 0 by decide]; (try dsimp only); omega
   ·rw [app_list, app_list, app_list, app_list, app_list]
    exact suf_app (suf_app (suf_app (suf_app (suf_app (suf_no (by decide)) p2) (suf_no (by decide))) q2) (suf_no (by decide))) r2
  rw [if_neg e21, if_neg e21]
  obtain rfl : n = 2 := by
   unfold arI at hn
   rw [if_neg (by omega), if_neg (by omega), if_pos (by omega)] at hn
   omega
  obtain ⟨p1, p2⟩ := P 0 (by decide) (if levI op = 4 then 5 else levI op)
  obtain ⟨q1, q2⟩ := P 1 (by decide) (levI op + 1)
  have hsg := sgS_no op
  refine ⟨?_, ?_⟩
  ·rw [app_list, app_list, app_list, app_list, c40_app, c40_app, c40_app, c40_app, p1, q1, hsg, show c40 (⟨#[32]⟩ : ByteArray).data.toList = 0 by decide]; (try dsimp only); omega
  ·rw [app_list, app_list, app_list, app_list]
   exact suf_app (suf_app (suf_app (suf_app p2 (suf_no (by decide))) (suf_no hsg)) (suf_no (by decide))) q2
theorem put_open {t : Ex} (h : t.form = true) (l : Int) : c40 (t.put l).data.toList = Ex.pl t l ∧ Suf (t.put l).data.toList := by
 obtain ⟨q1, q2⟩ := put_c40 t h
 refine ⟨?_, par_suf _ q2⟩
 unfold Ex.put Ex.pl
 rw [par_c40, q1]
 congr 1
 by_cases hd : levI t.op < l
 ·rw [if_pos hd, if_pos (by simpa using hd)]
 ·rw [if_neg hd, if_neg (by simpa using hd)]
theorem same_pn (t : Ex) : t.form = true → ∀ u, t.same u = true → Ex.pn t = Ex.pn u := by
 intro hf u hs
 have hb := same_bare t hf u hs
 have hu : u.form = true := by rw [← (same_meas t u hs).2.2.1]; exact hf
 rw [← (put_c40 t hf).1, ← (put_c40 u hu).1, hb]
theorem tight {t f : Ex} {a b c : List UInt8} {u : ByteArray} {x : Int} (hv : t.valid = true) (ht : (t.put 0).data.toList = a ++ 40 :: (b ++ 41 :: c)) (hu : u.data.toList = a ++ (b ++ c)) (hp : prV u = (f, x, 0)) : t.same f = false := by
 cases hs : t.same f
 ·rfl
 ·exfalso
  have hF := (valid_of hv).1
  have h1 := parsed_open hp
  have h2 := (put_open hF 0).1
  have h3 := same_pn t hF f hs
  have h4 : Ex.pl t 0 = Ex.pl f 0 := by unfold Ex.pl; rw [h3, (same_meas t f hs).2.2.2]
  rw [ht, c40_app] at h2
  rw [hu, c40_app, c40_app] at h1
  have h5 : c40 (40 :: (b ++ 41 :: c)) = 1 + (c40 b + c40 c) := by
   unfold c40; rw [List.count_cons, List.count_append, List.count_cons]; simp; omega
  omega
end Go.Proofs.YtkghmghjgikihaaGreatDoor.Tree

/- Bundle of texts: each says at its head what it proves; no conditions but those printed. -/
import Derived.Test.YtkghmghjgikihaaGreatDoorFB19
import Derived.Test.YtkghmghjgikihaaGreatDoorFB10
import Derived.Test.YtkghmghjgikihaaGreatDoorFB6
/- Texts that fall into given tokens; the tokens of a tree's text. No program in sight; no conditions but those printed. -/
namespace Go.Proofs.YtkghmghjgikihaaGreatDoor.Tree
open Str Frac Tok Txt
set_option linter.unusedVariables false
def Stop (p : UInt8 → Bool) (l : List UInt8) : Prop := ∀ c m, l = c :: m → p c = false
theorem dgb_bd {c : UInt8} (h : dgb c = true) : 48 ≤ (c.toNat : Int) ∧ (c.toNat : Int) ≤ 57 := by unfold dgb at h; simpa using h
theorem dgb_no {c : UInt8} (h : ¬ (48 ≤ (c.toNat : Int) ∧ (c.toNat : Int) ≤ 57)) : dgb c = false := by
 cases hx : dgb c
 ·rfl
 ·exact absurd (dgb_bd hx) h
def Aft (l : List UInt8) : Prop := ∀ c m, l = c :: m → c = 32 ∨ c = 41 ∨ c = 44 ∨ c = 59 ∨ c = 10
theorem Aft.w {l : List UInt8} (h : Aft l) : Stop inw l := fun c m e => by rcases h c m e with rfl | rfl | rfl | rfl | rfl <;> decide
theorem Aft.n {l : List UInt8} (h : Aft l) : Stop inn l := fun c m e => by rcases h c m e with rfl | rfl | rfl | rfl | rfl <;> decide
/-! The tokens of a tree's text. -/
def kMin : List UInt8 := [109, 105, 110]
def kMax : List UInt8 := [109, 97, 120]
def sgK (op : Int) : Int := if op = 17 ∨ op = 18 then 1 else 4
def parT (b : Bool) (x : List (Int × List UInt8)) : List (Int × List UInt8) := if b = true then (4, [40]) :: (x ++ [(4, [41])]) else x
def ndT (op a b d : Int) (s : ByteArray) (p : Nat → Int → List (Int × List UInt8)) : List (Int × List UInt8) :=
 if op = 1 then [(2, (fdT a b d).data.toList)] else if op = 2 then [(1, s.data.toList)] else if op = 3 then [(1, kBest), (4, [40]), (2, (numS a).data.toList), (4, [41])]
 else if op = 4 then (4, [45]) :: p 0 7 else if op = 5 then (1, kNot) :: p 0 3
 else if op = 6 then (1, kFloor) :: (4, [40]) :: (p 0 0 ++ [(4, [41])])
 else if op = 19 then (1, kMin) :: (4, [40]) :: (p 0 0 ++ (4, [44]) :: (p 1 0 ++ [(4, [41])]))
 else if op = 20 then (1, kMax) :: (4, [40]) :: (p 0 0 ++ (4, [44]) :: (p 1 0 ++ [(4, [41])]))
 else if op = 21 then (1, kIf) :: (p 0 0 ++ (1, kThen) :: (p 1 0 ++ (1, kElse) :: p 2 0))
 else p 0 (if levI op = 4 then 5 else levI op) ++ (sgK op, (sgS op).data.toList) :: p 1 (levI op + 1)
def Ex.tb : Ex → List (Int × List UInt8)
 | .no => []
 | .mk op a b d s n kid => ndT op a b d s fun i l => parT (decide (levI (kid i).op < l)) (kid i).tb
def Ex.tp (t : Ex) (l : Int) : List (Int × List UInt8) := parT (decide (levI t.op < l)) t.tb
end Go.Proofs.YtkghmghjgikihaaGreatDoor.Tree

/- The parser of expressions gives the tree back whose tokens it reads. No program in sight; no conditions but those printed. -/
namespace Go.Proofs.YtkghmghjgikihaaGreatDoor.Tree
open Str Frac Tok Txt
set_option linter.unusedVariables false
/-! What stands at the head of a row of tokens. -/
def hdB (x : List UInt8) : List (Int × List UInt8) → Bool
 | (K, y) :: _ => (K == 1 || K == 4) && y == x
 | [] => false
def hdO : List (List UInt8 × Int) → List (Int × List UInt8) → Bool
 | [], _ => false
 | p :: l, ts => if hdB p.1 ts = true then true else hdO l ts
structure Fol (L : Int) (ts : List (Int × List UInt8)) : Prop where
 or : L ≤ 1 → hdB kOr ts = false
 and : L ≤ 2 → hdB kAnd ts = false
 rel : L ≤ 4 → hdO relL ts = false
 sum : L ≤ 5 → hdO sumL ts = false
 mul : L ≤ 6 → hdO mulL ts = false
theorem Fol.mono {L M : Int} {ts : List (Int × List UInt8)} (h : Fol L ts) (hl : L ≤ M) : Fol M ts := ⟨fun k => h.or (by omega), fun k => h.and (by omega), fun k => h.rel (by omega), fun k => h.sum (by omega), fun k => h.mul (by omega)⟩
theorem lev_vals : levI 7 = 5 ∧ levI 8 = 5 ∧ levI 9 = 6 ∧ levI 10 = 6 ∧ levI 11 = 4 ∧ levI 12 = 4 ∧ levI 13 = 4 ∧ levI 14 = 4 ∧ levI 15 = 4 ∧ levI 16 = 4 ∧ levI 17 = 2 ∧ levI 18 = 1 := by decide
/-! The parser with enough fuel. -/
def PE (tk : List Tk) (m : Nat) (a : Ex) (s : Pt) (r : Ex × Pt) : Prop := ∃ f0, ∀ f, f0 ≤ f → pe tk f m a s = r
theorem PE.step {tk : List Tk} {m : Nat} {a : Ex} {s : Pt} {r : Ex × Pt} (f0 : Nat) (h : ∀ f, f0 ≤ f → pe tk (f + 1) m a s = r) : PE tk m a s r := ⟨f0 + 1, fun f hf => by
 obtain ⟨g, rfl⟩ : ∃ g, f = g + 1 := ⟨f - 1, by omega⟩
 exact h g (by omega)⟩
theorem PE.m1 {tk : List Tk} {a x : Ex} {s t : Pt} {r : Ex × Pt} (h : PE tk 2 .no s (x, t)) (h1 : PE tk 11 x t r) : PE tk 1 a s r := by
 obtain ⟨f1, e1⟩ := h; obtain ⟨f2, e2⟩ := h1
 exact PE.step (f1 + f2) (fun f hf => by rw [pe_1, e1 f (by omega), e2 f (by omega)])
theorem PE.m2 {tk : List Tk} {a x : Ex} {s t : Pt} {r : Ex × Pt} (h : PE tk 3 .no s (x, t)) (h1 : PE tk 12 x t r) : PE tk 2 a s r := by
 obtain ⟨f1, e1⟩ := h; obtain ⟨f2, e2⟩ := h1
 exact PE.step (f1 + f2) (fun f hf => by rw [pe_2, e1 f (by omega), e2 f (by omega)])
theorem PE.m5 {tk : List Tk} {a x : Ex} {s t : Pt} {r : Ex × Pt} (h : PE tk 6 .no s (x, t)) (h1 : PE tk 15 x t r) : PE tk 5 a s r := by
 obtain ⟨f1, e1⟩ := h; obtain ⟨f2, e2⟩ := h1
 exact PE.step (f1 + f2) (fun f hf => by rw [pe_5, e1 f (by omega), e2 f (by omega)])
theorem PE.m6 {tk : List Tk} {a x : Ex} {s t : Pt} {r : Ex × Pt} (h : PE tk 7 .no s (x, t)) (h1 : PE tk 16 x t r) : PE tk 6 a s r := by
 obtain ⟨f1, e1⟩ := h; obtain ⟨f2, e2⟩ := h1
 exact PE.step (f1 + f2) (fun f hf => by rw [pe_6, e1 f (by omega), e2 f (by omega)])
theorem lev_bin {op : Int} (h0 : 7 ≤ op) (h1 : op ≤ 18) : 1 ≤ levI op ∧ levI op ≤ 6 ∧ ¬ levI op = 3 := by
 obtain ⟨v7, v8, v9, v10, v11, v12, v13, v14, v15, v16, v17, v18⟩ := lev_vals
 rcases (show op = 7 ∨ op = 8 ∨ op = 9 ∨ op = 10 ∨ op = 11 ∨ op = 12 ∨ op = 13 ∨ op = 14 ∨ op = 15 ∨ op = 16 ∨ op = 17 ∨ op = 18 by omega) with rfl | rfl | rfl | rfl | rfl | rfl | rfl | rfl | rfl | rfl | rfl | rfl <;> omega
end Go.Proofs.YtkghmghjgikihaaGreatDoor.Tree

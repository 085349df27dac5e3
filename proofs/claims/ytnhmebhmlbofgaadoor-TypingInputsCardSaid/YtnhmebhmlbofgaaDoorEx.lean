/- Trees of expressions as plain data: what they are, how deep and large, which are valid, their dimensions. No program in sight. -/
import Derived.Test.YtnhmebhmlbofgaaDoorShrt
namespace Go.Proofs.YtnhmebhmlbofgaaDoor.Tree
open Str Frac Tok Txt
set_option linter.unusedVariables false

/-- A tree: none, or: the operation, the value's two numbers, the dimension, the name, how many operands, the operands. -/
inductive Ex where
  | no
  | mk (op a b d : Int) (s : ByteArray) (n : Nat) (kid : Nat → Ex)

def Ex.op : Ex → Int
  | .no => 0
  | .mk op _ _ _ _ _ _ => op
def Ex.va : Ex → Int
  | .no => 0
  | .mk _ a _ _ _ _ _ => a
def Ex.vb : Ex → Int
  | .no => 0
  | .mk _ _ b _ _ _ _ => b
def Ex.dm : Ex → Int
  | .no => 0
  | .mk _ _ _ d _ _ _ => d
def Ex.nm : Ex → ByteArray
  | .no => ⟨#[]⟩
  | .mk _ _ _ _ s _ _ => s
def Ex.cnt : Ex → Nat
  | .no => 0
  | .mk _ _ _ _ _ n _ => n

def mxK (f : Nat → Int) : Nat → Int
  | 0 => 0
  | k + 1 => max (mxK f k) (f k)
def smK (f : Nat → Int) : Nat → Int
  | 0 => 0
  | k + 1 => smK f k + f k
def alK (f : Nat → Bool) : Nat → Bool
  | 0 => true
  | k + 1 => alK f k && f k
def erK (f : Nat → Int) : Nat → Int
  | 0 => 0
  | k + 1 => if erK f k = 0 then f k else erK f k
theorem alK_lt {f : Nat → Bool} {n : Nat} (h : alK f n = true) : ∀ i, i < n → f i = true := by
  induction n with
  | zero => intro i hi; omega
  | succ n ih =>
    simp only [alK, Bool.and_eq_true] at h
    intro i hi
    by_cases e : i = n
    · subst e; exact h.2
    · exact ih h.1 i (by omega)
theorem alK_of {f : Nat → Bool} {n : Nat} (h : ∀ i, i < n → f i = true) : alK f n = true := by
  induction n with
  | zero => rfl
  | succ n ih => simp only [alK]; rw [ih (fun i hi => h i (by omega)), h n (by omega)]; rfl
theorem alK_no {f : Nat → Bool} {n k : Nat} (hk : k < n) (h : f k = false) : alK f n = false := by
  cases hA : alK f n
  · rfl
  · rw [alK_lt hA k hk] at h; cases h
theorem erK_zero {f : Nat → Int} {n : Nat} (h : erK f n = 0) : ∀ i, i < n → f i = 0 := by
  induction n with
  | zero => intro i hi; omega
  | succ n ih =>
    simp only [erK] at h
    split at h
    · rename_i h0
      intro i hi
      by_cases e : i = n
      · subst e; exact h
      · exact ih h0 i (by omega)
    · rename_i h0; exact absurd h h0
theorem erK_hit {f : Nat → Int} {n k : Nat} (hk : k < n) (h0 : erK f k = 0) (h : ¬ f k = 0) : erK f n = f k := by
  induction n with
  | zero => omega
  | succ n ih =>
    simp only [erK]
    by_cases e : k = n
    · subst e; rw [if_pos h0]
    · have := ih (by omega)
      rw [this, if_neg h]

def Ex.depth : Ex → Int
  | .no => 1
  | .mk _ _ _ _ _ n kid => mxK (fun i => (kid i).depth) n + 1
def Ex.size : Ex → Int
  | .no => 1
  | .mk _ _ _ _ _ n kid => smK (fun i => (kid i).size) n + 1

theorem mxK_bd {f : Nat → Int} {B : Int} {n : Nat} (h0 : 0 ≤ B) (h : ∀ i, i < n → 0 ≤ f i ∧ f i ≤ B) : 0 ≤ mxK f n ∧ mxK f n ≤ B := by
  induction n with
  | zero => simp [mxK]; omega
  | succ n ih =>
    have := ih (fun i hi => h i (by omega))
    have := h n (by omega)
    simp only [mxK]; omega
theorem smK_bd {f : Nat → Int} {n : Nat} (h : ∀ i, i < n → 0 ≤ f i) : 0 ≤ smK f n ∧ ∀ i, i < n → smK f i + f i ≤ smK f n := by
  induction n with
  | zero => exact ⟨by simp [smK], fun i hi => by omega⟩
  | succ n ih =>
    obtain ⟨h1, h2⟩ := ih (fun i hi => h i (by omega))
    have h3 := h n (by omega)
    refine ⟨by simp only [smK]; omega, fun i hi => ?_⟩
    by_cases e : i = n
    · subst e; simp only [smK]; omega
    · have := h2 i (by omega)
      simp only [smK]; omega
theorem size_pos (t : Ex) : 1 ≤ t.size := by
  induction t with
  | no => simp [Ex.size]
  | mk op a b d s n kid ih =>
    simp only [Ex.size]
    have := (smK_bd (f := fun i => (kid i).size) (n := n) (fun i _ => by have := ih i; omega)).1
    omega
theorem depth_bd (t : Ex) : 1 ≤ t.depth ∧ t.depth ≤ t.size := by
  induction t with
  | no => simp [Ex.depth, Ex.size]
  | mk op a b d s n kid ih =>
    simp only [Ex.depth, Ex.size]
    have hs := smK_bd (f := fun i => (kid i).size) (n := n) (fun i _ => by have := size_pos (kid i); omega)
    have hm := mxK_bd (f := fun i => (kid i).depth) (B := smK (fun i => (kid i).size) n) (n := n) hs.1 (fun i hi => by
      have h1 := ih i
      have h2 := hs.2 i hi
      have h3 := (smK_bd (f := fun i => (kid i).size) (n := i) (fun i _ => by have := size_pos (kid i); omega)).1
      omega)
    omega
theorem kid_size {op a b d : Int} {s : ByteArray} {n : Nat} {kid : Nat → Ex} {i : Nat} (hi : i < n) : (kid i).size < (Ex.mk op a b d s n kid).size ∧ smK (fun i => (kid i).size) i + (kid i).size < (Ex.mk op a b d s n kid).size ∧ 0 ≤ smK (fun i => (kid i).size) i := by
  have hs := smK_bd (f := fun i => (kid i).size) (n := n) (fun i _ => by have := size_pos (kid i); omega)
  have h2 := hs.2 i hi
  have h3 := (smK_bd (f := fun i => (kid i).size) (n := i) (fun i _ => by have := size_pos (kid i); omega)).1
  simp only [Ex.size]
  omega
theorem smK_le {f : Nat → Int} {n i : Nat} (h : ∀ i, 0 ≤ f i) (hi : i ≤ n) : smK f i ≤ smK f n := by
  induction n with
  | zero => rw [show i = 0 by omega]; omega
  | succ n ih =>
    by_cases e : i = n + 1
    · rw [e]; omega
    · have := ih (by omega)
      have := h n
      simp only [smK]; omega

/-! Words, keywords, names -/
def kws : List (List UInt8) := [[97, 110, 100], [98, 101, 115, 116], [98, 121], [99, 114, 101, 100, 105, 116], [99, 117, 114, 114, 101, 110, 99, 121], [101, 108, 115, 101], [102, 108, 111, 111, 114], [102, 114, 111, 109], [103, 114, 97, 110, 116], [105, 102], [105, 110, 100, 101, 120], [108, 101, 116], [108, 105, 109, 105, 116], [109, 97, 120], [109, 105, 110], [110, 111, 116], [111, 114], [112, 97, 121], [114, 101, 100, 117, 99, 101], [114, 111, 117, 110, 100], [115, 116, 97, 116, 117, 116, 101], [116, 104, 101, 110]]
def kwB (s : ByteArray) : Bool := kws.any fun l => s.data.toList == l
def namB (s : ByteArray) : Bool := wordB s && !kwB s

/-- How many operands an operation has; -1: there is no such operation. -/
def arI (op : Int) : Int := if 1 ≤ op ∧ op ≤ 3 then 0 else if 4 ≤ op ∧ op ≤ 6 then 1 else if 7 ≤ op ∧ op ≤ 20 then 2 else if op = 21 then 3 else -1
def emS (s : ByteArray) : Bool := s.data.toList == []
/-- Do the fields of a tree, its operands aside, have the form of its operation? -/
def nodB (op a b d : Int) (s : ByteArray) (n : Nat) : Bool := ((n : Int) == arI op) && (if op = 1 then fdB a b d && emS s else if op = 2 then namB s && (a == 0 && b == 0 && d == 0) else if op = 3 then (b == 1 && decide (1 ≤ a) && decide (a ≤ 45)) && (d == 0 && emS s) else (a == 0 && b == 0) && (d == 0 && emS s))
def Ex.form : Ex → Bool
  | .no => false
  | .mk op a b d s n kid => nodB op a b d s n && alK (fun i => (kid i).form) n
def Ex.valid (t : Ex) : Bool := decide (t.depth ≤ 10) && (decide (t.size ≤ 60) && t.form)

/-! Dimensions -/
def inN : List (List UInt8) := [[97, 103, 101], [121, 101, 97, 114], [99, 104, 105, 108, 100, 114, 101, 110]]
def inD : List (List UInt8) := [[105, 110, 115, 117, 114, 101, 100], [119, 111, 114, 107, 101, 100], [118, 111, 108, 117, 110, 116, 97, 114, 121], [115, 101, 114, 118, 105, 99, 101], [101, 113, 117, 97, 116, 101, 100], [114, 97, 105, 115, 105, 110, 103], [114, 101, 115, 105, 100, 101, 110, 116]]
def inM : List (List UInt8) := [[98, 97, 115, 101]]
/-- The dimension of an input; 0: there is none. -/
def inpI (s : ByteArray) : Int := if inN.any (fun l => s.data.toList == l) = true then 2 else if inD.any (fun l => s.data.toList == l) = true then 3 else if inM.any (fun l => s.data.toList == l) = true then 4 else 0
/-- The last binding of a name; 0: none. -/
def envI (nm : Nat → ByteArray) (dm : Nat → Int) (s : ByteArray) : Nat → Int
  | 0 => 0
  | k + 1 => if (nm k).data.toList = s.data.toList then dm k else envI nm dm s k
def lokI (nm : Nat → ByteArray) (dm : Nat → Int) (k : Nat) (s : ByteArray) : Int := if inpI s = 0 then envI nm dm s k else inpI s
/-- The dimension of an operation on operands with these dimensions; 0: not permitted. -/
def resI (op : Int) (d : Nat → Int) : Int :=
  if op = 5 then (if d 0 = 1 then 1 else 0)
  else if op = 4 ∨ op = 6 then (if d 0 = 1 then 0 else d 0)
  else if op = 7 ∨ op = 8 ∨ op = 19 ∨ op = 20 then (if d 0 = d 1 ∧ ¬ d 0 = 1 then d 0 else 0)
  else if op = 9 then (if d 0 = 2 ∧ ¬ d 1 = 1 then d 1 else if d 1 = 2 ∧ ¬ d 0 = 1 then d 0 else 0)
  else if op = 10 then (if d 1 = 2 ∧ ¬ d 0 = 1 then d 0 else if d 0 = d 1 ∧ ¬ d 0 = 1 then 2 else 0)
  else if op = 17 ∨ op = 18 then (if d 0 = 1 ∧ d 1 = 1 then 1 else 0)
  else if op = 21 then (if d 0 = 1 ∧ d 1 = d 2 then d 1 else 0)
  else (if d 0 = d 1 ∧ ¬ d 0 = 1 then 1 else 0)
/-- What an operation with operands of these dimensions and error numbers gives: the dimension, the error number. -/
def opD (op : Int) (n : Nat) (f : Nat → Int × Int) : Int × Int :=
  if erK (fun i => (f i).2) n = 0 then (if resI op (fun i => (f i).1) = 0 then (0, 6) else (resI op (fun i => (f i).1), 0)) else (0, erK (fun i => (f i).2) n)
def Ex.inf (nm : Nat → ByteArray) (dm : Nat → Int) (k : Nat) : Ex → Int × Int
  | .no => (0, 0)
  | .mk op a b d s n kid => if op = 1 then (d, 0) else if op = 3 then (4, 0) else if op = 2 then (if lokI nm dm k s = 0 then (0, 5) else (lokI nm dm k s, 0)) else opD op n (fun i => (kid i).inf nm dm k)

/-! Small facts for the walks. -/
theorem depth_mk (op a b d : Int) (s : ByteArray) (n : Nat) (kid : Nat → Ex) : (Ex.mk op a b d s n kid).depth = mxK (fun i => (kid i).depth) n + 1 := rfl
theorem size_mk (op a b d : Int) (s : ByteArray) (n : Nat) (kid : Nat → Ex) : (Ex.mk op a b d s n kid).size = smK (fun i => (kid i).size) n + 1 := rfl
theorem form_mk (op a b d : Int) (s : ByteArray) (n : Nat) (kid : Nat → Ex) : (Ex.mk op a b d s n kid).form = (nodB op a b d s n && alK (fun i => (kid i).form) n) := rfl
theorem nod_ar {op a b d : Int} {s : ByteArray} {n : Nat} (h : nodB op a b d s n = true) : (n : Int) = arI op := by
  unfold nodB at h
  simp only [Bool.and_eq_true, beq_iff_eq] at h
  exact h.1
theorem nod_lit {a b d : Int} {s : ByteArray} {n : Nat} (h : nodB 1 a b d s n = true) : fdB a b d = true ∧ emS s = true := by
  unfold nodB at h
  simp only [Bool.and_eq_true] at h
  simpa using h.2
theorem lokI_bd {nm : Nat → ByteArray} {dm : Nat → Int} {k : Nat} {s : ByteArray} (h : ∀ i, i < k → 1 ≤ dm i ∧ dm i ≤ 4) : 0 ≤ lokI nm dm k s ∧ lokI nm dm k s ≤ 4 := by
  have he : 0 ≤ envI nm dm s k ∧ envI nm dm s k ≤ 4 := by
    induction k with
    | zero => simp [envI]
    | succ k ih =>
      have := ih (fun i hi => h i (by omega))
      have := h k (by omega)
      simp only [envI]; split <;> omega
  unfold lokI
  split
  · exact he
  · unfold inpI; repeat' split
    all_goals omega
theorem resI_bd {op : Int} {d : Nat → Int} (h0 : 1 ≤ d 0 ∧ d 0 ≤ 4) (h1 : 1 ≤ d 1 ∧ d 1 ≤ 4) : 0 ≤ resI op d ∧ resI op d ≤ 4 := by
  unfold resI
  repeat' split
  all_goals omega

/-! Trees whose names all are of a kind; dimensions of a tree of that form. -/
def Ex.allNm (Q : ByteArray → Prop) : Ex → Prop
  | .no => True
  | .mk op _ _ _ s n kid => (op = 2 → Q s) ∧ ∀ i, i < n → (kid i).allNm Q
theorem inf_mk (nm : Nat → ByteArray) (dm : Nat → Int) (k : Nat) (op a b d : Int) (s : ByteArray) (n : Nat) (kid : Nat → Ex) : (Ex.mk op a b d s n kid).inf nm dm k = if op = 1 then (d, 0) else if op = 3 then (4, 0) else if op = 2 then (if lokI nm dm k s = 0 then (0, 5) else (lokI nm dm k s, 0)) else opD op n (fun i => (kid i).inf nm dm k) := rfl
theorem opD_er {op : Int} {n k : Nat} {f : Nat → Int × Int} (hk : k < n) (h0 : erK (fun i => (f i).2) k = 0) (h : ¬ (f k).2 = 0) : opD op n f = (0, (f k).2) := by
  unfold opD
  rw [erK_hit (f := fun i => (f i).2) hk h0 h, if_neg h]
theorem opD_ok {op : Int} {n : Nat} {f : Nat → Int × Int} (h0 : erK (fun i => (f i).2) n = 0) : opD op n f = (if resI op (fun i => (f i).1) = 0 then (0, 6) else (resI op (fun i => (f i).1), 0)) := by
  unfold opD; rw [if_pos h0]
theorem res_ty {op : Int} {n : Nat} {d : Nat → Int} (h4 : 4 ≤ op) (hn : (n : Int) = arI op) (hd : ∀ i, i < n → 1 ≤ d i ∧ d i ≤ 4) : 0 ≤ resI op d ∧ resI op d ≤ 4 := by
  unfold arI at hn
  by_cases h6 : op ≤ 6
  · have hn1 : n = 1 := by
      rw [if_neg (by omega), if_pos (by omega)] at hn; omega
    have := hd 0 (by omega)
    unfold resI
    rcases (show op = 4 ∨ op = 5 ∨ op = 6 by omega) with rfl | rfl | rfl <;> simp <;> split <;> omega
  · have hn2 : 2 ≤ n := by
      rw [if_neg (by omega), if_neg (by omega)] at hn
      split at hn
      · omega
      · split at hn <;> omega
    exact resI_bd (hd 0 (by omega)) (hd 1 (by omega))
theorem inf_bd {nm : Nat → ByteArray} {dm : Nat → Int} {k : Nat} (he : ∀ i, i < k → 1 ≤ dm i ∧ dm i ≤ 4) (t : Ex) : t.form = true → ((t.inf nm dm k).2 = 0 → 1 ≤ (t.inf nm dm k).1 ∧ (t.inf nm dm k).1 ≤ 4) ∧ 0 ≤ (t.inf nm dm k).2 ∧ (t.inf nm dm k).2 ≤ 6 ∧ 0 ≤ (t.inf nm dm k).1 ∧ (t.inf nm dm k).1 ≤ 4 := by
  induction t with
  | no => intro hf; simp [Ex.form] at hf
  | mk op a b d s n kid ih =>
    intro hf
    rw [form_mk, Bool.and_eq_true] at hf
    obtain ⟨hn, hk⟩ := hf
    have har := nod_ar hn
    rw [inf_mk]
    by_cases h1 : op = 1
    · subst h1
      have := (fdB_iff.1 (nod_lit hn).1).2
      rw [if_pos rfl]; simp; omega
    · rw [if_neg h1]
      by_cases h3 : op = 3
      · rw [if_pos h3]; simp
      · rw [if_neg h3]
        by_cases h2 : op = 2
        · rw [if_pos h2]
          have := lokI_bd (nm := nm) (s := s) he
          split <;> simp <;> omega
        · rw [if_neg h2]
          have h4 : 4 ≤ op := by
            unfold arI at har
            repeat' split at har
            all_goals omega
          have ih' := fun i (hi : i < n) => ih i (alK_lt hk i hi)
          unfold opD
          by_cases h0 : erK (fun i => ((kid i).inf nm dm k).2) n = 0
          · rw [if_pos h0]
            have hb := res_ty (d := fun i => ((kid i).inf nm dm k).1) h4 har (fun i hi => (ih' i hi).1 (erK_zero h0 i hi))
            dsimp only at hb ⊢
            generalize resI op (fun i => ((kid i).inf nm dm k).1) = r at hb ⊢
            split <;> simp <;> omega
          · rw [if_neg h0]
            have hb : ∀ m, m ≤ n → 0 ≤ erK (fun i => ((kid i).inf nm dm k).2) m ∧ erK (fun i => ((kid i).inf nm dm k).2) m ≤ 6 := by
              intro m
              induction m with
              | zero => intro _; simp [erK]
              | succ m ihm =>
                intro hm
                have := ihm (by omega)
                have := ih' m (by omega)
                simp only [erK]; split <;> omega
            have := hb n (Nat.le_refl _)
            simp; omega
theorem op_ge {op a b d : Int} {s : ByteArray} {n : Nat} (h : nodB op a b d s n = true) (h1 : ¬ op = 1) (h2 : ¬ op = 2) (h3 : ¬ op = 3) : 4 ≤ op ∧ op ≤ 21 ∧ 1 ≤ n ∧ n ≤ 3 := by
  have har := nod_ar h
  unfold arI at har
  repeat' split at har
  all_goals omega

end Go.Proofs.YtnhmebhmlbofgaaDoor.Tree

/- Plain facts on the bytes of a text: blanks, words, numbers, signs, decimal texts. No program in sight. -/
import Derived.Test.YtnhmebhmlbofgaaDoorStrPlain
namespace Go.Proofs.YtnhmebhmlbofgaaDoor.Tok
open Str

def low (c : UInt8) : Bool := decide (97 ≤ (c.toNat : Int)) && decide ((c.toNat : Int) ≤ 122)
def dgb (c : UInt8) : Bool := decide (48 ≤ (c.toNat : Int)) && decide ((c.toNat : Int) ≤ 57)
def inw (c : UInt8) : Bool := low c || (dgb c || ((c.toNat : Int) == 95))
def inn (c : UInt8) : Bool := inw c || ((c.toNat : Int) == 46)

theorem drop_cons (s : ByteArray) (k : Nat) (h : k < s.size) : s.data.toList.drop k = s[k] :: s.data.toList.drop (k + 1) := by
  rw [List.drop_eq_getElem_cons (by simpa using h)]; rfl
theorem drop_end (s : ByteArray) (k : Nat) (h : s.size ≤ k) : s.data.toList.drop k = [] :=
  List.drop_eq_nil_of_le (by simpa using h)
theorem drop_len (s : ByteArray) (k : Nat) : (s.data.toList.drop k).length = s.size - k := by
  rw [List.length_drop]; simp

/-- How many bytes are blanks or in comments (c: a comment has begun). -/
def skl : Bool → List UInt8 → Nat
  | _, [] => 0
  | c, x :: l => if (x.toNat : Int) = 10 then skl false l + 1 else if (x.toNat : Int) = 35 then skl true l + 1 else if c = false ∧ ¬ ((x.toNat : Int) = 9 ∨ (x.toNat : Int) = 13 ∨ (x.toNat : Int) = 32) then 0 else skl c l + 1
theorem skl_le (c : Bool) (l : List UInt8) : skl c l ≤ l.length := by
  induction l generalizing c with
  | nil => simp [skl]
  | cons x l ih =>
    have h0 := ih false
    have h1 := ih true
    have h2 := ih c
    simp only [skl, List.length_cons]
    split
    · omega
    · split
      · omega
      · split <;> omega
theorem skl_nil (c : Bool) : skl c [] = 0 := rfl
theorem skl_10 (c : Bool) {x : UInt8} (l : List UInt8) (h : (x.toNat : Int) = 10) : skl c (x :: l) = skl false l + 1 := by simp only [skl]; rw [if_pos h]
theorem skl_35 (c : Bool) {x : UInt8} (l : List UInt8) (h : (x.toNat : Int) = 35) : skl c (x :: l) = skl true l + 1 := by simp only [skl]; rw [if_neg (by omega), if_pos h]
theorem skl_in {x : UInt8} (l : List UInt8) (h : ¬ (x.toNat : Int) = 10) : skl true (x :: l) = skl true l + 1 := by
  simp only [skl]; rw [if_neg h]
  by_cases h3 : (x.toNat : Int) = 35
  · rw [if_pos h3]
  · rw [if_neg h3, if_neg (by simp)]
theorem skl_bl (c : Bool) {x : UInt8} (l : List UInt8) (h : (x.toNat : Int) = 9 ∨ (x.toNat : Int) = 13 ∨ (x.toNat : Int) = 32) : skl c (x :: l) = skl c l + 1 := by
  simp only [skl]; rw [if_neg (by omega), if_neg (by omega), if_neg (fun h' => h'.2 h)]
theorem skl_no {x : UInt8} (l : List UInt8) (h0 : ¬ (x.toNat : Int) = 10) (h1 : ¬ (x.toNat : Int) = 35) (h2 : ¬ ((x.toNat : Int) = 9 ∨ (x.toNat : Int) = 13 ∨ (x.toNat : Int) = 32)) : skl false (x :: l) = 0 := by
  simp only [skl]; rw [if_neg h0, if_neg h1, if_pos ⟨trivial, h2⟩]

/-- How many bytes at the head have a property. -/
def rn (p : UInt8 → Bool) : List UInt8 → Nat
  | [] => 0
  | x :: l => if p x = true then rn p l + 1 else 0
theorem rn_le (p : UInt8 → Bool) (l : List UInt8) : rn p l ≤ l.length := by
  induction l with
  | nil => simp [rn]
  | cons x l ih => simp only [rn, List.length_cons]; split <;> omega
theorem rn_nil (p : UInt8 → Bool) : rn p [] = 0 := rfl
theorem rn_yes {p : UInt8 → Bool} {x : UInt8} (l : List UInt8) (h : p x = true) : rn p (x :: l) = rn p l + 1 := by simp only [rn]; rw [if_pos h]
theorem rn_no {p : UInt8 → Bool} {x : UInt8} (l : List UInt8) (h : p x = false) : rn p (x :: l) = 0 := by simp only [rn]; rw [if_neg (by simp [h])]
theorem rn_all {p : UInt8 → Bool} {l : List UInt8} (h : l.all p = true) : rn p l = l.length := by
  induction l with
  | nil => rfl
  | cons x l ih => simp at h; rw [rn_yes _ h.1, ih (by simpa using h.2)]; rfl
theorem rn_take (p : UInt8 → Bool) (l : List UInt8) : (l.take (rn p l)).all p = true := by
  induction l with
  | nil => rfl
  | cons x l ih =>
    cases h : p x
    · rw [rn_no _ h]; rfl
    · rw [rn_yes _ h]; simp [h]; simpa using ih
theorem rn_app {p : UInt8 → Bool} {l m : List UInt8} (h : l.all p = true) : rn p (l ++ m) = l.length + rn p m := by
  induction l with
  | nil => simp
  | cons x l ih => simp at h; rw [List.cons_append, rn_yes _ h.1, ih (by simpa using h.2), List.length_cons]; omega

/-- The length of the sign at the head; 0: none. -/
def sg1 (c : UInt8) : Bool := (c.toNat : Int) == 60 || ((c.toNat : Int) == 62 || ((c.toNat : Int) == 61 || ((c.toNat : Int) == 43 || ((c.toNat : Int) == 45 || ((c.toNat : Int) == 42 || ((c.toNat : Int) == 47 || ((c.toNat : Int) == 40 || ((c.toNat : Int) == 41 || ((c.toNat : Int) == 123 || ((c.toNat : Int) == 125 || ((c.toNat : Int) == 44 || (c.toNat : Int) == 59)))))))))))
def sg2 (c d : UInt8) : Bool := ((c.toNat : Int) == 60 && (d.toNat : Int) == 61) || (((c.toNat : Int) == 62 && (d.toNat : Int) == 61) || ((c.toNat : Int) == 60 && (d.toNat : Int) == 62))
def sgl : List UInt8 → Nat
  | [] => 0
  | [c] => if sg1 c = true then 1 else 0
  | c :: d :: _ => if sg2 c d = true then 2 else if sg1 c = true then 1 else 0
theorem sgl_le (l : List UInt8) : sgl l ≤ l.length ∧ sgl l ≤ 2 := by
  match l with
  | [] => simp [sgl]
  | [c] => simp only [sgl, List.length_cons, List.length_nil]; split <;> omega
  | c :: d :: m => simp only [sgl, List.length_cons]; (split; omega; split <;> omega)

/-! Words -/
/-- A letter at the head, and word's bytes behind (true of no byte). -/
def okL : List UInt8 → Bool
  | [] => true
  | x :: l => low x && l.all inw
def wordB (s : ByteArray) : Bool := okL s.data.toList && (decide (1 ≤ s.size) && decide (s.size ≤ 12))
theorem low_inw {c : UInt8} (h : low c = true) : inw c = true := by unfold inw; rw [h]; rfl
theorem wordB_short {s : ByteArray} (h : s.size < 1) : wordB s = false := by unfold wordB; simp; omega
theorem wordB_long {s : ByteArray} (h : 12 < s.size) : wordB s = false := by unfold wordB; simp; omega
theorem wordB_ok {s : ByteArray} (h : okL s.data.toList = true) : wordB s = (decide (1 ≤ s.size) && decide (s.size ≤ 12)) := by unfold wordB; rw [h]; rfl
theorem list_head (s : ByteArray) (h : 0 < s.size) : s.data.toList = s[0] :: s.data.toList.drop 1 := by
  have := drop_cons s 0 h; rwa [List.drop_zero] at this
theorem wordB_head {s : ByteArray} (h : 0 < s.size) (hl : low s[0] = false) : wordB s = false := by
  unfold wordB; rw [list_head s h]; simp [okL, hl]
theorem okL_all {l : List UInt8} (h : okL l = true) : l.all inw = true := by
  cases l with
  | nil => rfl
  | cons x l => simp [okL] at h; simp [low_inw h.1]; exact h.2
theorem wordB_byte {s : ByteArray} {k : Nat} (h : k < s.size) (hi : inw s[k] = false) : wordB s = false := by
  cases hw : okL s.data.toList
  · unfold wordB; rw [hw]; rfl
  · have h1 := okL_all hw
    rw [List.all_eq_true] at h1
    have := h1 s[k] (by
      have hl : k < s.data.toList.length := by simpa using h
      exact List.getElem_mem hl)
    rw [hi] at this; cases this
theorem wordB_all {s : ByteArray} (h : 0 < s.size) (h12 : s.size ≤ 12) (hl : low s[0] = true) (ha : s.data.toList.all inw = true) : wordB s = true := by
  have hok : okL s.data.toList = true := by
    rw [list_head s h] at ha ⊢
    simp only [List.all_cons, Bool.and_eq_true] at ha
    simp only [okL, hl, ha.2]; rfl
  rw [wordB_ok hok]; simp; omega
theorem okL_snoc (l : List UInt8) (c : UInt8) (h : l ≠ []) : okL (l ++ [c]) = (okL l && inw c) := by
  cases l with
  | nil => exact absurd rfl h
  | cons x l => simp [okL, Bool.and_assoc]
theorem take_len (s : ByteArray) (k : Nat) (h : k ≤ s.size) : (s.data.toList.take k).length = k := by
  rw [List.length_take]; have : s.data.toList.length = s.size := by simp
  omega
theorem okL_step {s : ByteArray} {k : Nat} (h : k < s.size) (hA : okL (s.data.toList.take k) = true) (hi : inw s[k] = true) (h0 : 0 < k) : okL (s.data.toList.take (k + 1)) = true := by
  rw [take_snoc s k h, okL_snoc _ _ (by intro e; have h2 := take_len s k (by omega); rw [e] at h2; simp at h2; omega), hA, hi]; rfl
theorem okL_low {s : ByteArray} {k : Nat} (h : k < s.size) (hA : okL (s.data.toList.take k) = true) (hl : low s[k] = true) : okL (s.data.toList.take (k + 1)) = true := by
  by_cases h0 : 0 < k
  · exact okL_step h hA (low_inw hl) h0
  · obtain rfl : k = 0 := by omega
    rw [take_snoc s 0 h]; simp [okL, hl]
/-- Where the next token begins. -/
def skp (s : ByteArray) (a : Nat) : Nat := a + skl false (s.data.toList.drop a)
theorem skp_le {s : ByteArray} {a : Nat} (h : a ≤ s.size) : skp s a ≤ s.size ∧ a ≤ skp s a := by
  have := skl_le false (s.data.toList.drop a)
  rw [drop_len] at this
  unfold skp; omega

/-! Decimal texts -/
/-- The dimension that the last byte says, and the text without it. -/
def sufD (l : List UInt8) : Int := match l.getLast? with
  | none => 2
  | some c => if (c.toNat : Int) = 100 then 3 else if (c.toNat : Int) = 109 then 4 else 2
def bare (l : List UInt8) : List UInt8 := if sufD l = 2 then l else l.take (l.length - 1)
/-- What stands ahead of the first point; is there one; what stands behind it. -/
def ahd : List UInt8 → List UInt8
  | [] => []
  | x :: l => if (x.toNat : Int) = 46 then [] else x :: ahd l
def pnt : List UInt8 → Bool
  | [] => false
  | x :: l => (x.toNat : Int) == 46 || pnt l
def bhd : List UInt8 → List UInt8
  | [] => []
  | x :: l => if (x.toNat : Int) = 46 then l else bhd l
theorem ahd_len (l : List UInt8) : (ahd l).length ≤ l.length := by
  induction l with
  | nil => simp [ahd]
  | cons x l ih => simp only [ahd]; split <;> simp <;> omega
theorem bhd_len (l : List UInt8) : (ahd l).length + (bhd l).length ≤ l.length := by
  induction l with
  | nil => simp [ahd, bhd]
  | cons x l ih => simp only [ahd, bhd]; split <;> simp <;> omega
theorem bhd_no {l : List UInt8} (h : pnt l = false) : bhd l = [] ∧ ahd l = l := by
  induction l with
  | nil => exact ⟨rfl, rfl⟩
  | cons x l ih =>
    simp [pnt] at h
    have := ih h.2
    simp only [ahd, bhd]; rw [if_neg h.1, if_neg h.1, this.1, this.2]; exact ⟨rfl, rfl⟩
theorem pnt_split {l : List UInt8} (h : pnt l = true) : l = ahd l ++ 46 :: bhd l := by
  induction l with
  | nil => simp [pnt] at h
  | cons x l ih =>
    by_cases h1 : (x.toNat : Int) = 46
    · simp only [ahd, bhd]; rw [if_pos h1, if_pos h1]
      have : x = 46 := UInt8.toNat_inj.1 (by show x.toNat = 46; omega)
      rw [this]; rfl
    · simp [pnt, h1] at h
      simp only [ahd, bhd]; rw [if_neg h1, if_neg h1, List.cons_append, ← ih h]
def hd0 (l : List UInt8) : Bool := match l with
  | [] => false
  | x :: _ => (x.toNat : Int) == 48
/-- Has the bare text l the form of a number? -/
def lenB (l : List UInt8) : Bool := decide (1 ≤ (ahd l).length) && (decide ((ahd l).length ≤ 9) && (!(decide (2 ≤ (ahd l).length) && hd0 (ahd l)) && (!pnt l || (decide (1 ≤ (bhd l).length) && decide ((bhd l).length ≤ 4)))))
def frmB (l : List UInt8) : Bool := lenB l && (allD (ahd l) && allD (bhd l))
/-- Its digits' value, and the power of ten below. -/
def digN (l : List UInt8) : Int := val (ahd l) * ((10 ^ (bhd l).length : Nat) : Int) + val (bhd l)
def digD (l : List UInt8) : Int := ((10 ^ (bhd l).length : Nat) : Int)

theorem len_facts {l : List UInt8} (h : lenB l = true) : 1 ≤ (ahd l).length ∧ (ahd l).length ≤ 9 ∧ (bhd l).length ≤ 4 := by
  unfold lenB at h
  simp at h
  refine ⟨h.1, h.2.1, ?_⟩
  rcases h.2.2.2 with h4 | h4
  · rw [(bhd_no h4).1]; simp
  · exact h4.2

theorem dig_bd {l : List UInt8} (h : frmB l = true) : 0 ≤ digN l ∧ digN l < 10000000000000 ∧ 1 ≤ digD l ∧ digD l ≤ 10000 := by
  unfold frmB at h
  simp only [Bool.and_eq_true] at h
  obtain ⟨h1, h2, h3⟩ := h
  obtain ⟨l1, l2, l3⟩ := len_facts h1
  obtain ⟨v0, v1⟩ := val_bd _ h2
  obtain ⟨u0, u1⟩ := val_bd _ h3
  have p9 : ((10 ^ (ahd l).length : Nat) : Int) ≤ 1000000000 := by
    have := Nat.pow_le_pow_right (n := 10) (by decide) l2
    omega
  have b0 : 1 ≤ 10 ^ (bhd l).length := Nat.one_le_pow _ _ (by decide)
  have b4 : 10 ^ (bhd l).length ≤ 10000 := by
    have := Nat.pow_le_pow_right (n := 10) (by decide) l3
    omega
  unfold digN digD
  generalize 10 ^ (bhd l).length = t at *
  have m1 : val (ahd l) * (t : Int) ≤ 999999999 * t := Int.mul_le_mul_of_nonneg_right (by omega) (by omega)
  have m0 : 0 ≤ val (ahd l) * (t : Int) := Int.mul_nonneg v0 (by omega)
  refine ⟨by omega, by omega, by omega, by omega⟩

end Go.Proofs.YtnhmebhmlbofgaaDoor.Tok

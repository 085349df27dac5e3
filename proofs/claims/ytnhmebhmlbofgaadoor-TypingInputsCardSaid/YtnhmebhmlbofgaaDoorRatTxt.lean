/- Plain facts on the texts of fractions. No program in sight. -/
import Derived.Test.YtnhmebhmlbofgaaDoorStrPlain
import Derived.Test.YtnhmebhmlbofgaaDoorRatPlain
import Derived.Test.YtnhmebhmlbofgaaDoorTokDec
import Derived.Lib.ItoaMem
import Derived.Lib.ItoaNum
namespace Go.Proofs.YtnhmebhmlbofgaaDoor.Txt
open Str Frac Tok

theorem dl_zero_one (f m : Nat) (h : 0 < m) : dl f m 0 = dl f m 1 := by
  cases f with
  | zero => rfl
  | succ f => rw [dl_step f m 0 (.inl h), dl_step f m 1 (.inl h)]
theorem dec_dl (f u : Nat) (h : u < 10 ^ (f + 1)) : Lib.decDigits u = dl (f + 1) u 1 := by
  induction f generalizing u with
  | zero =>
    rw [Lib.decDigits, dif_pos (by omega), dl_step 0 u 1 (.inr (by decide)), show u % 10 = u by omega]; rfl
  | succ f ih =>
    rw [Lib.decDigits, dl_step (f + 1) u 1 (.inr (by decide))]
    by_cases h10 : u < 10
    · rw [dif_pos h10, show u / 10 = 0 by omega, show 1 - 1 = 0 from rfl, dl_stop, show u % 10 = u by omega]; rfl
    · rw [dif_neg h10, ih (u / 10) (by rw [Nat.pow_succ] at h; omega), show 1 - 1 = 0 from rfl, dl_zero_one _ _ (by omega)]
theorem dec_dl40 (u : Nat) (h : u ≤ 1000000000000000000) : Lib.decDigits u = dl 40 u 1 :=
  dec_dl 39 u (Nat.lt_of_le_of_lt h (by decide))

/-- The text of a number, and of a fraction. -/
def numL (n : Int) : List UInt8 := if n < 0 then 45 :: dl 40 n.natAbs 1 else dl 40 n.natAbs 1
theorem itoa_numL (n : Int) (h0 : -1000000000000000000 ≤ n) (h1 : n ≤ 1000000000000000000) : Lib.itoa n = numL n := by
  unfold Lib.itoa numL
  split
  · rw [dec_dl40 _ (by omega)]
  · rw [dec_dl40 _ (by omega)]
    congr 1; omega
def numS (n : Int) : ByteArray := ⟨(numL n).toArray⟩
def fmtL (n d : Int) : List UInt8 := if d = 1 then numL n else numL n ++ 47 :: numL d
def fmtS (n d : Int) : ByteArray := if validB n d = true then ⟨(fmtL n d).toArray⟩ else ⟨#[]⟩
theorem fmt_no {n d : Int} (h : validB n d = false) : fmtS n d = ⟨#[]⟩ := by unfold fmtS; rw [if_neg (by simp [h])]
theorem fmt_1 {n d : Int} (h : validB n d = true) (h1 : d = 1) : fmtS n d = numS n := by unfold fmtS fmtL numS; rw [if_pos h, if_pos h1]
theorem fmt_2 {n d : Int} (h : validB n d = true) (h1 : ¬ d = 1) : fmtS n d = numS n ++ (⟨#[47]⟩ ++ numS d) := by
  unfold fmtS fmtL numS; rw [if_pos h, if_neg h1]; apply ba_ext; simp

theorem numL_digits (n : Int) : ∀ c ∈ numL n, (c.toNat : Int) = 45 ∨ (48 ≤ (c.toNat : Int) ∧ (c.toNat : Int) ≤ 57) := by
  have hd : ∀ c ∈ dl 40 n.natAbs 1, (48 ≤ (c.toNat : Int) ∧ (c.toNat : Int) ≤ 57) := fun c hc => by
    have := allD_dl 40 n.natAbs 1
    unfold allD at this
    rw [List.all_eq_true] at this
    have := this c hc
    simpa using this
  intro c hc
  unfold numL at hc
  split at hc
  · rcases List.mem_cons.1 hc with rfl | h
    · exact .inl rfl
    · exact .inr (hd c h)
  · exact .inr (hd c hc)
theorem numL_len (n : Int) : (numL n).length ≤ 41 := by
  unfold numL
  have := dl_length 40 n.natAbs 1
  split
  · simp; omega
  · omega
theorem numS_size (n : Int) : (numS n).size ≤ 41 := by
  rw [← size_list, numS, mk_list]; exact numL_len n
theorem fmtS_size (n d : Int) : (fmtS n d).size ≤ 83 := by
  have a := numL_len n
  have b := numL_len d
  rw [← size_list]
  unfold fmtS fmtL
  split
  · split
    · rw [mk_list]; omega
    · rw [mk_list]; simp; omega
  · simp

/-! Cutting at a slash -/
def ahs : List UInt8 → List UInt8
  | [] => []
  | x :: l => if (x.toNat : Int) = 47 then [] else x :: ahs l
def pns : List UInt8 → Bool
  | [] => false
  | x :: l => (x.toNat : Int) == 47 || pns l
def bhs : List UInt8 → List UInt8
  | [] => []
  | x :: l => if (x.toNat : Int) = 47 then l else bhs l
theorem ahs_len (l : List UInt8) : (ahs l).length + (bhs l).length ≤ l.length := by
  induction l with
  | nil => simp [ahs, bhs]
  | cons x l ih => simp only [ahs, bhs]; split <;> simp <;> omega
theorem bhs_no {l : List UInt8} (h : pns l = false) : bhs l = [] ∧ ahs l = l := by
  induction l with
  | nil => exact ⟨rfl, rfl⟩
  | cons x l ih =>
    simp [pns] at h
    have := ih h.2
    simp only [ahs, bhs]; rw [if_neg h.1, if_neg h.1, this.1, this.2]; exact ⟨rfl, rfl⟩
theorem pns_split {l : List UInt8} (h : pns l = true) : l = ahs l ++ 47 :: bhs l := by
  induction l with
  | nil => simp [pns] at h
  | cons x l ih =>
    by_cases h1 : (x.toNat : Int) = 47
    · simp only [ahs, bhs]; rw [if_pos h1, if_pos h1]
      have : x = 47 := UInt8.toNat_inj.1 (by show x.toNat = 47; omega)
      rw [this]; rfl
    · simp [pns, h1] at h
      simp only [ahs, bhs]; rw [if_neg h1, if_neg h1, List.cons_append, ← ih h]
theorem cut_join {a b : List UInt8} (h : ∀ c ∈ a, ¬ (c.toNat : Int) = 47) : pns (a ++ 47 :: b) = true ∧ ahs (a ++ 47 :: b) = a ∧ bhs (a ++ 47 :: b) = b := by
  induction a with
  | nil => exact ⟨rfl, rfl, rfl⟩
  | cons x a ih =>
    obtain ⟨h1, h2, h3⟩ := ih (fun c hc => h c (List.mem_cons_of_mem _ hc))
    have hx := h x List.mem_cons_self
    refine ⟨by simp [pns, h1], ?_, ?_⟩
    · rw [List.cons_append, ahs, if_neg hx, h2]
    · rw [List.cons_append, bhs, if_neg hx, h3]
theorem cut_none {a : List UInt8} (h : ∀ c ∈ a, ¬ (c.toNat : Int) = 47) : pns a = false := by
  induction a with
  | nil => rfl
  | cons x a ih =>
    have hx := h x List.mem_cons_self
    simp [pns, hx, ih (fun c hc => h c (List.mem_cons_of_mem _ hc))]
theorem numL_47 (n : Int) : ∀ c ∈ numL n, ¬ (c.toNat : Int) = 47 := fun c hc => by
  rcases numL_digits n c hc with h | h <;> omega
theorem idx_pns (l : List UInt8) : (pns l = false ∧ Lib.indexByte l 47 = -1) ∨ (pns l = true ∧ Lib.indexByte l 47 = ((ahs l).length : Int) ∧ (ahs l).length < l.length) := by
  induction l with
  | nil => exact .inl ⟨rfl, rfl⟩
  | cons x l ih =>
    by_cases h : (x.toNat : Int) = 47
    · have e : x = 47 := UInt8.toNat_inj.1 (by show x.toNat = 47; omega)
      subst e
      exact .inr ⟨by simp [pns], by simp [Lib.indexByte, ahs], by simp [ahs]⟩
    · have e : (x == 47) = false := by
        rw [beq_eq_false_iff_ne]; intro e; subst e; exact h rfl
      rcases ih with ⟨p, i⟩ | ⟨p, i, hl⟩
      · left; refine ⟨by simp [pns, p, h], ?_⟩
        simp only [Lib.indexByte, e, i]; rfl
      · right; refine ⟨by simp [pns, p], ?_, by simp [ahs, h]; omega⟩
        simp only [Lib.indexByte, e, i, ahs]
        rw [if_neg h]
        have : (((ahs l).length : Int) == -1) = false := by rw [beq_eq_false_iff_ne]; omega
        simp [this]
theorem as_take (l : List UInt8) : l.take (ahs l).length = ahs l := by
  induction l with
  | nil => rfl
  | cons x l ih =>
    simp only [ahs]
    split
    · rfl
    · simp [ih]
theorem bs_drop {l : List UInt8} (h : pns l = true) : l.drop ((ahs l).length + 1) = bhs l := by
  have := pns_split h
  have e : (ahs l ++ 47 :: bhs l).drop ((ahs l).length + 1) = bhs l := by
    rw [← List.drop_drop, List.drop_left]; rfl
  rw [← this] at e; exact e

/-- s is the text of n/d. -/
def IsTxt (s : ByteArray) (n d : Int) : Prop := validB n d = true ∧ fmtS n d = s
theorem numL_inj {n m : Int} (hn : -1000000000000000000 ≤ n ∧ n ≤ 1000000000000000000) (hm : -1000000000000000000 ≤ m ∧ m ≤ 1000000000000000000) (h : numL n = numL m) : n = m := by
  have key : ∀ u v : Nat, u ≤ 1000000000000000000 → v ≤ 1000000000000000000 → dl 40 u 1 = dl 40 v 1 → u = v := fun u v hu hv e => by
    have h1 := val_dl 40 u 1 (Nat.lt_of_le_of_lt hu (by decide)) (by decide)
    have h2 := val_dl 40 v 1 (Nat.lt_of_le_of_lt hv (by decide)) (by decide)
    rw [e] at h1; omega
  have nd : ∀ u : Nat, ∀ l, dl 40 u 1 ≠ 45 :: l := fun u l e => by
    have := allD_dl 40 u 1
    rw [e] at this
    unfold allD at this
    simp at this
  unfold numL at h
  split at h <;> split at h
  · injection h with _ h2
    have := key _ _ (by omega) (by omega) h2; omega
  · exact absurd h.symm (nd _ _)
  · exact absurd h (nd _ _)
  · have := key _ _ (by omega) (by omega) h; omega
theorem txt_cut {s : ByteArray} {n d : Int} (h : IsTxt s n d) : ahs s.data.toList = numL n ∧ ((d = 1 ∧ pns s.data.toList = false) ∨ (¬ d = 1 ∧ pns s.data.toList = true ∧ bhs s.data.toList = numL d)) := by
  obtain ⟨hv, hs⟩ := h
  have e : s.data.toList = fmtL n d := by
    rw [← hs]; unfold fmtS; rw [if_pos hv, mk_list]
  rw [e]; unfold fmtL
  by_cases h1 : d = 1
  · rw [if_pos h1]
    have := cut_none (numL_47 n)
    exact ⟨(bhs_no this).2, .inl ⟨h1, this⟩⟩
  · rw [if_neg h1]
    obtain ⟨c1, c2, c3⟩ := cut_join (b := numL d) (numL_47 n)
    exact ⟨c2, .inr ⟨h1, c1, c3⟩⟩
theorem valid_bd {n d : Int} (h : validB n d = true) : -1000000000000000 ≤ n ∧ n ≤ 1000000000000000 ∧ 1 ≤ d ∧ d ≤ 1000000000 := by
  have := (validB_iff n d).1 h; omega
theorem txt_inj {s : ByteArray} {n d n' d' : Int} (h : IsTxt s n d) (h' : IsTxt s n' d') : n = n' ∧ d = d' := by
  have b := valid_bd h.1
  have b' := valid_bd h'.1
  obtain ⟨a1, c1⟩ := txt_cut h
  obtain ⟨a2, c2⟩ := txt_cut h'
  refine ⟨numL_inj (by omega) (by omega) (a1.symm.trans a2), ?_⟩
  rcases c1 with ⟨e1, p1⟩ | ⟨e1, p1, b1⟩ <;> rcases c2 with ⟨e2, p2⟩ | ⟨e2, p2, b2⟩
  · omega
  · rw [p1] at p2; cases p2
  · rw [p1] at p2; cases p2
  · exact numL_inj (by omega) (by omega) (b1.symm.trans b2)

end Go.Proofs.YtnhmebhmlbofgaaDoor.Txt

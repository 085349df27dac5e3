/- Plain facts: what the reference reads out of a fraction's text. No program in sight. -/
import Derived.Test.YtfdajdlbkdfhoaaDoorDoorP
namespace Go.Proofs.YtfdajdlbkdfhoaaDoor.Txt
open Str Frac Tok

def hd45 (l : List UInt8) : Bool := match l with
  | [] => false
  | x :: _ => (x.toNat : Int) == 45
def negS (s : ByteArray) : Bool := hd45 s.data.toList
def rstS (s : ByteArray) : ByteArray := if negS s = true then s.extract 1 s.size else s
theorem hd45_at {a : ByteArray} (h : 0 < a.size) : hd45 a.data.toList = ((a[0].toNat : Int) == 45) := by
  rw [list_head a h]; rfl
def asT (s : ByteArray) : ByteArray := ⟨(ahs s.data.toList).toArray⟩
def bsT (s : ByteArray) : ByteArray := ⟨(bhs s.data.toList).toArray⟩
theorem dl_47 (f u l : Nat) : ∀ c ∈ dl f u l, ¬ (c.toNat : Int) = 47 := fun c hc => by
  have := allD_dl f u l
  unfold allD at this
  rw [List.all_eq_true] at this
  have := this c hc
  simp at this; omega
def tailL (d : Int) : List UInt8 := if d = 1 then [] else 47 :: numL d
theorem fmtL_eq (n d : Int) : fmtL n d = (if n < 0 then [45] else []) ++ (dl 40 n.natAbs 1 ++ tailL d) := by
  have e : numL n = (if n < 0 then [45] else []) ++ dl 40 n.natAbs 1 := by
    unfold numL; by_cases h : n < 0 <;> simp [h]
  unfold fmtL tailL
  rw [e]
  by_cases h1 : d = 1 <;> simp [h1]
theorem nat_nonempty {s : ByteArray} (h : natB s = true) : 0 < s.size := by
  unfold natB at h
  simp only [Bool.and_eq_true, decide_eq_true_eq] at h
  exact h.2.2.2
theorem as_ne {t : ByteArray} (h : natB (asT t) = true) : 0 < t.size := by
  have := nat_nonempty h
  rw [← size_list, asT, mk_list] at this
  have h2 := ahs_len t.data.toList
  rw [size_list] at h2; omega
theorem tail_parts {t : ByteArray} {u : Nat} {d : Int} (hd0 : 1 ≤ d) (hd : d ≤ 1000000000) (hu : u ≤ 1000000000000000) (h : t.data.toList = dl 40 u 1 ++ tailL d) :
    natB (asT t) = true ∧ val (asT t).data.toList = u ∧ ((d = 1 ∧ pns t.data.toList = false) ∨ (¬ d = 1 ∧ pns t.data.toList = true ∧ natB (bsT t) = true ∧ val (bsT t).data.toList = d)) := by
  unfold asT bsT
  rw [h]; unfold tailL
  by_cases h1 : d = 1
  · rw [if_pos h1, List.append_nil]
    have c := cut_none (dl_47 40 u 1)
    rw [(bhs_no c).2]
    obtain ⟨a, b⟩ := nat_dl u hu
    exact ⟨a, b, .inl ⟨h1, c⟩⟩
  · rw [if_neg h1]
    obtain ⟨c1, c2, c3⟩ := cut_join (b := numL d) (dl_47 40 u 1)
    rw [c1, c2, c3]
    obtain ⟨a, b⟩ := nat_dl u hu
    have e : numL d = dl 40 d.natAbs 1 := by unfold numL; rw [if_neg (by omega)]
    rw [e]
    obtain ⟨a2, b2⟩ := nat_dl d.natAbs (by omega)
    exact ⟨a, b, .inr ⟨h1, rfl, a2, by rw [b2]; omega⟩⟩
theorem drop1 (s : ByteArray) : (s.extract 1 s.size).data.toList = s.data.toList.drop 1 := by
  rw [ext_data]
  apply List.take_of_length_le
  have := size_list s
  simp
theorem hd45_dl (u : Nat) (l : List UInt8) : hd45 (dl 40 u 1 ++ l) = false := by
  have hd := allD_dl 40 u 1
  cases hx : dl 40 u 1 with
  | nil => exact absurd hx (dl_ne u)
  | cons c r =>
    rw [hx] at hd
    unfold allD at hd
    simp only [List.all_cons, Bool.and_eq_true, decide_eq_true_eq] at hd
    show ((c.toNat : Int) == 45) = false
    rw [beq_eq_false_iff_ne]; omega
def sgnI (s : ByteArray) : Int := if negS s = true then -1 else 1
theorem txt_read {s : ByteArray} {n d : Int} (h : IsTxt s n d) :
    natB (asT (rstS s)) = true ∧ n = sgnI s * val (asT (rstS s)).data.toList ∧ ((d = 1 ∧ pns (rstS s).data.toList = false) ∨ (¬ d = 1 ∧ pns (rstS s).data.toList = true ∧ natB (bsT (rstS s)) = true ∧ val (bsT (rstS s)).data.toList = d)) := by
  have b := valid_bd h.1
  have e : s.data.toList = fmtL n d := by
    rw [← h.2]; unfold fmtS; rw [if_pos h.1, mk_list]
  rw [fmtL_eq] at e
  by_cases hn : n < 0
  · rw [if_pos hn, List.singleton_append] at e
    have hN : negS s = true := by unfold negS; rw [e]; rfl
    have ht : (rstS s).data.toList = dl 40 n.natAbs 1 ++ tailL d := by
      unfold rstS; rw [if_pos hN, drop1, e]; rfl
    obtain ⟨p1, p2, p3⟩ := tail_parts (by omega) (by omega) (by omega) ht
    refine ⟨p1, ?_, p3⟩
    rw [p2]; unfold sgnI; rw [if_pos hN]; omega
  · rw [if_neg hn, List.nil_append] at e
    have hN : negS s = false := by unfold negS; rw [e, hd45_dl]
    have ht : (rstS s).data.toList = dl 40 n.natAbs 1 ++ tailL d := by
      unfold rstS; rw [if_neg (by simp [hN]), e]
    obtain ⟨p1, p2, p3⟩ := tail_parts (by omega) (by omega) (by omega) ht
    refine ⟨p1, ?_, p3⟩
    rw [p2]; unfold sgnI; rw [if_neg (by simp [hN])]; omega
theorem rst_le (s : ByteArray) : (rstS s).size ≤ s.size := by
  unfold rstS
  split
  · simp
  · exact Nat.le_refl _

/-! The place of the first slash -/
theorem ahs_at {l : List UInt8} : ∀ {i : Nat} (h : i < l.length), ((l[i]).toNat : Int) = 47 → (ahs l).length ≤ i := by
  induction l with
  | nil => intro i h; simp at h
  | cons x l ih =>
    intro i h e
    simp only [ahs]
    split
    · simp
    · rename_i hx
      cases i with
      | zero => exact absurd e hx
      | succ i => simp at h e ⊢; exact ih h (by simpa using e)
theorem ahs_ne {l : List UInt8} : ∀ {i : Nat} (h : i < l.length), ¬ ((l[i]).toNat : Int) = 47 → ¬ (ahs l).length = i := by
  induction l with
  | nil => intro i h; simp at h
  | cons x l ih =>
    intro i h e
    simp only [ahs]
    split
    · rename_i hx
      cases i with
      | zero => exact absurd hx e
      | succ i => simp
    · cases i with
      | zero => simp
      | succ i => simp at h e ⊢; exact ih h (by simpa using e)
theorem byte_list (t : ByteArray) (k : Nat) (h : k < t.size) : (t.data.toList[k]'(by rw [size_list]; exact h)) = t[k] := rfl
theorem pns_lt (l : List UInt8) : (pns l = true ∧ (ahs l).length < l.length) ∨ (pns l = false ∧ (ahs l).length = l.length) := by
  rcases idx_pns l with ⟨a, _⟩ | ⟨a, _, b⟩
  · exact .inr ⟨a, by rw [(bhs_no a).2]⟩
  · exact .inl ⟨a, b⟩
theorem txt_of_fmt {s : ByteArray} {n d : Int} (h : fmtS n d = s) (hs : 0 < s.size) : IsTxt s n d := by
  refine ⟨?_, h⟩
  cases hv : validB n d
  · rw [fmt_no hv] at h; subst h; exact absurd hs (by decide)
  · rfl
/-- natural's value where it has one. -/
theorem nat_val {s : ByteArray} (h : natB s = true) : allD s.data.toList = true ∧ s.size ≤ 16 ∧ 0 ≤ val s.data.toList ∧ val s.data.toList ≤ 10000000000000000 := by
  unfold natB at h
  simp only [Bool.and_eq_true, decide_eq_true_eq, Bool.not_eq_true', decide_eq_false_iff_not] at h
  have hl : s.data.toList.length ≤ 16 := by rw [size_list]; omega
  exact ⟨h.2.2.1, by omega, val_le16 _ h.2.2.1 hl⟩

end Go.Proofs.YtfdajdlbkdfhoaaDoor.Txt

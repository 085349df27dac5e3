/- Plain facts on strings of decimal digits. No program in sight. -/
import Derived.Laws.BytesArg
import Derived.Laws.Concat
namespace Go.Proofs.YtnhmebhmlbofgaaDoor.Str

/-- The decimal digits of n, at least l of them; fuel f. -/
def dl : Nat → Nat → Nat → List UInt8
  | 0, _, _ => []
  | f + 1, n, l => if n = 0 ∧ l = 0 then [] else dl f (n / 10) (l - 1) ++ [UInt8.ofNat (48 + n % 10)]

theorem dl_stop (f : Nat) : dl f 0 0 = [] := by cases f <;> simp [dl]
theorem dl_step (f n l : Nat) (h : 0 < n ∨ 0 < l) : dl (f + 1) n l = dl f (n / 10) (l - 1) ++ [UInt8.ofNat (48 + n % 10)] := by
  rw [dl, if_neg (by omega)]

theorem dl_length (f n l : Nat) : (dl f n l).length ≤ f := by
  induction f generalizing n l with
  | zero => simp [dl]
  | succ f ih =>
    rw [dl]; split
    · simp
    · have := ih (n / 10) (l - 1); simp; omega

theorem mk_toList (s : ByteArray) : (⟨s.data.toList.toArray⟩ : ByteArray) = s := by simp

theorem append_mk (l : List UInt8) (s : ByteArray) : (⟨l.toArray⟩ : ByteArray) ++ s = ⟨(l ++ s.data.toList).toArray⟩ := by
  have := ByteArray.mk_append_mk l s.data.toList
  rw [mk_toList] at this
  rw [this]

theorem digit_cut (n : Nat) (h : n < 10) : (ByteArray.mk #[48, 49, 50, 51, 52, 53, 54, 55, 56, 57]).extract n (n + 1) = ⟨[UInt8.ofNat (48 + n)].toArray⟩ := by
  have h10 : n = 0 ∨ n = 1 ∨ n = 2 ∨ n = 3 ∨ n = 4 ∨ n = 5 ∨ n = 6 ∨ n = 7 ∨ n = 8 ∨ n = 9 := by omega
  rcases h10 with rfl | rfl | rfl | rfl | rfl | rfl | rfl | rfl | rfl | rfl <;> decide

theorem dig_k {X k m : Nat} (hX : X ≤ 1000000000000000000) (hm : m = X / 10 ^ k) (h : ¬ m = 0) : k ≤ 18 := by
  by_cases c : k ≤ 18
  · exact c
  · have h1 : 10 ^ 19 ≤ 10 ^ k := Nat.pow_le_pow_right (by omega) (by omega)
    have h2 : X / 10 ^ k = 0 := Nat.div_eq_of_lt (by omega)
    omega

theorem dig_step {X k m l : Nat} {s : ByteArray} (hk : k ≤ 18) (h : 0 < m ∨ 0 < l - k) (hE : dl 40 X l = dl (40 - k) m (l - k) ++ s.data.toList) :
    dl 40 X l = dl (40 - (k + 1)) (m / 10) (l - (k + 1)) ++ ((ByteArray.mk #[48, 49, 50, 51, 52, 53, 54, 55, 56, 57]).extract (m % 10) (m % 10 + 1) ++ s).data.toList := by
  rw [hE, show 40 - k = (40 - (k + 1)) + 1 by omega, dl_step _ _ _ h, digit_cut _ (by omega), append_mk]
  simp [Nat.sub_sub]

theorem dig_div {X k m : Nat} (hm : m = X / 10 ^ k) : m / 10 = X / 10 ^ (k + 1) := by
  rw [hm, Nat.div_div_eq_div_mul, Nat.pow_succ]

theorem dig_size (n : Nat) (s : ByteArray) (h : n < 10) : ((ByteArray.mk #[48, 49, 50, 51, 52, 53, 54, 55, 56, 57]).extract n (n + 1) ++ s).size = s.size + 1 := by
  rw [digit_cut _ h, append_mk]
  show ([UInt8.ofNat (48 + n)] ++ s.data.toList).toArray.size = s.data.size + 1
  rw [List.size_toArray, List.length_append, List.length_singleton, Array.length_toList]; omega

/-- A text of decimal digits. -/
def dgt (x l : Int) : ByteArray := ⟨(dl 40 x.toNat l.toNat).toArray⟩
theorem dgt_size (x l : Int) : (dgt x l).size ≤ 40 := by
  have := dl_length 40 x.toNat l.toNat
  show (dl 40 x.toNat l.toNat).toArray.size ≤ 40
  simpa using this

/-- Are all bytes decimal digits? -/
def allD (l : List UInt8) : Bool := l.all fun c => decide (48 ≤ (c.toNat : Int)) && decide ((c.toNat : Int) ≤ 57)
/-- The value of a text of digits. -/
def val (l : List UInt8) : Int := l.foldl (fun a c => 10 * a + ((c.toNat : Int) - 48)) 0

theorem allD_snoc (l : List UInt8) (c : UInt8) : allD (l ++ [c]) = (allD l && (decide (48 ≤ (c.toNat : Int)) && decide ((c.toNat : Int) ≤ 57))) := by
  simp [allD]
theorem val_snoc (l : List UInt8) (c : UInt8) : val (l ++ [c]) = 10 * val l + ((c.toNat : Int) - 48) := by
  simp [val]
theorem allD_nil : allD [] = true := rfl
theorem val_nil : val [] = 0 := rfl

theorem snoc_ind {p : List UInt8 → Prop} (h0 : p []) (h1 : ∀ l c, p l → p (l ++ [c])) (l : List UInt8) : p l := by
  have : ∀ n (l : List UInt8), l.length = n → p l := by
    intro n
    induction n with
    | zero => intro l hl; rw [List.length_eq_zero_iff.1 hl]; exact h0
    | succ n ih =>
      intro l hl
      have hne : l ≠ [] := by intro e; rw [e] at hl; simp at hl
      rw [← List.dropLast_concat_getLast hne]
      exact h1 _ _ (ih _ (by simp [hl]))
  exact this _ l rfl

theorem val_bd (l : List UInt8) : allD l = true → 0 ≤ val l ∧ val l < ((10 ^ l.length : Nat) : Int) := by
  refine snoc_ind (p := fun l => allD l = true → 0 ≤ val l ∧ val l < ((10 ^ l.length : Nat) : Int)) ?_ ?_ l
  · intro _; simp [val_nil]
  · intro l c ih h
    rw [allD_snoc] at h
    simp at h
    obtain ⟨h1, h2, h3⟩ := h
    have := ih h1
    rw [val_snoc, List.length_append, List.length_singleton, Nat.pow_succ]
    omega
theorem val_le16 (l : List UInt8) (h : allD l = true) (hl : l.length ≤ 16) : 0 ≤ val l ∧ val l ≤ 10000000000000000 := by
  have h1 := val_bd l h
  have h2 : 10 ^ l.length ≤ 10 ^ 16 := Nat.pow_le_pow_right (by omega) hl
  omega

theorem take_snoc (s : ByteArray) (k : Nat) (h : k < s.size) : s.data.toList.take (k + 1) = s.data.toList.take k ++ [s[k]] := by
  rw [List.take_succ_eq_append_getElem (by simpa using h)]; rfl
theorem take_all (s : ByteArray) (k : Nat) (h : s.size ≤ k) : s.data.toList.take k = s.data.toList :=
  List.take_of_length_le (by simpa using h)

theorem allD_take (l : List UInt8) (k : Nat) (h : allD l = true) : allD (l.take k) = true := by
  unfold allD at *
  rw [List.all_eq_true] at *
  exact fun x hx => h x (List.mem_of_mem_take hx)
theorem allD_not (s : ByteArray) (k : Nat) (h : k < s.size) (hd : ¬ (48 ≤ (s[k].toNat : Int) ∧ (s[k].toNat : Int) ≤ 57)) : allD s.data.toList = false := by
  cases hA : allD s.data.toList
  · rfl
  · have := allD_take _ (k + 1) hA
    rw [take_snoc s k h, allD_snoc] at this
    simp at this
    omega

/-- The digits of a number, read back. -/
theorem allD_dl (f n l : Nat) : allD (dl f n l) = true := by
  induction f generalizing n l with
  | zero => rfl
  | succ f ih =>
    rw [dl]; split
    · rfl
    · rw [allD_snoc, ih]
      simp; omega
theorem val_dl (f n l : Nat) (hf : n < 10 ^ f) (hl : l ≤ f) : val (dl f n l) = n := by
  induction f generalizing n l with
  | zero => simp at hf; subst hf; rfl
  | succ f ih =>
    rw [dl]; split
    · rename_i h; rw [h.1]; rfl
    · rw [Nat.pow_succ] at hf
      have hlt : n / 10 < 10 ^ f := by omega
      rw [val_snoc, ih _ _ hlt (by omega)]
      have : (UInt8.ofNat (48 + n % 10)).toNat = 48 + n % 10 := by
        rw [UInt8.toNat_ofNat']; omega
      rw [this]; omega
theorem length_dl (f n l : Nat) (hn : n < 10 ^ l) (hl : l ≤ f) : (dl f n l).length = l := by
  induction f generalizing n l with
  | zero => simp [dl]; omega
  | succ f ih =>
    rw [dl]; split
    · rename_i h; simp [h.2]
    · rename_i h
      obtain ⟨l', rfl⟩ : ∃ l', l = l' + 1 := ⟨l - 1, by
        rcases Nat.eq_zero_or_pos l with e | e
        · rw [e] at hn; simp at hn; omega
        · omega⟩
      rw [Nat.pow_succ] at hn
      have := ih (n / 10) l' (by omega) (by omega)
      simp [this]
/-- A text of l digits is that of its value. -/
theorem dl_val (f : Nat) (l : List UInt8) : allD l = true → l.length ≤ f → dl f (val l).toNat l.length = l := by
  intro h hl
  induction f generalizing l with
  | zero => have : l = [] := List.length_eq_zero_iff.1 (by omega); subst this; rfl
  | succ f ih =>
    rcases List.eq_nil_or_concat l with rfl | ⟨l', c, rfl⟩
    · simp [val_nil, dl]
    · rw [List.concat_eq_append] at h hl ⊢
      rw [allD_snoc] at h
      simp at h
      obtain ⟨h1, h2, h3⟩ := h
      have hb := val_bd l' h1
      rw [List.length_append, List.length_singleton, dl_step _ _ _ (by omega), val_snoc]
      rw [List.length_append, List.length_singleton] at hl
      rw [show (10 * val l' + ((c.toNat : Int) - 48)).toNat / 10 = (val l').toNat by omega, show l'.length + 1 - 1 = l'.length by omega, ih l' h1 (by omega)]
      congr 2
      rw [show 48 + (10 * val l' + ((c.toNat : Int) - 48)).toNat % 10 = c.toNat by omega]
      simp

end Go.Proofs.YtnhmebhmlbofgaaDoor.Str

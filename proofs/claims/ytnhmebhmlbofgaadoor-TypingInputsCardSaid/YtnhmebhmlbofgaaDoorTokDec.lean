/- Plain facts on decimal texts: what they are worth, and the lowest terms. No program in sight. -/
import Derived.Test.YtnhmebhmlbofgaaDoorTokPlain
import Derived.Test.YtnhmebhmlbofgaaDoorRatPlain
import Derived.Lib.Bytealg
namespace Go.Proofs.YtnhmebhmlbofgaaDoor.Tok
open Str Frac

theorem mk_list (l : List UInt8) : (⟨l.toArray⟩ : ByteArray).data.toList = l := by simp
theorem ba_ext {a b : ByteArray} (h : a.data.toList = b.data.toList) : a = b := by
  cases a; cases b; simpa using h
theorem ext_data (s : ByteArray) (a b : Nat) : (s.extract a b).data.toList = (s.data.toList.drop a).take (b - a) := by
  simp
theorem size_list (s : ByteArray) : s.data.toList.length = s.size := by simp
theorem at_list (s : ByteArray) (k : Nat) (h : k < s.size) : s.data.toList[k]? = some s[k] := by
  have hl : k < s.data.toList.length := by simpa using h
  rw [List.getElem?_eq_getElem hl]; rfl

/-- Parts of a text as texts. -/
def ahS (s : ByteArray) : ByteArray := ⟨(ahd s.data.toList).toArray⟩
def bhS (s : ByteArray) : ByteArray := ⟨(bhd s.data.toList).toArray⟩
def pnS (s : ByteArray) : Bool := pnt s.data.toList
theorem ahS_size (s : ByteArray) : (ahS s).size = (ahd s.data.toList).length := by rw [← size_list, ahS, mk_list]
theorem bhS_size (s : ByteArray) : (bhS s).size = (bhd s.data.toList).length := by rw [← size_list, bhS, mk_list]
theorem idx_pnt (l : List UInt8) : (pnt l = false ∧ Lib.indexByte l 46 = -1) ∨ (pnt l = true ∧ Lib.indexByte l 46 = ((ahd l).length : Int) ∧ (ahd l).length < l.length) := by
  induction l with
  | nil => exact .inl ⟨rfl, rfl⟩
  | cons x l ih =>
    by_cases h : (x.toNat : Int) = 46
    · have e : x = 46 := UInt8.toNat_inj.1 (by show x.toNat = 46; omega)
      subst e
      exact .inr ⟨by simp [pnt], by simp [Lib.indexByte, ahd], by simp [ahd]⟩
    · have e : (x == 46) = false := by
        rw [beq_eq_false_iff_ne]; intro e; subst e; exact h rfl
      rcases ih with ⟨p, i⟩ | ⟨p, i, hl⟩
      · left; refine ⟨by simp [pnt, p, h], ?_⟩
        simp only [Lib.indexByte, e, i]; rfl
      · right; refine ⟨by simp [pnt, p], ?_, by simp [ahd, h]; omega⟩
        simp only [Lib.indexByte, e, i, ahd]
        rw [if_neg h]
        have : (((ahd l).length : Int) == -1) = false := by rw [beq_eq_false_iff_ne]; omega
        simp [this]
theorem ah_take (l : List UInt8) : l.take (ahd l).length = ahd l := by
  induction l with
  | nil => rfl
  | cons x l ih =>
    simp only [ahd]
    split
    · rfl
    · simp [ih]
theorem bh_drop {l : List UInt8} (h : pnt l = true) : l.drop ((ahd l).length + 1) = bhd l := by
  have := pnt_split h
  have e : (ahd l ++ 46 :: bhd l).drop ((ahd l).length + 1) = bhd l := by
    rw [← List.drop_drop, List.drop_left]; rfl
  rw [← this] at e; exact e
theorem ahS_take (s : ByteArray) {n : Nat} (h : (ahd s.data.toList).length = n) : s.extract 0 n = ahS s := by
  apply ba_ext
  rw [ext_data, ahS, mk_list, ← h, List.drop_zero, Nat.sub_zero, ah_take]
theorem bhS_drop (s : ByteArray) {n : Nat} (hp : pnS s = true) (h : (ahd s.data.toList).length = n) : s.extract (n + 1) s.size = bhS s := by
  apply ba_ext
  rw [ext_data, bhS, mk_list, ← h, bh_drop hp]
  apply List.take_of_length_le
  have := bhd_len s.data.toList
  rw [pnt_split hp] at this
  have hl := size_list s
  have h3 := congrArg List.length (pnt_split hp)
  simp only [List.length_append, List.length_cons] at h3
  omega
theorem noS (s : ByteArray) (hp : pnS s = false) : ahS s = s ∧ bhS s = ⟨#[]⟩ := by
  have := bhd_no hp
  exact ⟨ba_ext (by rw [ahS, mk_list, this.2]), ba_ext (by rw [bhS, mk_list, this.1])⟩

/-- The dimension that the last byte says; the text without it. -/
def sufI (s : ByteArray) : Int := if h : 0 < s.size then (if ((s[s.size - 1]'(by omega)).toNat : Int) = 100 then 3 else if ((s[s.size - 1]'(by omega)).toNat : Int) = 109 then 4 else 2) else 2
def brS (s : ByteArray) : ByteArray := if sufI s = 2 then s else s.extract 0 (s.size - 1)
theorem suf_nil {s : ByteArray} (h : ¬ 0 < s.size) : sufI s = 2 ∧ brS s = s := by
  have e : sufI s = 2 := by unfold sufI; rw [dif_neg h]
  exact ⟨e, by unfold brS; rw [if_pos e]⟩
theorem suf_d {s : ByteArray} (h : 0 < s.size) (hd : ((s[s.size - 1]'(by omega)).toNat : Int) = 100) : sufI s = 3 ∧ brS s = s.extract 0 (s.size - 1) := by
  have e : sufI s = 3 := by unfold sufI; rw [dif_pos h, if_pos hd]
  exact ⟨e, by unfold brS; rw [if_neg (by omega)]⟩
theorem suf_m {s : ByteArray} (h : 0 < s.size) (hd : ((s[s.size - 1]'(by omega)).toNat : Int) = 109) : sufI s = 4 ∧ brS s = s.extract 0 (s.size - 1) := by
  have e : sufI s = 4 := by unfold sufI; rw [dif_pos h, if_neg (by omega), if_pos hd]
  exact ⟨e, by unfold brS; rw [if_neg (by omega)]⟩
theorem suf_n {s : ByteArray} (h : 0 < s.size) (h1 : ¬ ((s[s.size - 1]'(by omega)).toNat : Int) = 100) (h2 : ¬ ((s[s.size - 1]'(by omega)).toNat : Int) = 109) : sufI s = 2 ∧ brS s = s := by
  have e : sufI s = 2 := by unfold sufI; rw [dif_pos h, if_neg h1, if_neg h2]
  exact ⟨e, by unfold brS; rw [if_pos e]⟩
theorem suf_bd (s : ByteArray) : sufI s = 2 ∨ sufI s = 3 ∨ sufI s = 4 := by
  unfold sufI; split
  · split
    · exact .inr (.inl rfl)
    · split
      · exact .inr (.inr rfl)
      · exact .inl rfl
  · exact .inl rfl
theorem br_size (s : ByteArray) : (brS s).size ≤ s.size := by
  unfold brS; split
  · exact Nat.le_refl _
  · rw [ByteArray.size_extract]; omega

/-- Is s a number text? Its value and its dimension. -/
def decB (s : ByteArray) : Bool := frmB (brS s).data.toList
noncomputable def decN (s : ByteArray) : Int := if decB s = true then mkN (digN (brS s).data.toList) (digD (brS s).data.toList) else 0
noncomputable def decD (s : ByteArray) : Int := if decB s = true then mkD (digN (brS s).data.toList) (digD (brS s).data.toList) else 0
def decX (s : ByteArray) : Int := if decB s = true then sufI s else 0
theorem dec_no {s : ByteArray} (h : decB s = false) : decN s = 0 ∧ decD s = 0 ∧ decX s = 0 := by
  unfold decN decD decX; rw [if_neg (by simp [h]), if_neg (by simp [h]), if_neg (by simp [h])]; exact ⟨rfl, rfl, rfl⟩
theorem dec_yes {s : ByteArray} (h : decB s = true) : decN s = mkN (digN (brS s).data.toList) (digD (brS s).data.toList) ∧ decD s = mkD (digN (brS s).data.toList) (digD (brS s).data.toList) ∧ decX s = sufI s := by
  unfold decN decD decX; rw [if_pos h, if_pos h, if_pos h]; exact ⟨rfl, rfl, rfl⟩

theorem val_app (a b : List UInt8) : val (a ++ b) = val a * ((10 ^ b.length : Nat) : Int) + val b := by
  induction b using snoc_ind with
  | h0 => simp [val_nil]
  | h1 l c ih =>
    rw [← List.append_assoc, val_snoc, ih, val_snoc, List.length_append, List.length_cons, List.length_nil, Nat.zero_add, Nat.pow_succ]
    push_cast
    grind

/-! Lowest terms over 2 and 5 -/
theorem cop_of {g : Nat} (hg : g ∣ 10000) (h2 : ¬ 2 ∣ g) (h5 : ¬ 5 ∣ g) : g = 1 := by
  have c2 : Nat.Coprime g 2 := by
    have h : Nat.gcd g 2 ∣ 2 := Nat.gcd_dvd_right _ _
    have hl := Nat.le_of_dvd (by decide) h
    have hp : 0 < Nat.gcd g 2 := Nat.gcd_pos_of_pos_right _ (by decide)
    rcases (show Nat.gcd g 2 = 1 ∨ Nat.gcd g 2 = 2 by omega) with e | e
    · exact e
    · exact absurd (e ▸ Nat.gcd_dvd_left g 2) h2
  have c5 : Nat.Coprime g 5 := by
    have h : Nat.gcd g 5 ∣ 5 := Nat.gcd_dvd_right _ _
    have hl := Nat.le_of_dvd (by decide) h
    have hp : 0 < Nat.gcd g 5 := Nat.gcd_pos_of_pos_right _ (by decide)
    rcases (show Nat.gcd g 5 = 1 ∨ Nat.gcd g 5 = 2 ∨ Nat.gcd g 5 = 3 ∨ Nat.gcd g 5 = 4 ∨ Nat.gcd g 5 = 5 by omega) with e | e | e | e | e
    · exact e
    · rw [e] at h; exact absurd h (by decide)
    · rw [e] at h; exact absurd h (by decide)
    · rw [e] at h; exact absurd h (by decide)
    · exact absurd (e ▸ Nat.gcd_dvd_left g 5) h5
  have c : Nat.Coprime g (2 ^ 4 * 5 ^ 4) := Nat.Coprime.mul_right (Nat.Coprime.pow_right 4 c2) (Nat.Coprime.pow_right 4 c5)
  have e : Nat.gcd g 10000 = g := Nat.gcd_eq_left hg
  have e2 : Nat.gcd g (2 ^ 4 * 5 ^ 4) = 1 := c
  rw [show 2 ^ 4 * 5 ^ 4 = 10000 by decide, e] at e2
  exact e2

/-- N/D has the value n/d; the rest of what two loops do to it. -/
structure Red (n d N D : Int) : Prop where
  pos : 0 < D
  n0 : 0 ≤ N
  le : D ≤ 10000
  nle : N < 10000000000000
  dvd : D ∣ 10000
  eq : N * d = n * D
theorem Red.start {n d : Int} (h0 : 0 ≤ n) (h1 : n < 10000000000000) (d1 : 1 ≤ d) (d2 : d ∣ 10000) : Red n d n d :=
  ⟨by omega, h0, Int.le_of_dvd (by decide) d2, h1, d2, rfl⟩
theorem Red.step {n d N D p : Int} (h : Red n d N D) (hp : 2 ≤ p) (hN : N % p = 0) (hD : D % p = 0) : Red n d (N / p) (D / p) ∧ D / p < D := by
  obtain ⟨a, ha⟩ := Int.dvd_of_emod_eq_zero hN
  obtain ⟨b, hb⟩ := Int.dvd_of_emod_eq_zero hD
  have e1 : N / p = a := by rw [ha, Int.mul_ediv_cancel_left _ (by omega)]
  have e2 : D / p = b := by rw [hb, Int.mul_ediv_cancel_left _ (by omega)]
  have hpos := h.pos
  have hn0 := h.n0
  have hb0 : 0 < b := by
    rcases Int.lt_or_le 0 b with hx | hx
    · exact hx
    · have := Int.mul_nonneg (show 0 ≤ p by omega) (show 0 ≤ -b by omega)
      have e : p * -b = -(p * b) := Int.mul_neg _ _
      omega
  have ha0 : 0 ≤ a := by
    rcases Int.lt_or_le a 0 with hx | hx
    · have := Int.mul_pos (show 0 < p by omega) (show 0 < -a by omega)
      have e : p * -a = -(p * a) := Int.mul_neg _ _
      omega
    · exact hx
  have l1 : 2 * b ≤ p * b := Int.mul_le_mul_of_nonneg_right hp (by omega)
  have l2 : 2 * a ≤ p * a := Int.mul_le_mul_of_nonneg_right hp ha0
  have hle := h.le
  have hnle := h.nle
  rw [e1, e2]
  refine ⟨⟨hb0, ha0, by omega, by omega, ?_, ?_⟩, by omega⟩
  · exact Int.dvd_trans ⟨p, by rw [hb, Int.mul_comm]⟩ h.dvd
  · have he := h.eq
    rw [ha, hb] at he
    have : p * (a * d) = p * (n * b) := by grind
    exact Int.eq_of_mul_eq_mul_left (by omega) this
theorem Red.fin {n d N D : Int} (h : Red n d N D) (hd : 0 < d) (h0 : 0 ≤ n) (h1 : n < 10000000000000) (dle : d ≤ 10000) (h2 : ¬ (N % 2 = 0 ∧ D % 2 = 0)) (h5 : ¬ (N % 5 = 0 ∧ D % 5 = 0)) : mkN n d = N ∧ mkD n d = D := by
  have hpos := h.pos
  have hg : Nat.gcd N.natAbs D.natAbs = 1 := by
    have d1 := Nat.gcd_dvd_left N.natAbs D.natAbs
    have d2 := Nat.gcd_dvd_right N.natAbs D.natAbs
    have d3 : D.natAbs ∣ 10000 := by have := Int.natAbs_dvd_natAbs.2 h.dvd; simpa using this
    refine cop_of (Nat.dvd_trans d2 d3) (fun k => h2 ?_) (fun k => h5 ?_)
    · have k1 := Nat.dvd_trans k d1
      have k2 := Nat.dvd_trans k d2
      omega
    · have k1 := Nat.dvd_trans k d1
      have k2 := Nat.dvd_trans k d2
      omega
  have e : mkN n d = nN n d ∧ mkD n d = nD n d := by
    unfold mkN mkD mkS
    rw [if_neg (by omega), if_neg (by omega), if_neg (by omega)]
    have : (d.natAbs : Int) = d := by omega
    rw [this]; exact ⟨rfl, rfl⟩
  rw [e.1, e.2]
  have hok : nOk n d = true := by
    have p1 := rD_pos n d hd
    have m1 := rD_mul n d
    have m2 := rN_mul n d
    have gp := gOf_pos n d hd
    have b1 : rD n d ≤ d := by
      have : 1 * rD n d ≤ (gOf n d : Int) * rD n d := Int.mul_le_mul_of_nonneg_right (by omega) (by omega)
      omega
    have b2 : (rN n d).natAbs ≤ n.natAbs := by
      have e : n.natAbs = gOf n d * (rN n d).natAbs := by
        have := congrArg Int.natAbs m2; rw [Int.natAbs_mul, Int.natAbs_natCast] at this; exact this
      rw [e]; exact Nat.le_mul_of_pos_left _ gp
    unfold nOk; simp; omega
  rcases n_cases n d hd with ⟨_, _, _, hn⟩ | ⟨_, _, hv, he⟩
  · rw [hok] at hn; cases hn
  · have hv2 := (validB_iff _ _).1 hv
    refine low_unique (by omega) hpos hv2.2 hg ?_
    have he2 := h.eq
    generalize nN n d = x at *
    generalize nD n d = y at *
    have : d * (x * D) = d * (N * y) := by grind
    exact Int.eq_of_mul_eq_mul_left (by omega) this

theorem dvd_ten (k : Nat) (h : k ≤ 4) : ((10 ^ k : Nat) : Int) ∣ 10000 := by
  rcases (show k = 0 ∨ k = 1 ∨ k = 2 ∨ k = 3 ∨ k = 4 by omega) with rfl | rfl | rfl | rfl | rfl <;> decide

/-! What decides whether a text is a number -/
theorem decB_eq (s : ByteArray) : decB s = ((decide (1 ≤ (ahS (brS s)).size) && (decide ((ahS (brS s)).size ≤ 9) && (!(decide (2 ≤ (ahS (brS s)).size) && hd0 (ahS (brS s)).data.toList) && (!pnS (brS s) || (decide (1 ≤ (bhS (brS s)).size) && decide ((bhS (brS s)).size ≤ 4)))))) && (allD (ahS (brS s)).data.toList && allD (bhS (brS s)).data.toList)) := by
  unfold decB frmB lenB
  rw [ahS_size, bhS_size]
  unfold ahS bhS pnS
  rw [mk_list, mk_list]
theorem hd0_at {a : ByteArray} (h : 0 < a.size) : hd0 a.data.toList = ((a[0].toNat : Int) == 48) := by
  rw [list_head a h]; rfl
theorem dec_n1 {s a b : ByteArray} {p : Bool} (ha : ahS (brS s) = a) (hb : bhS (brS s) = b) (hp : pnS (brS s) = p) (h : p = true) (h2 : ¬ (1 ≤ b.size ∧ b.size ≤ 4)) : decB s = false := by
  rw [decB_eq, ha, hb, hp, h]
  rcases (show b.size < 1 ∨ 4 < b.size by omega) with h3 | h3
  · have : decide (1 ≤ b.size) = false := decide_eq_false (by omega)
    rw [this]; simp
  · have : decide (b.size ≤ 4) = false := by simp; omega
    rw [this]; simp
theorem dec_n2 {s a b : ByteArray} (ha : ahS (brS s) = a) (hb : bhS (brS s) = b) (h : allD (a.data.toList ++ b.data.toList) = false) : decB s = false := by
  rw [decB_eq, ha, hb]
  unfold allD at *
  rw [List.all_append] at h
  rw [h]; simp
theorem dec_n3 {s a : ByteArray} (ha : ahS (brS s) = a) (h : ¬ (1 ≤ a.size ∧ a.size ≤ 9)) : decB s = false := by
  rw [decB_eq, ha]
  rcases (show a.size < 1 ∨ 9 < a.size by omega) with h3 | h3
  · have : decide (1 ≤ a.size) = false := decide_eq_false (by omega)
    rw [this]; simp
  · have : decide (a.size ≤ 9) = false := by simp; omega
    rw [this]; simp
theorem dec_n4 {s a : ByteArray} (ha : ahS (brS s) = a) (h : 2 ≤ a.size) (h0 : (a[0].toNat : Int) = 48) : decB s = false := by
  have e : hd0 a.data.toList = true := by rw [hd0_at (by omega)]; simpa using h0
  have e2 : decide (2 ≤ a.size) = true := by simpa using h
  rw [decB_eq, ha, e, e2]; simp
theorem dec_y {s a b : ByteArray} {p : Bool} (ha : ahS (brS s) = a) (hb : bhS (brS s) = b) (hp : pnS (brS s) = p) (h1 : 1 ≤ a.size) (h9 : a.size ≤ 9) (h0 : a.size = 1 ∨ ∃ h : 0 < a.size, ¬ ((a[0]'h).toNat : Int) = 48) (hb4 : p = true → 1 ≤ b.size ∧ b.size ≤ 4)
    (hA : allD a.data.toList = true) (hB : allD b.data.toList = true) : decB s = true := by
  have e1 : decide (1 ≤ a.size) = true := by simpa using h1
  have e2 : decide (a.size ≤ 9) = true := by simpa using h9
  have e3 : (decide (2 ≤ a.size) && hd0 a.data.toList) = false := by
    rcases h0 with h0 | ⟨h, h0⟩
    · have : decide (2 ≤ a.size) = false := by simp; omega
      rw [this]; rfl
    · have : hd0 a.data.toList = false := by rw [hd0_at h]; simpa using h0
      rw [this]; simp
  have e4 : (!p || (decide (1 ≤ b.size) && decide (b.size ≤ 4))) = true := by
    cases p
    · rfl
    · have := hb4 rfl; simp; exact this
  rw [decB_eq, ha, hb, hp, e1, e2, e3, e4, hA, hB]; rfl
theorem dec_parts {s a b : ByteArray} {p : Bool} (ha : ahS (brS s) = a) (hb : bhS (brS s) = b) (hp : pnS (brS s) = p) (h : decB s = true) :
    1 ≤ a.size ∧ a.size ≤ 9 ∧ b.size ≤ 4 ∧ allD a.data.toList = true ∧ allD b.data.toList = true ∧ (p = true → 1 ≤ b.size) := by
  have hz := noS (brS s)
  rw [decB_eq, ha, hb, hp] at h
  rw [hp, hb] at hz
  simp only [Bool.and_eq_true, decide_eq_true_eq, Bool.or_eq_true] at h
  obtain ⟨⟨h1, h2, h3, h4⟩, h5, h6⟩ := h
  refine ⟨h1, h2, ?_, h5, h6, fun hp => ?_⟩
  · rcases h4 with h4 | h4
    · have := (hz (by simpa using h4)).2; rw [this]; decide
    · exact h4.2
  · rcases h4 with h4 | h4
    · rw [hp] at h4; cases h4
    · exact h4.1
theorem dig_of {s a b : ByteArray} (ha : ahS (brS s) = a) (hb : bhS (brS s) = b) : digN (brS s).data.toList = val (a.data.toList ++ b.data.toList) ∧ digD (brS s).data.toList = ((10 ^ b.size : Nat) : Int) ∧ digN (brS s).data.toList = val a.data.toList * ((10 ^ b.size : Nat) : Int) + val b.data.toList := by
  have e1 : a.data.toList = ahd (brS s).data.toList := by rw [← ha, ahS, mk_list]
  have e2 : b.data.toList = bhd (brS s).data.toList := by rw [← hb, bhS, mk_list]
  have e3 : b.size = (bhd (brS s).data.toList).length := by rw [← size_list, e2]
  unfold digN digD
  rw [val_app, e1, e2, e3]; exact ⟨rfl, rfl, rfl⟩

end Go.Proofs.YtnhmebhmlbofgaaDoor.Tok

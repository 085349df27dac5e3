/- Bundle of texts: each says at its head what it proves; no conditions but those printed. -/
import Derived.Test.YtnhmebhmlbofgaaDoorB1
import Derived.Test.YtnhmebhmlbofgaaDoorB0
import Derived.Lib.Bytealg
import Derived.Deep.CutRange
import Derived.Deep.DeepCutAuto
import Derived.Laws.RangeString
import Derived.Lib.Bytes2
import Derived.WalkKit
import Derived.ProofKit
import Derived.OpenShut
import Derived.ChangeOld
import Derived.Below
import Derived.Carry
import Derived.SizedLaws
import Derived.Lib.ItoaMem
import Derived.Lib.ItoaNum
import Derived.Lib.AtoiAll
import Derived.Lib.AppendIntMem
import Derived.Lib.AtoiErrMem
/- Plain facts on decimal texts: what they are worth, and the lowest terms. No program in sight. -/
namespace Go.Proofs.YtnhmebhmlbofgaaDoor.Tok
open Str Frac

theorem mk_list (l : List UInt8) : (⟨l.toArray⟩ : ByteArray).data.toList = l := by simp
theorem ba_ext {a b : ByteArray} (h : a.data.toList = b.data.toList) : a = b := by
  cases a; cases b; simpa using h
theorem ext_data (s : ByteArray) (a b : Nat) : (s.extract a b).data.toList = (s.data.toList.drop a).take (b - a) := by
  simp
theorem size_list (s : ByteArray) : s.data.toList.length = s.size := by simp
theorem at_list (s : ByteArray) (k : Nat) (h : k < s.size) : s.data.toList[k]? = some s[k] := by
  have hl : k < s.data.toList.length := by simpa using h
  rw [List.getElem?_eq_getElem hl]; rfl

/-- Parts of a text as texts. -/
def ahS (s : ByteArray) : ByteArray := ⟨(ahd s.data.toList).toArray⟩
def bhS (s : ByteArray) : ByteArray := ⟨(bhd s.data.toList).toArray⟩
def pnS (s : ByteArray) : Bool := pnt s.data.toList
theorem ahS_size (s : ByteArray) : (ahS s).size = (ahd s.data.toList).length := by rw [← size_list, ahS, mk_list]
theorem bhS_size (s : ByteArray) : (bhS s).size = (bhd s.data.toList).length := by rw [← size_list, bhS, mk_list]
theorem idx_pnt (l : List UInt8) : (pnt l = false ∧ Lib.indexByte l 46 = -1) ∨ (pnt l = true ∧ Lib.indexByte l 46 = ((ahd l).length : Int) ∧ (ahd l).length < l.length) := by
  induction l with
  | nil => exact .inl ⟨rfl, rfl⟩
  | cons x l ih =>
    by_cases h : (x.toNat : Int) = 46
    · have e : x = 46 := UInt8.toNat_inj.1 (by show x.toNat = 46; omega)
      subst e
      exact .inr ⟨by simp [pnt], by simp [Lib.indexByte, ahd], by simp [ahd]⟩
    · have e : (x == 46) = false := by
        rw [beq_eq_false_iff_ne]; intro e; subst e; exact h rfl
      rcases ih with ⟨p, i⟩ | ⟨p, i, hl⟩
      · left; refine ⟨by simp [pnt, p, h], ?_⟩
        simp only [Lib.indexByte, e, i]; rfl
      · right; refine ⟨by simp [pnt, p], ?_, by simp [ahd, h]; omega⟩
        simp only [Lib.indexByte, e, i, ahd]
        rw [if_neg h]
        have : (((ahd l).length : Int) == -1) = false := by rw [beq_eq_false_iff_ne]; omega
        simp [this]
theorem ah_take (l : List UInt8) : l.take (ahd l).length = ahd l := by
  induction l with
  | nil => rfl
  | cons x l ih =>
    simp only [ahd]
    split
    · rfl
    · simp [ih]
theorem bh_drop {l : List UInt8} (h : pnt l = true) : l.drop ((ahd l).length + 1) = bhd l := by
  have := pnt_split h
  have e : (ahd l ++ 46 :: bhd l).drop ((ahd l).length + 1) = bhd l := by
    rw [← List.drop_drop, List.drop_left]; rfl
  rw [← this] at e; exact e
theorem ahS_take (s : ByteArray) {n : Nat} (h : (ahd s.data.toList).length = n) : s.extract 0 n = ahS s := by
  apply ba_ext
  rw [ext_data, ahS, mk_list, ← h, List.drop_zero, Nat.sub_zero, ah_take]
theorem bhS_drop (s : ByteArray) {n : Nat} (hp : pnS s = true) (h : (ahd s.data.toList).length = n) : s.extract (n + 1) s.size = bhS s := by
  apply ba_ext
  rw [ext_data, bhS, mk_list, ← h, bh_drop hp]
  apply List.take_of_length_le
  have := bhd_len s.data.toList
  rw [pnt_split hp] at this
  have hl := size_list s
  have h3 := congrArg List.length (pnt_split hp)
  simp only [List.length_append, List.length_cons] at h3
  omega
theorem noS (s : ByteArray) (hp : pnS s = false) : ahS s = s ∧ bhS s = ⟨#[]⟩ := by
  have := bhd_no hp
  exact ⟨ba_ext (by rw [ahS, mk_list, this.2]), ba_ext (by rw [bhS, mk_list, this.1])⟩

/-- The dimension that the last byte says; the text without it. -/
def sufI (s : ByteArray) : Int := if h : 0 < s.size then (if ((s[s.size - 1]'(by omega)).toNat : Int) = 100 then 3 else if ((s[s.size - 1]'(by omega)).toNat : Int) = 109 then 4 else 2) else 2
def brS (s : ByteArray) : ByteArray := if sufI s = 2 then s else s.extract 0 (s.size - 1)
theorem suf_nil {s : ByteArray} (h : ¬ 0 < s.size) : sufI s = 2 ∧ brS s = s := by
  have e : sufI s = 2 := by unfold sufI; rw [dif_neg h]
  exact ⟨e, by unfold brS; rw [if_pos e]⟩
theorem suf_d {s : ByteArray} (h : 0 < s.size) (hd : ((s[s.size - 1]'(by omega)).toNat : Int) = 100) : sufI s = 3 ∧ brS s = s.extract 0 (s.size - 1) := by
  have e : sufI s = 3 := by unfold sufI; rw [dif_pos h, if_pos hd]
  exact ⟨e, by unfold brS; rw [if_neg (by omega)]⟩
theorem suf_m {s : ByteArray} (h : 0 < s.size) (hd : ((s[s.size - 1]'(by omega)).toNat : Int) = 109) : sufI s = 4 ∧ brS s = s.extract 0 (s.size - 1) := by
  have e : sufI s = 4 := by unfold sufI; rw [dif_pos h, if_neg (by omega), if_pos hd]
  exact ⟨e, by unfold brS; rw [if_neg (by omega)]⟩
theorem suf_n {s : ByteArray} (h : 0 < s.size) (h1 : ¬ ((s[s.size - 1]'(by omega)).toNat : Int) = 100) (h2 : ¬ ((s[s.size - 1]'(by omega)).toNat : Int) = 109) : sufI s = 2 ∧ brS s = s := by
  have e : sufI s = 2 := by unfold sufI; rw [dif_pos h, if_neg h1, if_neg h2]
  exact ⟨e, by unfold brS; rw [if_pos e]⟩
theorem suf_bd (s : ByteArray) : sufI s = 2 ∨ sufI s = 3 ∨ sufI s = 4 := by
  unfold sufI; split
  · split
    · exact .inr (.inl rfl)
    · split
      · exact .inr (.inr rfl)
      · exact .inl rfl
  · exact .inl rfl
theorem br_size (s : ByteArray) : (brS s).size ≤ s.size := by
  unfold brS; split
  · exact Nat.le_refl _
  · rw [ByteArray.size_extract]; omega

/-- Is s a number text? Its value and its dimension. -/
def decB (s : ByteArray) : Bool := frmB (brS s).data.toList
noncomputable def decN (s : ByteArray) : Int := if decB s = true then mkN (digN (brS s).data.toList) (digD (brS s).data.toList) else 0
noncomputable def decD (s : ByteArray) : Int := if decB s = true then mkD (digN (brS s).data.toList) (digD (brS s).data.toList) else 0
def decX (s : ByteArray) : Int := if decB s = true then sufI s else 0
theorem dec_no {s : ByteArray} (h : decB s = false) : decN s = 0 ∧ decD s = 0 ∧ decX s = 0 := by
  unfold decN decD decX; rw [if_neg (by simp [h]), if_neg (by simp [h]), if_neg (by simp [h])]; exact ⟨rfl, rfl, rfl⟩
theorem dec_yes {s : ByteArray} (h : decB s = true) : decN s = mkN (digN (brS s).data.toList) (digD (brS s).data.toList) ∧ decD s = mkD (digN (brS s).data.toList) (digD (brS s).data.toList) ∧ decX s = sufI s := by
  unfold decN decD decX; rw [if_pos h, if_pos h, if_pos h]; exact ⟨rfl, rfl, rfl⟩

theorem val_app (a b : List UInt8) : val (a ++ b) = val a * ((10 ^ b.length : Nat) : Int) + val b := by
  induction b using snoc_ind with
  | h0 => simp [val_nil]
  | h1 l c ih =>
    rw [← List.append_assoc, val_snoc, ih, val_snoc, List.length_append, List.length_cons, List.length_nil, Nat.zero_add, Nat.pow_succ]
    push_cast
    grind

/-! Lowest terms over 2 and 5 -/
theorem cop_of {g : Nat} (hg : g ∣ 10000) (h2 : ¬ 2 ∣ g) (h5 : ¬ 5 ∣ g) : g = 1 := by
  have c2 : Nat.Coprime g 2 := by
    have h : Nat.gcd g 2 ∣ 2 := Nat.gcd_dvd_right _ _
    have hl := Nat.le_of_dvd (by decide) h
    have hp : 0 < Nat.gcd g 2 := Nat.gcd_pos_of_pos_right _ (by decide)
    rcases (show Nat.gcd g 2 = 1 ∨ Nat.gcd g 2 = 2 by omega) with e | e
    · exact e
    · exact absurd (e ▸ Nat.gcd_dvd_left g 2) h2
  have c5 : Nat.Coprime g 5 := by
    have h : Nat.gcd g 5 ∣ 5 := Nat.gcd_dvd_right _ _
    have hl := Nat.le_of_dvd (by decide) h
    have hp : 0 < Nat.gcd g 5 := Nat.gcd_pos_of_pos_right _ (by decide)
    rcases (show Nat.gcd g 5 = 1 ∨ Nat.gcd g 5 = 2 ∨ Nat.gcd g 5 = 3 ∨ Nat.gcd g 5 = 4 ∨ Nat.gcd g 5 = 5 by omega) with e | e | e | e | e
    · exact e
    · rw [e] at h; exact absurd h (by decide)
    · rw [e] at h; exact absurd h (by decide)
    · rw [e] at h; exact absurd h (by decide)
    · exact absurd (e ▸ Nat.gcd_dvd_left g 5) h5
  have c : Nat.Coprime g (2 ^ 4 * 5 ^ 4) := Nat.Coprime.mul_right (Nat.Coprime.pow_right 4 c2) (Nat.Coprime.pow_right 4 c5)
  have e : Nat.gcd g 10000 = g := Nat.gcd_eq_left hg
  have e2 : Nat.gcd g (2 ^ 4 * 5 ^ 4) = 1 := c
  rw [show 2 ^ 4 * 5 ^ 4 = 10000 by decide, e] at e2
  exact e2

/-- N/D has the value n/d; the rest of what two loops do to it. -/
structure Red (n d N D : Int) : Prop where
  pos : 0 < D
  n0 : 0 ≤ N
  le : D ≤ 10000
  nle : N < 10000000000000
  dvd : D ∣ 10000
  eq : N * d = n * D
theorem Red.start {n d : Int} (h0 : 0 ≤ n) (h1 : n < 10000000000000) (d1 : 1 ≤ d) (d2 : d ∣ 10000) : Red n d n d :=
  ⟨by omega, h0, Int.le_of_dvd (by decide) d2, h1, d2, rfl⟩
theorem Red.step {n d N D p : Int} (h : Red n d N D) (hp : 2 ≤ p) (hN : N % p = 0) (hD : D % p = 0) : Red n d (N / p) (D / p) ∧ D / p < D := by
  obtain ⟨a, ha⟩ := Int.dvd_of_emod_eq_zero hN
  obtain ⟨b, hb⟩ := Int.dvd_of_emod_eq_zero hD
  have e1 : N / p = a := by rw [ha, Int.mul_ediv_cancel_left _ (by omega)]
  have e2 : D / p = b := by rw [hb, Int.mul_ediv_cancel_left _ (by omega)]
  have hpos := h.pos
  have hn0 := h.n0
  have hb0 : 0 < b := by
    rcases Int.lt_or_le 0 b with hx | hx
    · exact hx
    · have := Int.mul_nonneg (show 0 ≤ p by omega) (show 0 ≤ -b by omega)
      have e : p * -b = -(p * b) := Int.mul_neg _ _
      omega
  have ha0 : 0 ≤ a := by
    rcases Int.lt_or_le a 0 with hx | hx
    · have := Int.mul_pos (show 0 < p by omega) (show 0 < -a by omega)
      have e : p * -a = -(p * a) := Int.mul_neg _ _
      omega
    · exact hx
  have l1 : 2 * b ≤ p * b := Int.mul_le_mul_of_nonneg_right hp (by omega)
  have l2 : 2 * a ≤ p * a := Int.mul_le_mul_of_nonneg_right hp ha0
  have hle := h.le
  have hnle := h.nle
  rw [e1, e2]
  refine ⟨⟨hb0, ha0, by omega, by omega, ?_, ?_⟩, by omega⟩
  · exact Int.dvd_trans ⟨p, by rw [hb, Int.mul_comm]⟩ h.dvd
  · have he := h.eq
    rw [ha, hb] at he
    have : p * (a * d) = p * (n * b) := by grind
    exact Int.eq_of_mul_eq_mul_left (by omega) this
theorem Red.fin {n d N D : Int} (h : Red n d N D) (hd : 0 < d) (h0 : 0 ≤ n) (h1 : n < 10000000000000) (dle : d ≤ 10000) (h2 : ¬ (N % 2 = 0 ∧ D % 2 = 0)) (h5 : ¬ (N % 5 = 0 ∧ D % 5 = 0)) : mkN n d = N ∧ mkD n d = D := by
  have hpos := h.pos
  have hg : Nat.gcd N.natAbs D.natAbs = 1 := by
    have d1 := Nat.gcd_dvd_left N.natAbs D.natAbs
    have d2 := Nat.gcd_dvd_right N.natAbs D.natAbs
    have d3 : D.natAbs ∣ 10000 := by have := Int.natAbs_dvd_natAbs.2 h.dvd; simpa using this
    refine cop_of (Nat.dvd_trans d2 d3) (fun k => h2 ?_) (fun k => h5 ?_)
    · have k1 := Nat.dvd_trans k d1
      have k2 := Nat.dvd_trans k d2
      omega
    · have k1 := Nat.dvd_trans k d1
      have k2 := Nat.dvd_trans k d2
      omega
  have e : mkN n d = nN n d ∧ mkD n d = nD n d := by
    unfold mkN mkD mkS
    rw [if_neg (by omega), if_neg (by omega), if_neg (by omega)]
    have : (d.natAbs : Int) = d := by omega
    rw [this]; exact ⟨rfl, rfl⟩
  rw [e.1, e.2]
  have hok : nOk n d = true := by
    have p1 := rD_pos n d hd
    have m1 := rD_mul n d
    have m2 := rN_mul n d
    have gp := gOf_pos n d hd
    have b1 : rD n d ≤ d := by
      have : 1 * rD n d ≤ (gOf n d : Int) * rD n d := Int.mul_le_mul_of_nonneg_right (by omega) (by omega)
      omega
    have b2 : (rN n d).natAbs ≤ n.natAbs := by
      have e : n.natAbs = gOf n d * (rN n d).natAbs := by
        have := congrArg Int.natAbs m2; rw [Int.natAbs_mul, Int.natAbs_natCast] at this; exact this
      rw [e]; exact Nat.le_mul_of_pos_left _ gp
    unfold nOk; simp; omega
  rcases n_cases n d hd with ⟨_, _, _, hn⟩ | ⟨_, _, hv, he⟩
  · rw [hok] at hn; cases hn
  · have hv2 := (validB_iff _ _).1 hv
    refine low_unique (by omega) hpos hv2.2 hg ?_
    have he2 := h.eq
    generalize nN n d = x at *
    generalize nD n d = y at *
    have : d * (x * D) = d * (N * y) := by grind
    exact Int.eq_of_mul_eq_mul_left (by omega) this

theorem dvd_ten (k : Nat) (h : k ≤ 4) : ((10 ^ k : Nat) : Int) ∣ 10000 := by
  rcases (show k = 0 ∨ k = 1 ∨ k = 2 ∨ k = 3 ∨ k = 4 by omega) with rfl | rfl | rfl | rfl | rfl <;> decide

/-! What decides whether a text is a number -/
theorem decB_eq (s : ByteArray) : decB s = ((decide (1 ≤ (ahS (brS s)).size) && (decide ((ahS (brS s)).size ≤ 9) && (!(decide (2 ≤ (ahS (brS s)).size) && hd0 (ahS (brS s)).data.toList) && (!pnS (brS s) || (decide (1 ≤ (bhS (brS s)).size) && decide ((bhS (brS s)).size ≤ 4)))))) && (allD (ahS (brS s)).data.toList && allD (bhS (brS s)).data.toList)) := by
  unfold decB frmB lenB
  rw [ahS_size, bhS_size]
  unfold ahS bhS pnS
  rw [mk_list, mk_list]
theorem hd0_at {a : ByteArray} (h : 0 < a.size) : hd0 a.data.toList = ((a[0].toNat : Int) == 48) := by
  rw [list_head a h]; rfl
theorem dec_n1 {s a b : ByteArray} {p : Bool} (ha : ahS (brS s) = a) (hb : bhS (brS s) = b) (hp : pnS (brS s) = p) (h : p = true) (h2 : ¬ (1 ≤ b.size ∧ b.size ≤ 4)) : decB s = false := by
  rw [decB_eq, ha, hb, hp, h]
  rcases (show b.size < 1 ∨ 4 < b.size by omega) with h3 | h3
  · have : decide (1 ≤ b.size) = false := decide_eq_false (by omega)
    rw [this]; simp
  · have : decide (b.size ≤ 4) = false := by simp; omega
    rw [this]; simp
theorem dec_n2 {s a b : ByteArray} (ha : ahS (brS s) = a) (hb : bhS (brS s) = b) (h : allD (a.data.toList ++ b.data.toList) = false) : decB s = false := by
  rw [decB_eq, ha, hb]
  unfold allD at *
  rw [List.all_append] at h
  rw [h]; simp
theorem dec_n3 {s a : ByteArray} (ha : ahS (brS s) = a) (h : ¬ (1 ≤ a.size ∧ a.size ≤ 9)) : decB s = false := by
  rw [decB_eq, ha]
  rcases (show a.size < 1 ∨ 9 < a.size by omega) with h3 | h3
  · have : decide (1 ≤ a.size) = false := decide_eq_false (by omega)
    rw [this]; simp
  · have : decide (a.size ≤ 9) = false := by simp; omega
    rw [this]; simp
theorem dec_n4 {s a : ByteArray} (ha : ahS (brS s) = a) (h : 2 ≤ a.size) (h0 : (a[0].toNat : Int) = 48) : decB s = false := by
  have e : hd0 a.data.toList = true := by rw [hd0_at (by omega)]; simpa using h0
  have e2 : decide (2 ≤ a.size) = true := by simpa using h
  rw [decB_eq, ha, e, e2]; simp
theorem dec_y {s a b : ByteArray} {p : Bool} (ha : ahS (brS s) = a) (hb : bhS (brS s) = b) (hp : pnS (brS s) = p) (h1 : 1 ≤ a.size) (h9 : a.size ≤ 9) (h0 : a.size = 1 ∨ ∃ h : 0 < a.size, ¬ ((a[0]'h).toNat : Int) = 48) (hb4 : p = true → 1 ≤ b.size ∧ b.size ≤ 4)
    (hA : allD a.data.toList = true) (hB : allD b.data.toList = true) : decB s = true := by
  have e1 : decide (1 ≤ a.size) = true := by simpa using h1
  have e2 : decide (a.size ≤ 9) = true := by simpa using h9
  have e3 : (decide (2 ≤ a.size) && hd0 a.data.toList) = false := by
    rcases h0 with h0 | ⟨h, h0⟩
    · have : decide (2 ≤ a.size) = false := by simp; omega
      rw [this]; rfl
    · have : hd0 a.data.toList = false := by rw [hd0_at h]; simpa using h0
      rw [this]; simp
  have e4 : (!p || (decide (1 ≤ b.size) && decide (b.size ≤ 4))) = true := by
    cases p
    · rfl
    · have := hb4 rfl; simp; exact this
  rw [decB_eq, ha, hb, hp, e1, e2, e3, e4, hA, hB]; rfl
theorem dec_parts {s a b : ByteArray} {p : Bool} (ha : ahS (brS s) = a) (hb : bhS (brS s) = b) (hp : pnS (brS s) = p) (h : decB s = true) :
    1 ≤ a.size ∧ a.size ≤ 9 ∧ b.size ≤ 4 ∧ allD a.data.toList = true ∧ allD b.data.toList = true ∧ (p = true → 1 ≤ b.size) := by
  have hz := noS (brS s)
  rw [decB_eq, ha, hb, hp] at h
  rw [hp, hb] at hz
  simp only [Bool.and_eq_true, decide_eq_true_eq, Bool.or_eq_true] at h
  obtain ⟨⟨h1, h2, h3, h4⟩, h5, h6⟩ := h
  refine ⟨h1, h2, ?_, h5, h6, fun hp => ?_⟩
  · rcases h4 with h4 | h4
    · have := (hz (by simpa using h4)).2; rw [this]; decide
    · exact h4.2
  · rcases h4 with h4 | h4
    · rw [hp] at h4; cases h4
    · exact h4.1
theorem dig_of {s a b : ByteArray} (ha : ahS (brS s) = a) (hb : bhS (brS s) = b) : digN (brS s).data.toList = val (a.data.toList ++ b.data.toList) ∧ digD (brS s).data.toList = ((10 ^ b.size : Nat) : Int) ∧ digN (brS s).data.toList = val a.data.toList * ((10 ^ b.size : Nat) : Int) + val b.data.toList := by
  have e1 : a.data.toList = ahd (brS s).data.toList := by rw [← ha, ahS, mk_list]
  have e2 : b.data.toList = bhd (brS s).data.toList := by rw [← hb, bhS, mk_list]
  have e3 : b.size = (bhd (brS s).data.toList).length := by rw [← size_list, e2]
  unfold digN digD
  rw [val_app, e1, e2, e3]; exact ⟨rfl, rfl, rfl⟩

end Go.Proofs.YtnhmebhmlbofgaaDoor.Tok

/- Contracts of the small functions of token and of the reference: bytes, words, blanks. No conditions but those printed. -/
namespace Go.Proofs.YtnhmebhmlbofgaaDoor
open Go.RowKit Cal Str Tok
set_option linter.unusedVariables false

theorem u8_bd (c : UInt8) : 0 ≤ (c.toNat : Int) ∧ (c.toNat : Int) ≤ 255 := ⟨by omega, by have := c.toNat_lt; omega⟩

theorem lower_any (c : UInt8) (w : World) :
    Calls Tryd.prog 81 #[.int .u8 (c.toNat : Int)] w fun e w' => e = .returned (.bool (low c)) ∧ w = w' := by
  obtain ⟨c0, c1⟩ := u8_bd c
  by_cases h1 : 97 ≤ (c.toNat : Int) <;> by_cases h2 : (c.toNat : Int) ≤ 122
  all_goals
    go_enter Tryd.func81, Tryd.ntmps81
    go_wp2
    go_ret
    exact ⟨ret_b (by simp [low]; omega), rfl⟩
theorem letter_any (c : UInt8) (w : World) :
    Calls Tryd.prog 62 #[.int .u8 (c.toNat : Int)] w fun e w' => e = .returned (.bool (low c)) ∧ w = w' := by
  obtain ⟨c0, c1⟩ := u8_bd c
  by_cases h1 : 97 ≤ (c.toNat : Int) <;> by_cases h2 : (c.toNat : Int) ≤ 122
  all_goals
    go_enter Tryd.func62, Tryd.ntmps62
    go_wp2
    go_ret
    exact ⟨ret_b (by simp [low]; omega), rfl⟩
theorem digit_any (c : UInt8) (w : World) :
    Calls Tryd.prog 86 #[.int .u8 (c.toNat : Int)] w fun e w' => e = .returned (.bool (dgb c)) ∧ w = w' := by
  obtain ⟨c0, c1⟩ := u8_bd c
  by_cases h1 : 48 ≤ (c.toNat : Int) <;> by_cases h2 : (c.toNat : Int) ≤ 57
  all_goals
    go_enter Tryd.func86, Tryd.ntmps86
    go_wp2
    go_ret
    exact ⟨ret_b (by simp [dgb]; omega), rfl⟩
theorem rdigit_any (c : UInt8) (w : World) :
    Calls Tryd.prog 63 #[.int .u8 (c.toNat : Int)] w fun e w' => e = .returned (.bool (dgb c)) ∧ w = w' := by
  obtain ⟨c0, c1⟩ := u8_bd c
  by_cases h1 : 48 ≤ (c.toNat : Int) <;> by_cases h2 : (c.toNat : Int) ≤ 57
  all_goals
    go_enter Tryd.func63, Tryd.ntmps63
    go_wp2
    go_ret
    exact ⟨ret_b (by simp [dgb]; omega), rfl⟩
theorem inWord_any (c : UInt8) (w : World) :
    Calls Tryd.prog 82 #[.int .u8 (c.toNat : Int)] w fun e w' => e = .returned (.bool (inw c)) ∧ w = w' := by
  obtain ⟨c0, c1⟩ := u8_bd c
  have hi : Hid (inw c = (low c || (dgb c || ((c.toNat : Int) == 95)))) := rfl
  cases hl : low c <;> cases hd : dgb c
  all_goals
    go_enter Tryd.func82, Tryd.ntmps82
    go_wp2_with (first | (go_at_call 81; refine (lower_any _ _).mono ?_; rintro e w1 ⟨rfl, rfl⟩) | (go_at_call 86; refine (digit_any _ _).mono ?_; rintro e w1 ⟨rfl, rfl⟩))
    go_ret
    exact ⟨ret_b (by rw [hi.out, hl, hd]; rfl), rfl⟩

set_option maxHeartbeats 1000000 in
theorem IsWord_any (s : ByteArray) (w : World) (hs : s.size ≤ maxLen) :
    Calls Tryd.prog 74 #[.string s] w fun e w' => e = .returned (.bool (wordB s)) ∧ w = w' := by
  unfold maxLen at hs
  by_cases h0 : s.size < 1
  · have hn : Hid (wordB s = false) := wordB_short h0
    go_enter Tryd.func74, Tryd.ntmps74
    go_wp2
    go_ret
    exact ⟨ret_b hn.out.symm, rfl⟩
  · by_cases h12 : 12 < s.size
    · have hn : Hid (wordB s = false) := wordB_long h12
      go_enter Tryd.func74, Tryd.ntmps74
      go_wp2
      go_ret
      exact ⟨ret_b hn.out.symm, rfl⟩
    · have hp : 0 < s.size := by omega
      have hlen : (s.size : Int) ≤ 12 := by omega
      cases hl : low (s[0]'hp)
      · have hn : Hid (wordB s = false) := wordB_head hp hl
        go_enter Tryd.func74, Tryd.ntmps74
        go_wp2_with (go_at_call 81; refine (lower_any _ _).mono ?_; rintro e w1 ⟨rfl, rfl⟩)
        go_ret
        exact ⟨ret_b hn.out.symm, rfl⟩
      · have hh := Lib.hid hl
        go_enter Tryd.func74, Tryd.ntmps74
        go_wp2_with (go_at_call 81; refine (lower_any _ _).mono ?_; rintro e w1 ⟨rfl, rfl⟩)
        go_loop [3] (fun i => ∃ k : Nat, k ≤ s.size ∧ i = .int .i64 k ∧ Hid ((s.data.toList.take k).all inw = true)) (fun i => s.size - (intOf i).toNat)
        case atStart => exact ⟨0, by omega, rfl, rfl⟩
        case round =>
          obtain ⟨k, hk, rfl, hA⟩ := hrel
          clear hl
          by_cases hlt : k < s.size
          · have hts := Lib.hid (take_snoc s k hlt)
            cases hi : inw s[k]
            · have hn : Hid (wordB s = false) := wordB_byte hlt hi
              go_wp2_with (go_at_call 82; refine (inWord_any _ _).mono ?_; rintro e w1 ⟨rfl, rfl⟩)
              go_ret
              exact ⟨ret_b hn.out.symm, rfl⟩
            · have hA2 : Hid ((s.data.toList.take (k + 1)).all inw = true) := by
                show _ = _; rw [hts.out, List.all_append, hA.out]; simp [hi]
              go_wp2_with (go_at_call 82; refine (inWord_any _ _).mono ?_; rintro e w1 ⟨rfl, rfl⟩)
              go_round
              case rel => exact ⟨k + 1, by omega, by go_num, hA2⟩
              case measure => simp [intOf]; omega
          · have hn : Hid (wordB s = true) := wordB_all hp (by omega) hh.out (by have := hA.out; rwa [take_all s k (by omega)] at this)
            go_wp2
            go_ret
            exact ⟨ret_b hn.out.symm, rfl⟩

set_option maxHeartbeats 1000000 in
theorem rIsWord_any (s : ByteArray) (w : World) (hs : s.size ≤ maxLen) :
    Calls Tryd.prog 52 #[.string s] w fun e w' => e = .returned (.bool (wordB s)) ∧ w = w' := by
  unfold maxLen at hs
  go_enter Tryd.func52, Tryd.ntmps52
  go_wp2
  go_loop [3] (fun i => ∃ k : Nat, k ≤ s.size ∧ i = .int .i64 k ∧ Hid (okL (s.data.toList.take k) = true)) (fun i => s.size - (intOf i).toNat)
  case atStart => exact ⟨0, by omega, rfl, rfl⟩
  case round =>
    obtain ⟨k, hk, rfl, hA⟩ := hrel
    by_cases hlt : k < s.size
    · obtain ⟨c0, c1⟩ := u8_bd s[k]
      cases hl : low s[k]
      · by_cases hk0 : k = 0
        · have hn : Hid (wordB s = false) := by subst hk0; exact wordB_head hlt hl
          subst hk0
          go_wp2_with (go_at_call 62; refine (letter_any _ _).mono ?_; rintro e w1 ⟨rfl, rfl⟩)
          go_ret
          exact ⟨ret_b hn.out.symm, rfl⟩
        · have k0 : ((k : Int) == 0) = false := by simpa using hk0
          cases hd : dgb s[k]
          · by_cases h95 : (s[k].toNat : Int) = 95
            · have hA2 : Hid (okL (s.data.toList.take (k + 1)) = true) := okL_step hlt hA.out (by simp [inw, h95]) (by omega)
              have e1 : ((s[k].toNat : Int) != 95) = false := by simpa using h95
              clear h95
              go_wp2_with (first | (go_at_call 62; refine (letter_any _ _).mono ?_; rintro e w1 ⟨rfl, rfl⟩) | (go_at_call 63; refine (rdigit_any _ _).mono ?_; rintro e w1 ⟨rfl, rfl⟩))
              go_round
              case rel => exact ⟨k + 1, by omega, by go_num, hA2⟩
              case measure => simp [intOf]; omega
            · have hn : Hid (wordB s = false) := wordB_byte hlt (by simp [inw, hl, hd, h95])
              have e1 : ((s[k].toNat : Int) != 95) = true := by simpa using h95
              go_wp2_with (first | (go_at_call 62; refine (letter_any _ _).mono ?_; rintro e w1 ⟨rfl, rfl⟩) | (go_at_call 63; refine (rdigit_any _ _).mono ?_; rintro e w1 ⟨rfl, rfl⟩))
              go_ret
              exact ⟨ret_b hn.out.symm, rfl⟩
          · have hA2 : Hid (okL (s.data.toList.take (k + 1)) = true) := okL_step hlt hA.out (by simp [inw, hd]) (by omega)
            go_wp2_with (first | (go_at_call 62; refine (letter_any _ _).mono ?_; rintro e w1 ⟨rfl, rfl⟩) | (go_at_call 63; refine (rdigit_any _ _).mono ?_; rintro e w1 ⟨rfl, rfl⟩))
            go_round
            case rel => exact ⟨k + 1, by omega, by go_num, hA2⟩
            case measure => simp [intOf]; omega
      · have hA2 : Hid (okL (s.data.toList.take (k + 1)) = true) := okL_low hlt hA.out hl
        go_wp2_with (go_at_call 62; refine (letter_any _ _).mono ?_; rintro e w1 ⟨rfl, rfl⟩)
        go_round
        case rel => exact ⟨k + 1, by omega, by go_num, hA2⟩
        case measure => simp [intOf]; omega
    · have hok : okL s.data.toList = true := by have := hA.out; rwa [take_all s k (by omega)] at this
      have hn := Lib.hid (wordB_ok hok)
      clear hok
      rcases (show (1 ≤ s.size ∧ s.size ≤ 12) ∨ ¬ 1 ≤ s.size ∨ (1 ≤ s.size ∧ ¬ s.size ≤ 12) by omega) with ⟨h1, h12⟩ | h1 | ⟨h1, h12⟩
      all_goals
        go_wp2
        go_ret
        exact ⟨ret_b (by rw [hn.out]; first | rfl | (rw [Bool.eq_iff_iff]; simp; omega) | (rw [Bool.eq_iff_iff]; simp [*]; done) | (rw [Bool.eq_iff_iff]; simp [*]; omega)), rfl⟩

end Go.Proofs.YtnhmebhmlbofgaaDoor

/- Contracts of strings.Cut at one byte, of token.natural and of the reference's parts. No conditions but those printed. -/
namespace Go.Proofs.YtnhmebhmlbofgaaDoor
open Go.RowKit Cal Str Tok Frac
set_option linter.unusedVariables false

theorem index1_any (s : ByteArray) (w : World) : Calls Tryd.prog 91 #[.string s, .string ⟨#[46]⟩] w fun e w' => e = .returned (.int .i64 (Lib.indexByte s.data.toList 46)) ∧ w = w' :=
  (Tryd.stringslite_Index_one s 46 w).mono fun e w' ⟨a, b⟩ => ⟨a, b.symm⟩

set_option maxHeartbeats 1000000 in
theorem cut1_any (s : ByteArray) (w : World) (hs : s.size ≤ maxLen) :
    Calls Tryd.prog 85 #[.string s, .string ⟨#[46]⟩] w fun e w' => e = .returned (.tuple #[.string (ahS s), .string (bhS s), .bool (pnS s)]) ∧ Rel w w' := by
  unfold maxLen at hs
  rcases idx_pnt s.data.toList with ⟨hp, hi⟩ | ⟨hp, hi, hl⟩
  · have hr := Lib.hid (noS s hp)
    have hP : Hid (pnS s = false) := hp
    have hI := Lib.hid hi
    clear hp hi
    go_enter Tryd.func85, Tryd.ntmps85
    go_wp2_with (go_at_call 91; refine (index1_any _ _).mono ?_; rw [hI.out]; rintro e w1 ⟨rfl, rfl⟩)
    refine bodyPost_ret ?_ rfl ⟨rfl, Rel.refl _⟩
    rw [hr.out.1, hr.out.2, hP.out]
    simp [results, Tryd.results85, go_sem]
  · obtain ⟨n, hn⟩ : ∃ n, (ahd s.data.toList).length = n := ⟨_, rfl⟩
    have hlen := size_list s
    rw [hn] at hi hl
    rw [hlen] at hl
    have e1 := Lib.hid (ahS_take s hn)
    have e2 := Lib.hid (bhS_drop s hp hn)
    have hP : Hid (pnS s = true) := hp
    have hI := Lib.hid hi
    clear hp hi hn hlen
    have q1 : IntKind.i64.wrap ((n : Int) + 1) = (n : Int) + 1 := IntWalk.i64_in _ ⟨by omega, by omega⟩
    have q2 : ((n : Int) + 1).toNat = n + 1 := by omega
    have q3 : (0 : Int) ≤ (n : Int) + 1 := by omega
    have q4 : (n : Int) + 1 ≤ (s.size : Int) := by omega
    have q5 : (n : Int) ≤ (s.size : Int) := by omega
    go_enter Tryd.func85, Tryd.ntmps85
    go_wp2_with (go_at_call 91; refine (index1_any _ _).mono ?_; rw [hI.out]; rintro e w1 ⟨rfl, rfl⟩)
    refine wp_region_calm (fun _ _ => True) (fun _ => false) [0, 1, 2, 3, 4, 5, 6, 7, 8, 9, 10, 11] 0 (by kernel_rfl) (by kernel_rfl) (fun _ _ _ _ _ => trivial) trivial (fun w0 h0 => ?_)
    iterate 12
      refine wpCalm_go rfl (by kernel_rfl) (fun K hK => ?_)
      apply Exists.intro
      refine ⟨fun M w hM hS => ?_, hK _ ?_⟩
      · unfold calmAt
        go_simp
        exact ⟨rfl, Rel.refl _⟩
      clear hK K
    refine wpCalm_nil (wpAnyR_end (by kernel_rfl) (fun w1 h1 => ?_))
    simp only [Act.put, List.setIfInBounds_toArray, List.set_cons_zero, List.set_cons_succ]
    go_wp2
    refine bodyPost_ret ?_ rfl ⟨rfl, h0.trans h1⟩
    rw [← e1.out, ← e2.out, hP.out]
    simp [results, Tryd.results85, go_sem]

theorem cut_any (s : ByteArray) (w : World) (hs : s.size ≤ maxLen) :
    Calls Tryd.prog 79 #[.string s, .string ⟨#[46]⟩] w fun e w' => e = .returned (.tuple #[.string (ahS s), .string (bhS s), .bool (pnS s)]) ∧ Rel w w' := by
  go_enter Tryd.func79, Tryd.ntmps79
  go_wp2_with (go_at_call 85; refine (cut1_any _ _ hs).mono ?_; rintro e w1 ⟨rfl, hb⟩)
  refine bodyPost_ret ?_ rfl ⟨rfl, hb⟩
  simp [results, Tryd.results79, go_sem]

theorem dgb_bd {c : UInt8} (h : dgb c = true) : 48 ≤ (c.toNat : Int) ∧ (c.toNat : Int) ≤ 57 := by unfold dgb at h; simpa using h
theorem dgb_no {c : UInt8} (h : dgb c = false) : ¬ (48 ≤ (c.toNat : Int) ∧ (c.toNat : Int) ≤ 57) := by unfold dgb at h; simp at h; omega

set_option maxHeartbeats 1000000 in
theorem natural_any (s : ByteArray) (w : World) (hs : s.size ≤ 16) :
    Calls Tryd.prog 80 #[.string s] w fun e w' => e = .returned (.tuple #[.int .i64 (strV s), .bool (strB s)]) ∧ w = w' := by
  go_enter Tryd.func80, Tryd.ntmps80
  go_wp2
  go_loop [2, 4] (fun x i => ∃ k : Nat, k ≤ s.size ∧ i = .int .i64 k ∧ x = .int .i64 (val (s.data.toList.take k)) ∧ Hid (allD (s.data.toList.take k) = true)) (fun _ i => s.size - (intOf i).toNat)
  case atStart => exact ⟨0, by omega, rfl, rfl, rfl⟩
  case round =>
    obtain ⟨k, hk, rfl, rfl, hA⟩ := hrel
    have hl : (s.data.toList.take k).length ≤ k := List.length_take_le _ _
    obtain ⟨v0, v1⟩ := val_le16 _ hA.out (by omega)
    by_cases hlt : k < s.size
    · have hts := Lib.hid (take_snoc s k hlt)
      have c0 : 0 ≤ (s[k].toNat : Int) := by omega
      have c1 : (s[k].toNat : Int) ≤ 255 := by have := s[k].toNat_lt; omega
      cases hd : dgb s[k]
      · have hno := allD_not s k hlt (dgb_no hd)
        have hn0 := Lib.hid (numV_no hno)
        have hN := Lib.hid hno
        clear hno
        go_wp2_with (go_at_call 86; refine (digit_any _ _).mono ?_; rintro e w1 ⟨rfl, rfl⟩)
        go_ret2
        exact ⟨ret_ib hn0.out.symm hN.out.symm, rfl⟩
      · obtain ⟨d0, d1⟩ := dgb_bd hd
        have e1 : val (s.data.toList.take (k + 1)) = 10 * val (s.data.toList.take k) + ((s[k].toNat : Int) - 48) := by rw [hts.out, val_snoc]
        have e2 : allD (s.data.toList.take (k + 1)) = true := by rw [hts.out, allD_snoc, hA.out]; simp; omega
        have E1 := Lib.hid e1
        have E2 := Lib.hid e2
        clear e1 e2
        go_wp2_with (go_at_call 86; refine (digit_any _ _).mono ?_; rintro e w1 ⟨rfl, rfl⟩)
        go_round
        case rel => exact ⟨k + 1, by omega, by go_num, by rw [E1.out], E2⟩
        case measure => simp [intOf]; omega
    · have ht := take_all s k (by omega)
      have hv : val (s.data.toList.take k) = numV s.data.toList := by
        have := hA.out; rw [ht] at this; rw [numV_yes this, ht]
      have hT : allD s.data.toList = true := by rw [← ht]; exact hA.out
      have HV := Lib.hid hv
      have HT := Lib.hid hT
      clear ht hv hT
      go_wp2
      go_ret2
      exact ⟨ret_ib HV.out HT.out.symm, rfl⟩

end Go.Proofs.YtnhmebhmlbofgaaDoor

/- Contract of the reference's Decimal. No conditions but those printed. -/
namespace Go.Proofs.YtnhmebhmlbofgaaDoor
open Go.RowKit Cal Str Tok Frac
attribute [local go_sem] calmUpon
set_option linter.unusedVariables false
set_option linter.unusedSimpArgs false

def DecRes (s : ByteArray) (w : World) (e : Ending) (w' : World) : Prop := e = .returned (.tuple #[.agg #[.int .i64 (decN s), .int .i64 (decD s)], .int .i64 (decX s), .bool (decB s)]) ∧ Rel w w'

theorem pow_bd (k n : Nat) (h : k ≤ n + 4) : 1 ≤ ((10 ^ (k - n) : Nat) : Int) ∧ ((10 ^ (k - n) : Nat) : Int) ≤ 10000 := by
  have h1 : 1 ≤ 10 ^ (k - n) := Nat.one_le_pow _ _ (by decide)
  have h2 := Nat.pow_le_pow_right (n := 10) (by decide) (show k - n ≤ 4 by omega)
  omega
end Go.Proofs.YtnhmebhmlbofgaaDoor

/- Contract of token.Decimal. No conditions but those printed. -/
namespace Go.Proofs.YtnhmebhmlbofgaaDoor
open Go.RowKit Cal Str Tok Frac
attribute [local go_sem] calmUpon
set_option linter.unusedVariables false
set_option linter.unusedSimpArgs false

/-- The iterator in block i stands at pos. -/
def itSet (w : World) (i : Nat) (s : ByteArray) (pos : Nat) : World := { w with heap := w.heap.setIfInBounds i (.stringIter s pos) }
theorem itSet_heap (w : World) (i : Nat) (s : ByteArray) (pos k : Nat) (h : i < w.heap.size) : (itSet w i s pos).heap[k]? = if k = i then some (.stringIter s pos) else w.heap[k]? := by
  unfold itSet
  simp only [Array.getElem?_setIfInBounds]
  by_cases e : i = k
  · subst e; rw [if_pos rfl, if_pos h, if_pos rfl]
  · rw [if_neg e, if_neg (fun h => e h.symm)]
@[simp] theorem itSet_size (w : World) (i : Nat) (s : ByteArray) (pos : Nat) : (itSet w i s pos).heap.size = w.heap.size := by simp [itSet]
theorem itSet_below {B : Nat} {a w : World} (h : Below B a w) (i : Nat) (s : ByteArray) (pos : Nat) (hi : B ≤ i) : Below B a (itSet w i s pos) :=
  h.trans ⟨rfl, rfl, rfl, by simp, fun k hk => by unfold itSet; simp only [Array.getElem?_setIfInBounds]; rw [if_neg (by omega)]⟩
theorem itSet_cell (w : World) (i : Nat) (s : ByteArray) (pos : Nat) (b o : Nat) (h : b ≠ i) : (itSet w i s pos).cell? ⟨b, o, none⟩ = w.cell? ⟨b, o, none⟩ :=
  World.cell?_of_block (w := w) (by unfold itSet; simp only [Array.getElem?_setIfInBounds]; rw [if_neg (Ne.symm h)])
theorem itSet_frozen (w : World) (i : Nat) (s : ByteArray) (pos : Nat) (b o : Nat) (h : b ≠ i) : (itSet w i s pos).frozen? ⟨b, o, none⟩ = w.frozen? ⟨b, o, none⟩ :=
  World.frozen?_of_block (w := w) (by unfold itSet; simp only [Array.getElem?_setIfInBounds]; rw [if_neg (Ne.symm h)])
theorem run_next_at (P : Program) (w : World) (i : Nat) (s : ByteArray) (pos : Nat) (ty : TypeId) (hi : w.heap[i]? = some (.stringIter s pos)) (h : pos < s.size) (ha : (s[pos]'h).toNat < 128) :
    (Instr.next (.pointer (some ⟨i, 0, none⟩)) true ty).run P w = .ok (.tuple #[.bool true, .int .i64 pos, .int .i32 (s[pos]'h).toNat]) (itSet w i s (pos + 1)) := by
  simp only [Instr.next, getObj, setObj, Sem.run_bind, Sem.run, hi, Result.andThen, h, if_true, decode_ascii s pos h ha]
  simp [goInt, Sem.run, hi, itSet]
theorem run_next_stop (P : Program) (w : World) (i : Nat) (s : ByteArray) (pos : Nat) (ty : TypeId) (hi : w.heap[i]? = some (.stringIter s pos)) (h : ¬ pos < s.size) :
    (Instr.next (.pointer (some ⟨i, 0, none⟩)) true ty).run P w = .ok (.tuple #[.bool false]) w := by
  simp [Instr.next, getObj, Sem.run, hi, h]

/-- A block of two numbers in a world that has grown. -/
structure Duo (w wx : World) (g : Nat) (A B : Int) : Prop where
  rel : Rel w wx
  c0 : wx.cell? ⟨g, 0, none⟩ = some (.int .i64 A)
  c1 : wx.cell? ⟨g, 1, none⟩ = some (.int .i64 B)
  f0 : wx.frozen? ⟨g, 0, none⟩ = false
  f1 : wx.frozen? ⟨g, 1, none⟩ = false
  le : w.heap.size ≤ g
theorem Duo.lt {w wx : World} {g : Nat} {A B : Int} (h : Duo w wx g A B) : g < wx.heap.size := World.block_lt_of_cell? wx ⟨g, 0, none⟩ h.c0
theorem Duo.grow {w wx wy : World} {g : Nat} {A B : Int} (h : Duo w wx g A B) (r : Rel wx wy) : Duo w wy g A B :=
  ⟨h.rel.trans r, r.cell h.c0, r.cell h.c1, r.frozen h.lt h.f0, r.frozen h.lt h.f1, h.le⟩
theorem Duo.iter {w wx : World} {g : Nat} {A B : Int} (h : Duo w wx g A B) (i : Nat) (s : ByteArray) (pos : Nat) (hi : w.heap.size ≤ i) (hg : g ≠ i) : Duo w (itSet wx i s pos) g A B :=
  ⟨itSet_below h.rel i s pos hi, by rw [itSet_cell _ _ _ _ _ _ hg]; exact h.c0, by rw [itSet_cell _ _ _ _ _ _ hg]; exact h.c1, by rw [itSet_frozen _ _ _ _ _ _ hg]; exact h.f0, by rw [itSet_frozen _ _ _ _ _ _ hg]; exact h.f1, h.le⟩

theorem Duo.set0 {w wx : World} {g : Nat} {A B : Int} (h : Duo w wx g A B) (u : Int) : Duo w (wx.setCell ⟨g, 0, none⟩ (.int .i64 u)) g u B :=
  ⟨h.rel.setCell h.le _, World.cell?_setCell_same _ _ _ h.c0, by rw [World.cell?_setCell_other _ _ _ _ (by simp)]; exact h.c1, by rw [World.frozen?_setCell]; exact h.f0, by rw [World.frozen?_setCell]; exact h.f1, h.le⟩
theorem Duo.set1 {w wx : World} {g : Nat} {A B : Int} (h : Duo w wx g A B) (u : Int) : Duo w (wx.setCell ⟨g, 1, none⟩ (.int .i64 u)) g A u :=
  ⟨h.rel.setCell h.le _, by rw [World.cell?_setCell_other _ _ _ _ (by simp)]; exact h.c0, World.cell?_setCell_same _ _ _ h.c1, by rw [World.frozen?_setCell]; exact h.f0, by rw [World.frozen?_setCell]; exact h.f1, h.le⟩

theorem iter_keep {W w5 w6 : World} {i : Nat} {o : Obj} (I : W.heap[i]? = some o) (r : Rel W w5) (a : Addr) (u : Value) (hne : i ≠ a.block) (r6 : Rel (w5.setCell a u) w6) : w6.heap[i]? = some o := by
  have l1 : i < W.heap.size := (Array.getElem?_eq_some_iff.1 I).1
  have e1 := Below.block r i l1
  have l2 : i < (w5.setCell a u).heap.size := by have := Below.size r; simp; omega
  rw [Below.block r6 i l2, Below.heap_setCell _ _ _ _ hne, e1, I]

def lenS (a b : ByteArray) (p : Bool) : Bool := decide (1 ≤ a.size) && (decide (a.size ≤ 9) && (!(decide (2 ≤ a.size) && hd0 a.data.toList) && (!p || (decide (1 ≤ b.size) && decide (b.size ≤ 4)))))
theorem dec_len {s a b : ByteArray} {p : Bool} (ha : ahS (brS s) = a) (hb : bhS (brS s) = b) (hp : pnS (brS s) = p) : decB s = (lenS a b p && (strB a && strB b)) := by
  rw [decB_eq, ha, hb, hp]; rfl
theorem lenS_no1 {a b : ByteArray} {p : Bool} (h : a.size < 1) : lenS a b p = false := by
  unfold lenS; rw [decide_eq_false (show ¬ 1 ≤ a.size by omega)]; rfl
theorem lenS_no9 {a b : ByteArray} {p : Bool} (h : 9 < a.size) : lenS a b p = false := by
  unfold lenS; rw [decide_eq_false (show ¬ a.size ≤ 9 by omega)]; simp
theorem lenS_no0 {a b : ByteArray} {p : Bool} (h : 2 ≤ a.size) (h0 : (a[0].toNat : Int) = 48) : lenS a b p = false := by
  have e : hd0 a.data.toList = true := by rw [hd0_at (by omega)]; simpa using h0
  unfold lenS; rw [e, decide_eq_true h]; simp
theorem lenS_nob {a b : ByteArray} (h : ¬ (1 ≤ b.size ∧ b.size ≤ 4)) : lenS a b true = false := by
  have : (decide (1 ≤ b.size) && decide (b.size ≤ 4)) = false := by
    cases hx : (decide (1 ≤ b.size) && decide (b.size ≤ 4))
    · rfl
    · simp only [Bool.and_eq_true, decide_eq_true_eq] at hx; exact absurd hx h
  unfold lenS; rw [this]; simp
theorem lenS_yes {a b : ByteArray} {p : Bool} (h1 : 1 ≤ a.size) (h9 : a.size ≤ 9) (h0 : a.size ≤ 1 ∨ ∃ h : 0 < a.size, ¬ ((a[0]'h).toNat : Int) = 48) (hb4 : p = true → 1 ≤ b.size ∧ b.size ≤ 4) : lenS a b p = true := by
  have e3 : (decide (2 ≤ a.size) && hd0 a.data.toList) = false := by
    rcases h0 with h0 | ⟨h, h0⟩
    · rw [decide_eq_false (show ¬ 2 ≤ a.size by omega)]; rfl
    · have : hd0 a.data.toList = false := by rw [hd0_at h]; simpa using h0
      rw [this]; simp
  have e4 : (!p || (decide (1 ≤ b.size) && decide (b.size ≤ 4))) = true := by
    cases p
    · rfl
    · have := hb4 rfl; simp; exact this
  unfold lenS; rw [decide_eq_true h1, decide_eq_true h9, e3, e4]; rfl
theorem lenS_bd {s a b : ByteArray} {p : Bool} (ha : ahS (brS s) = a) (hb : bhS (brS s) = b) (hp : pnS (brS s) = p) (h : lenS a b p = true) : 1 ≤ a.size ∧ a.size ≤ 9 ∧ b.size ≤ 4 := by
  have hz := noS (brS s)
  rw [hp, hb] at hz
  unfold lenS at h
  simp only [Bool.and_eq_true, decide_eq_true_eq, Bool.or_eq_true] at h
  obtain ⟨h1, h2, h3, h4⟩ := h
  refine ⟨h1, h2, ?_⟩
  rcases h4 with h4 | h4
  · have := (hz (by simpa using h4)).2; rw [this]; decide
  · exact h4.2
theorem dec_ret_no {s : ByteArray} {w w' : World} (h : decB s = false) (r : Rel w w') : DecRes s w (.returned (.tuple #[.agg #[.int .i64 0, .int .i64 0], .int .i64 0, .bool false])) w' := by
  unfold DecRes; rw [(dec_no h).1, (dec_no h).2.1, (dec_no h).2.2, h]; exact ⟨rfl, r⟩

theorem vb {x y : Bool} (h : x = y) : Value.bool x = .bool y := by rw [h]

set_option maxRecDepth 100000 in
set_option maxHeartbeats 8000000 in
theorem Decimal_any (s : ByteArray) (w : World) (hs : s.size ≤ maxLen) :
    Calls Tryd.prog 73 #[.string s] w (DecRes s w) := by
  have hs0 := hs
  unfold maxLen at hs
  obtain ⟨t, ht⟩ : ∃ t, brS s = t := ⟨_, rfl⟩
  obtain ⟨d, hd⟩ : ∃ d, sufI s = d := ⟨_, rfl⟩
  have hts : t.size ≤ 9223372036854775807 := by have := br_size s; rw [ht] at this; omega
  obtain ⟨c, hc⟩ : ∃ c : Bool, c = decide (d = 3) := ⟨_, rfl⟩
  obtain ⟨a, ha⟩ : ∃ a, ahS t = a := ⟨_, rfl⟩
  obtain ⟨b, hb⟩ : ∃ b, bhS t = b := ⟨_, rfl⟩
  obtain ⟨p, hp⟩ : ∃ p, pnS t = p := ⟨_, rfl⟩
  have CUT : Hid (∀ w, Calls Tryd.prog 79 #[.string t, .string ⟨#[46]⟩] w fun e w' => e = .returned (.tuple #[.string a, .string b, .bool p]) ∧ Rel w w') := fun w => by
    have := cut_any t w (by unfold maxLen; omega); rwa [ha, hb, hp] at this
  have hasz : a.size ≤ 9223372036854775807 := by
    rw [← ha, ahS_size]; have := ahd_len t.data.toList; rw [size_list] at this; omega
  have hbsz : b.size ≤ 9223372036854775807 := by
    rw [← hb, bhS_size]; have := bhd_len t.data.toList; rw [size_list] at this; omega
  rw [← ht] at ha hb hp
  have HA := Lib.hid ha
  have HB := Lib.hid hb
  have HP := Lib.hid hp
  have HT := Lib.hid ht
  have HC := Lib.hid hc
  have HD := Lib.hid hd
  clear ht hd hc ha hb hp hs0
  go_enter Tryd.func73, Tryd.ntmps73
  go_upto_region 3 with (fail)
  go_cut [25] (fun s25 wx => s25 = .bool c ∧ w.alloc (.cells #[.int .i64 0, .int .i64 0] 31) = wx)
  case first =>
    by_cases h0 : 0 < s.size
    · have i1 : IntKind.i64.wrap ((s.size : Int) - 1) = (s.size : Int) - 1 := IntWalk.i64_in _ ⟨by omega, by omega⟩
      have i2 : ((s.size : Int) - 1).toNat = s.size - 1 := by omega
      have i3 : (0 : Int) ≤ (s.size : Int) - 1 := by omega
      have i4 : (1 : Int) ≤ (s.size : Int) := by omega
      have i5 : s.size - 1 < s.size := by omega
      by_cases h1 : ((s[s.size - 1]'(by omega)).toNat : Int) = 100
      · have e1 := (suf_d h0 h1).1
        rw [HD.out] at e1
        have E1 := Lib.hid e1
        have b1 : (((s[s.size - 1]'(by omega)).toNat : Int) == 100) = true := by simpa using h1
        clear e1 h1
        go_wp2
        go_meet
        case rel => exact ⟨by rw [HC.out, E1.out]; rfl, rfl⟩
      · have b1 : (((s[s.size - 1]'(by omega)).toNat : Int) == 100) = false := by simpa using h1
        have E1 : Hid (d = 2 ∨ d = 4) := by
          show _ ∨ _
          rw [← HD.out]
          by_cases h2 : ((s[s.size - 1]'(by omega)).toNat : Int) = 109
          · exact .inr (suf_m h0 h2).1
          · exact .inl (suf_n h0 h1 h2).1
        clear h1
        go_wp2
        go_meet
        case rel => exact ⟨by rw [HC.out, decide_eq_false (by rcases E1.out with h | h <;> rw [h] <;> decide)], rfl⟩
    · have e1 := (suf_nil h0).1
      rw [HD.out] at e1
      have E1 := Lib.hid e1
      clear e1
      go_wp2
      go_meet
      case rel => exact ⟨by rw [HC.out, E1.out]; rfl, rfl⟩
  case rest =>
    obtain ⟨rfl, rfl⟩ := hcut
    go_upto_if 25 with (fail)
    go_cut [0, 3] (fun s0 s3 wx => s0 = .string t ∧ s3 = .int .i64 d ∧ w.alloc (.cells #[.int .i64 0, .int .i64 0] 31) = wx)
    case first =>
      by_cases h0 : 0 < s.size
      · have i1 : IntKind.i64.wrap ((s.size : Int) - 1) = (s.size : Int) - 1 := IntWalk.i64_in _ ⟨by omega, by omega⟩
        have i2 : ((s.size : Int) - 1).toNat = s.size - 1 := by omega
        have i3 : (0 : Int) ≤ (s.size : Int) - 1 := by omega
        have i4 : (1 : Int) ≤ (s.size : Int) := by omega
        have i5 : s.size - 1 < s.size := by omega
        by_cases h1 : ((s[s.size - 1]'(by omega)).toNat : Int) = 100
        · obtain ⟨e1, e2⟩ := suf_d h0 h1
          rw [HD.out] at e1
          rw [HT.out] at e2
          obtain rfl : c = true := by rw [HC.out, e1]; rfl
          have E1 := Lib.hid e1
          have E2 := Lib.hid e2
          clear e1 e2 h1
          go_wp2
          go_meet
          case rel => exact ⟨by rw [E2.out], by rw [E1.out], rfl⟩
        · by_cases h2 : ((s[s.size - 1]'(by omega)).toNat : Int) = 109
          · obtain ⟨e1, e2⟩ := suf_m h0 h2
            rw [HD.out] at e1
            rw [HT.out] at e2
            obtain rfl : c = false := by rw [HC.out, e1]; rfl
            have E1 := Lib.hid e1
            have E2 := Lib.hid e2
            have b2 : (((s[s.size - 1]'(by omega)).toNat : Int) == 109) = true := by simpa using h2
            clear e1 e2 h1 h2
            go_wp2
            go_meet
            case rel => exact ⟨by rw [E2.out], by rw [E1.out], rfl⟩
          · obtain ⟨e1, e2⟩ := suf_n h0 h1 h2
            rw [HD.out] at e1
            rw [HT.out] at e2
            obtain rfl : c = false := by rw [HC.out, e1]; rfl
            have E1 := Lib.hid e1
            have E2 := Lib.hid e2
            have b2 : (((s[s.size - 1]'(by omega)).toNat : Int) == 109) = false := by simpa using h2
            clear e1 e2 h1 h2
            go_wp2
            go_meet
            case rel => exact ⟨by rw [E2.out], by rw [E1.out], rfl⟩
      · obtain ⟨e1, e2⟩ := suf_nil h0
        rw [HD.out] at e1
        rw [HT.out] at e2
        obtain rfl : c = false := by rw [HC.out, e1]; rfl
        have E1 := Lib.hid e1
        have E2 := Lib.hid e2
        clear e1 e2
        go_wp2
        go_meet
        case rel => exact ⟨by rw [E2.out], by rw [E1.out], rfl⟩
    case rest =>
      obtain ⟨rfl, rfl, rfl⟩ := hcut
      clear hs hts
      go_wp2_with fail
      with_reducible refine (CUT.out _).mono ?_
      rintro e w1 ⟨rfl, h1⟩
      have T1 : Hid (Duo w w1 w.heap.size 0 0) := (show Duo w (w.alloc (.cells #[.int .i64 0, .int .i64 0] 31)) w.heap.size 0 0 from ⟨(Rel.refl _).alloc _, by simp, by simp, by simp, by simp, Nat.le_refl _⟩).grow h1
      clear h1
      go_upto_region 8 with (fail)
      go_cut [79] (fun s79 wx => s79 = .bool (!lenS a b p) ∧ w1 = wx)
      case first =>
        by_cases g1 : 1 ≤ a.size
        · by_cases g9 : a.size ≤ 9
          · have hcases : (a.size ≤ 1 ∨ ∃ h : 0 < a.size, ¬ ((a[0]'h).toNat : Int) = 48) ∨ (2 ≤ a.size ∧ ∃ h : 0 < a.size, ((a[0]'h).toNat : Int) = 48) := by
              by_cases g2 : a.size ≤ 1
              · exact .inl (.inl g2)
              · by_cases h48 : ((a[0]'(by omega)).toNat : Int) = 48
                · exact .inr ⟨by omega, by omega, h48⟩
                · exact .inl (.inr ⟨by omega, h48⟩)
            rcases hcases with hok | ⟨g2, gp, h48⟩
            · obtain ⟨L, hL⟩ : ∃ L, Hid (lenS a b p = L) := ⟨_, rfl⟩
              have k : ((p = false ∧ L = true) ∨ (p = true ∧ b.size < 1 ∧ L = false) ∨ (p = true ∧ 1 ≤ b.size ∧ 4 < b.size ∧ L = false) ∨ (p = true ∧ 1 ≤ b.size ∧ b.size ≤ 4 ∧ L = true)) := by
                rw [← hL.out]
                clear hL
                cases p
                · exact .inl ⟨rfl, lenS_yes g1 g9 hok (fun h => by cases h)⟩
                · rcases (show b.size < 1 ∨ (1 ≤ b.size ∧ 4 < b.size) ∨ (1 ≤ b.size ∧ b.size ≤ 4) by omega) with h | ⟨h, h'⟩ | ⟨h, h'⟩
                  · exact .inr (.inl ⟨rfl, h, lenS_nob (by omega)⟩)
                  · exact .inr (.inr (.inl ⟨rfl, h, h', lenS_nob (by omega)⟩))
                  · exact .inr (.inr (.inr ⟨rfl, h, h', lenS_yes g1 g9 hok (fun _ => ⟨h, h'⟩)⟩))
              have hok2 : a.size ≤ 1 ∨ (2 ≤ a.size ∧ ∃ h : 0 < a.size, (((a[0]'h).toNat : Int) == 48) = false) := by
                rcases hok with h | ⟨h, h'⟩
                · exact .inl h
                · by_cases h2 : a.size ≤ 1
                  · exact .inl h2
                  · exact .inr ⟨by omega, h, by simpa using h'⟩
              clear hok
              rcases hok2 with g2 | ⟨g2, gp, b48⟩
              all_goals
                rcases k with ⟨rfl, rfl⟩ | ⟨rfl, hb1, rfl⟩ | ⟨rfl, hb1, hb4, rfl⟩ | ⟨rfl, hb1, hb4, rfl⟩
                all_goals
                  go_wp2
                  go_meet
                  case rel => exact ⟨by rw [hL.out]; exact vb (by first | rfl | (rw [Bool.eq_iff_iff]; simp; omega)), rfl⟩
            · have hL := Lib.hid (lenS_no0 (b := b) (p := p) g2 h48)
              have b48 : (((a[0]'gp).toNat : Int) == 48) = true := by simpa using h48
              clear h48
              go_wp2
              go_meet
              case rel => exact ⟨by rw [hL.out]; exact vb (by first | rfl | (rw [Bool.eq_iff_iff]; simp; omega)), rfl⟩
          · have g9' : 9 < a.size := by omega
            have hL := Lib.hid (lenS_no9 (b := b) (p := p) g9')
            clear g9
            go_wp2
            go_meet
            case rel => exact ⟨by rw [hL.out]; exact vb (by first | rfl | (rw [Bool.eq_iff_iff]; simp; omega)), rfl⟩
        · have g1' : a.size < 1 := by omega
          have hL := Lib.hid (lenS_no1 (b := b) (p := p) g1')
          clear g1
          go_wp2
          go_meet
          case rel => exact ⟨by rw [hL.out]; exact vb (by first | rfl | (rw [Bool.eq_iff_iff]; simp; omega)), rfl⟩
      case rest =>
        obtain ⟨rfl, rfl⟩ := hcut
        have hdl := dec_len HA.out HB.out HP.out
        obtain ⟨c0, c1, f0, f1, lt⟩ : _ ∧ _ ∧ _ ∧ _ ∧ _ := ⟨T1.out.c0, T1.out.c1, T1.out.f0, T1.out.f1, T1.out.lt⟩
        have R1 := Lib.hid T1.out.rel
        cases hL : lenS a b p
        · have hn : Hid (decB s = false) := by show _ = _; rw [hdl, hL]; rfl
          clear hdl
          ((try simp only []); (repeat (first | go_values | go_skip | go_guarded | go_step | go_upon | go_in)))
          refine bodyPost_ret (v := .tuple #[.agg #[.int .i64 0, .int .i64 0], .int .i64 0, .bool false]) ?_ rfl (dec_ret_no hn.out ?_)
          · simp [results, Tryd.results73, go_sem, c0, c1]
          · exact (R1.out.setCell (Nat.le_refl _) _).setCell (Nat.le_refl _) _
        · obtain ⟨a1, a9, b4⟩ := lenS_bd HA.out HB.out HP.out hL
          rw [hL] at hdl
          cases hA1 : strB a
          · have hn : Hid (decB s = false) := by show _ = _; rw [hdl, hA1]; rfl
            have NA : Hid (∀ w, Calls Tryd.prog 80 #[.string a] w fun e w' => e = .returned (.tuple #[.int .i64 (strV a), .bool false]) ∧ w = w') := fun w => by
              have := natural_any a w (by omega); rwa [hA1] at this
            clear hdl hA1
            go_wp2_with fail
            with_reducible refine (NA.out _).mono ?_
            rintro e w2 ⟨rfl, rfl⟩
            go_wp2_with fail
            with_reducible refine (natural_any _ _ (by omega)).mono ?_
            rintro e w2 ⟨rfl, rfl⟩
            ((try simp only []); (repeat (first | go_values | go_skip | go_guarded | go_step | go_upon | go_in)))
            refine bodyPost_ret (v := .tuple #[.agg #[.int .i64 0, .int .i64 0], .int .i64 0, .bool false]) ?_ rfl (dec_ret_no hn.out ?_)
            · simp [results, Tryd.results73, go_sem, c0, c1]
            · exact (R1.out.setCell (Nat.le_refl _) _).setCell (Nat.le_refl _) _
          · cases hB1 : strB b
            · have hn : Hid (decB s = false) := by show _ = _; rw [hdl, hA1, hB1]; rfl
              have NA : Hid (∀ w, Calls Tryd.prog 80 #[.string a] w fun e w' => e = .returned (.tuple #[.int .i64 (strV a), .bool true]) ∧ w = w') := fun w => by
                have := natural_any a w (by omega); rwa [hA1] at this
              have NB : Hid (∀ w, Calls Tryd.prog 80 #[.string b] w fun e w' => e = .returned (.tuple #[.int .i64 (strV b), .bool false]) ∧ w = w') := fun w => by
                have := natural_any b w (by omega); rwa [hB1] at this
              clear hdl hA1 hB1
              go_wp2_with fail
              with_reducible refine (NA.out _).mono ?_
              rintro e w2 ⟨rfl, rfl⟩
              go_wp2_with fail
              with_reducible refine (NB.out _).mono ?_
              rintro e w2 ⟨rfl, rfl⟩
              ((try simp only []); (repeat (first | go_values | go_skip | go_guarded | go_step | go_upon | go_in)))
              refine bodyPost_ret (v := .tuple #[.agg #[.int .i64 0, .int .i64 0], .int .i64 0, .bool false]) ?_ rfl (dec_ret_no hn.out ?_)
              · simp [results, Tryd.results73, go_sem, c0, c1]
              · exact (R1.out.setCell (Nat.le_refl _) _).setCell (Nat.le_refl _) _
            · have hn : decB s = true := by rw [hdl, hA1, hB1]; rfl
              clear hdl
              obtain ⟨g1, g2, g3⟩ := dig_of HA.out HB.out
              have vA : strV a = val a.data.toList := by unfold strV; exact numV_yes hA1
              have vB : strV b = val b.data.toList := by unfold strV; exact numV_yes hB1
              obtain ⟨x0, hx0⟩ : ∃ x0, strV a = x0 := ⟨_, rfl⟩
              obtain ⟨y0, hy0⟩ : ∃ y0, strV b = y0 := ⟨_, rfl⟩
              have bx := val_bd _ hA1
              have by' := val_bd _ hB1
              rw [← vA, hx0, size_list] at bx
              rw [← vB, hy0, size_list] at by'
              have px := Nat.pow_le_pow_right (n := 10) (by decide) a9
              have py := Nat.pow_le_pow_right (n := 10) (by decide) b4
              have x1 : 0 ≤ x0 := bx.1
              have x2 : x0 < 1000000000 := by omega
              have y1 : 0 ≤ y0 := by'.1
              have y2 : y0 < 10000 := by omega
              rw [← vA, ← vB, hx0, hy0] at g3
              obtain ⟨d0, hd0⟩ : ∃ d0, ((10 ^ b.size : Nat) : Int) = d0 := ⟨_, rfl⟩
              obtain ⟨n0, hn0⟩ : ∃ n0, x0 * ((10 ^ b.size : Nat) : Int) + y0 = n0 := ⟨_, rfl⟩
              have RES : Hid (∀ N D, Red n0 d0 N D → ¬ (N % 2 = 0 ∧ D % 2 = 0) → ¬ (N % 5 = 0 ∧ D % 5 = 0) → decN s = N ∧ decD s = D ∧ decX s = d ∧ decB s = true) := by
                intro N D hr n2 n5
                rw [← hd0, ← hn0] at hr
                obtain ⟨r1, r2, r3⟩ := dec_yes hn
                have hb := dig_bd (l := (brS s).data.toList) hn
                rw [g3, g2] at hb
                rw [r1, r2, r3, g3, g2, HD.out]
                obtain ⟨q1, q2⟩ := hr.fin (by omega) hb.1 hb.2.1 hb.2.2.2 n2 n5
                exact ⟨q1, q2, rfl, hn⟩
              have START : Hid (Red n0 d0 n0 d0) := by
                rw [← hd0, ← hn0]
                have hb := dig_bd (l := (brS s).data.toList) hn
                rw [g3, g2] at hb
                exact Red.start hb.1 hb.2.1 hb.2.2.1 (dvd_ten _ b4)
              have NA : Hid (∀ w, Calls Tryd.prog 80 #[.string a] w fun e w' => e = .returned (.tuple #[.int .i64 x0, .bool true]) ∧ w = w') := fun w => by
                have := natural_any a w (by omega); rwa [hx0, hA1] at this
              have NB : Hid (∀ w, Calls Tryd.prog 80 #[.string b] w fun e w' => e = .returned (.tuple #[.int .i64 y0, .bool true]) ∧ w = w') := fun w => by
                have := natural_any b w (by omega); rwa [hy0, hB1] at this
              have ALLB : Hid (allD b.data.toList = true) := hB1
              have HN0 := Lib.hid hn0
              have HD0 := Lib.hid hd0
              clear hn0 hd0
              clear g1 g2 g3 vA vB hx0 hy0 bx by' px py hn hA1 hB1 hL
              go_wp2_with fail
              with_reducible refine (NA.out _).mono ?_
              rintro e w2 ⟨rfl, rfl⟩
              go_wp2_with fail
              with_reducible refine (NB.out _).mono ?_
              rintro e w2 ⟨rfl, rfl⟩
              have T2 : Hid (Duo w ((w1.setCell ⟨w.heap.size, 1, none⟩ (.int .i64 1)).iter b 0) w.heap.size 0 1) := ((T1.out.set1 1).grow ((Rel.refl _).alloc _))
              have I2 : Hid (((w1.setCell ⟨w.heap.size, 1, none⟩ (.int .i64 1)).iter b 0).heap[w1.heap.size]? = some (.stringIter b 0)) := by
                have := World.iter_heap (w1.setCell ⟨w.heap.size, 1, none⟩ (.int .i64 1)) b 0
                show _ = _; simpa using this
              go_wp2
              clear c0 c1 f0 f1
              go_loopg [9] b.size (fun g s9 wx => ∃ (k : Nat) (X Y : Int), k + g = b.size ∧ s9 = .int .i64 X ∧ Hid (X = x0 * ((10 ^ k : Nat) : Int)) ∧ Hid (Y = ((10 ^ k : Nat) : Int)) ∧ Hid (Duo w wx w.heap.size 0 Y) ∧ Hid (wx.heap[w1.heap.size]? = some (.stringIter b k)))
              case atStart => exact ⟨0, x0, 1, by omega, rfl, by show _ = _; simp, by show _ = _; simp, T2, I2⟩
              case round =>
                obtain ⟨k, X, Y, hk, rfl, hX, hY, hT, hI⟩ := hrel
                obtain ⟨q1, q4⟩ := pow_bd k 0 (by omega)
                rw [Nat.sub_zero] at q1 q4
                have xk : 0 ≤ x0 * ((10 ^ k : Nat) : Int) := Int.mul_nonneg x1 (by omega)
                have xk2 : x0 * ((10 ^ k : Nat) : Int) ≤ 1000000000 * ((10 ^ k : Nat) : Int) := Int.mul_le_mul_of_nonneg_right (by omega) (by omega)
                rw [← hX.out] at xk xk2
                rw [← hY.out] at xk2 q1 q4
                have xk3 : X ≤ 10000000000000 := by omega
                clear xk2
                cases gk with
                | zero =>
                  obtain rfl : k = b.size := by omega
                  have hstop := fun ty => run_next_stop Tryd.prog wr w1.heap.size b b.size ty hI.out (by omega)
                  have S0 : Hid (Red n0 d0 (X + y0) Y) := by
                    have e1 : X + y0 = n0 := by rw [hX.out, HN0.out]
                    have e2 : Y = d0 := by rw [hY.out, HD0.out]
                    show Red _ _ _ _
                    rw [e1, e2]; exact START.out
                  obtain ⟨c0, c1, f0, f1, lt2⟩ : _ ∧ _ ∧ _ ∧ _ ∧ _ := ⟨hT.out.c0, hT.out.c1, hT.out.f0, hT.out.f1, hT.out.lt⟩
                  have T5 := Lib.hid (hT.out.set0 (X + y0))
                  go_wp2
                  clear c0 c1 f0 f1 hstop
                  go_loopg [114] 2 (fun g s114 wx => ∃ (i : Nat) (N D : Int), i + g = 2 ∧ s114 = .int .i64 i ∧ Hid (Red n0 d0 N D) ∧ Hid (Duo w wx w.heap.size N D) ∧ Hid (1 ≤ i → ¬ (N % 2 = 0 ∧ D % 2 = 0)) ∧ Hid (2 ≤ i → ¬ (N % 5 = 0 ∧ D % 5 = 0)))
                  case atStart => exact ⟨0, _, _, by omega, rfl, S0, T5, by intro h; omega, by intro h; omega⟩
                  case round =>
                    obtain ⟨i, N, D, hi, rfl, hR, hD2, hn2, hn5⟩ := hrel
                    obtain ⟨c0, c1, f0, f1, lt3⟩ : _ ∧ _ ∧ _ ∧ _ ∧ _ := ⟨hD2.out.c0, hD2.out.c1, hD2.out.f0, hD2.out.f1, hD2.out.lt⟩
                    have RR := Lib.hid hD2.out.rel
                    cases gk with
                    | zero =>
                      obtain rfl : i = 2 := by omega
                      have RET : Hid (∀ w', Rel w w' → DecRes s w (.returned (.tuple #[.agg #[.int .i64 N, .int .i64 D], .int .i64 d, .bool true])) w') := fun w' r => by
                        obtain ⟨e1, e2, e3, e4⟩ := RES.out N D hR.out (hn2.out (by omega)) (hn5.out (by omega))
                        unfold DecRes
                        rw [e1, e2, e3, e4]
                        exact ⟨rfl, r⟩
                      ((try simp only []); (repeat (first | go_values | go_skip | go_guarded | go_step | go_upon | go_in)))
                      refine bodyPost_ret (v := .tuple #[.agg #[.int .i64 N, .int .i64 D], .int .i64 d, .bool true]) ?_ rfl (RET.out _ ?_)
                      · simp [results, Tryd.results73, go_sem, c0, c1]
                      · exact (RR.out.setCell (Nat.le_refl _) _).setCell (Nat.le_refl _) _
                    | succ g =>
                      clear c0 c1 f0 f1
                      have hi2 : (i = 0 ∧ g = 1) ∨ (i = 1 ∧ g = 0) := by omega
                      rcases hi2 with ⟨rfl, rfl⟩ | ⟨rfl, rfl⟩
                      · have T6 := Lib.hid hD2.out
                        have ix : ∀ w, (Instr.index 128 (.agg #[.int .i64 2, .int .i64 5]) (.int .i64 0)).run Tryd.prog w = .ok (.int .i64 2) w := fun _ => by kernel_rfl
                        clear hD2
                        go_wp2
                        clear ix
                        go_loopg [] D.toNat (fun g wx => ∃ (N D : Int), D.toNat ≤ g ∧ Hid (Red n0 d0 N D) ∧ Hid (Duo w wx w.heap.size N D) ∧ Hid (1 ≤ 0 → ¬ (N % 2 = 0 ∧ D % 2 = 0)))
                        case atStart => exact ⟨N, D, Nat.le_refl _, hR, T6, hn2⟩
                        case round =>
                          clear hR T6 hn2 hn5 RR
                          obtain ⟨N, D, hle, hR, hD2, hn2⟩ := hrel
                          obtain ⟨c0, c1, f0, f1, lt4⟩ : _ ∧ _ ∧ _ ∧ _ ∧ _ := ⟨hD2.out.c0, hD2.out.c1, hD2.out.f0, hD2.out.f1, hD2.out.lt⟩
                          have N0 := hR.out.n0
                          have D0 := hR.out.pos
                          have N1 := hR.out.nle
                          have D1 := hR.out.le
                          by_cases hN : N % 2 = 0
                          · by_cases hDp : D % 2 = 0
                            · obtain ⟨S1, S2⟩ := hR.out.step (p := 2) (by omega) hN hDp
                              have HS1 := Lib.hid S1
                              have hn2' : Hid (1 ≤ 0 → ¬ (N / 2 % 2 = 0 ∧ D / 2 % 2 = 0)) := fun h1 => by
                                have := hn2.out h1; omega
                              cases gk with
                              | zero => omega
                              | succ g =>
                                have bN : ((N % 2 : Int) == 0) = true := by simpa using hN
                                have bD : ((D % 2 : Int) == 0) = true := by simpa using hDp
                                have tN : Int.tdiv N 2 = N / 2 := by rw [Int.tdiv_eq_ediv_of_nonneg (by omega)]
                                have tD : Int.tdiv D 2 = D / 2 := by rw [Int.tdiv_eq_ediv_of_nonneg (by omega)]
                                have wN : IntKind.i64.wrap (N / 2) = N / 2 := IntWalk.i64_in _ ⟨by omega, by omega⟩
                                have wD : IntKind.i64.wrap (D / 2) = D / 2 := IntWalk.i64_in _ ⟨by omega, by omega⟩
                                have leg : (D / 2).toNat ≤ g := by omega
                                clear S1 S2 hN hDp
                                go_wp2
                                refine wp_region_calm (fun M w' => M.getD 9 false = false → w'.cell? { block := w.heap.size, off := 0 } = some (.int .i64 N) ∧ w'.cell? { block := w.heap.size, off := 1 } = some (.int .i64 D)) (fun i => i == 9) [0, 1, 2, 3, 4, 5, 6, 7, 8] 3 (by kernel_rfl) (by kernel_rfl) ?hst ?hS0 (fun w0 h0 => ?_)
                                case hst => exact fun _ _ _ h r hM => ⟨r.cell (h hM).1, r.cell (h hM).2⟩
                                case hS0 => exact fun _ => ⟨c0, c1⟩
                                iterate 6
                                  refine wpCalm_go rfl (by kernel_rfl) (fun K hK => ?_)
                                  apply Exists.intro
                                  refine ⟨fun M w hM hS => ?_, hK _ ?_⟩
                                  · have hS := hS (hM 9 (by kernel_rfl))
                                    have e0 := hS.1
                                    have e1 := hS.2
                                    unfold calmAt
                                    go_simp
                                    exact ⟨rfl, Rel.refl _⟩
                                  clear hK K
                                iterate 3
                                  refine wpCalm_go rfl (by kernel_rfl) (fun K hK => ?_)
                                  apply Exists.intro
                                  refine ⟨fun M w hM hS => ?_, hK _ ?_⟩
                                  · unfold calmAt
                                    go_simp
                                    exact ⟨rfl, Rel.refl _⟩
                                  clear hK K
                                refine wpCalm_nil ?_
                                have q := keep2 h0 (b := w.heap.size) (by first | (simp; done) | (simp; omega) | omega)
                                have kc4_0_0 := q.1
                                have kc4_0_1 := q.2.1
                                have kf4_0_0 := q.2.2.1
                                have kf4_0_1 := q.2.2.2.1
                                have kl4_0 := q.2.2.2.2.1
                                have kn4_0 := q.2.2.2.2.2.1
                                have km4_0 := q.2.2.2.2.2.2
                                clear q
                                have kz4 := h0.size
                                (try simp only [World.size_alloc, World.size_setCell, World.size_drew] at kz4)
                                have H4 := Lib.hid h0
                                clear h0
                                refine wpAnyR_ready (rs := [9]) (by kernel_rfl) (by simp) (AllR.cons rfl (fun w5 h5 K' hK' => ?_) AllR.nil)
                                have q := keep2 h5 (b := w.heap.size) (by first | (simp; done) | (simp; omega) | omega)
                                have kc5_0_0 := q.1
                                have kc5_0_1 := q.2.1
                                have kf5_0_0 := q.2.2.1
                                have kf5_0_1 := q.2.2.2.1
                                have kl5_0 := q.2.2.2.2.1
                                have kn5_0 := q.2.2.2.2.2.1
                                have km5_0 := q.2.2.2.2.2.2
                                clear q
                                have kz5 := h5.size
                                (try simp only [World.size_alloc, World.size_setCell, World.size_drew] at kz5)
                                have H5 := Lib.hid h5
                                clear h5
                                go_simp
                                refine hK'.out _ _ (fun h => absurd (h.symm.trans (by kernel_rfl : _ = true)) (by simp)) ?_
                                clear hK' K'
                                refine wpAnyR_ready (rs := [10]) (by kernel_rfl) (by simp) (AllR.cons rfl (fun w6 h6 K' hK' => ?_) AllR.nil)
                                have q := keep2 h6 (b := w.heap.size) (by first | (simp; done) | (simp; omega) | omega)
                                have kc6_0_0 := q.1
                                have kc6_0_1 := q.2.1
                                have kf6_0_0 := q.2.2.1
                                have kf6_0_1 := q.2.2.2.1
                                have kl6_0 := q.2.2.2.2.1
                                have kn6_0 := q.2.2.2.2.2.1
                                have km6_0 := q.2.2.2.2.2.2
                                clear q
                                have kz6 := h6.size
                                (try simp only [World.size_alloc, World.size_setCell, World.size_drew] at kz6)
                                have H6 := Lib.hid h6
                                clear h6
                                go_simp
                                refine hK'.out _ _ (fun h => absurd (h.symm.trans (by kernel_rfl : _ = true)) (by simp)) ?_
                                clear hK' K'
                                refine wpAnyR_ready (rs := [11]) (by kernel_rfl) (by simp) (AllR.cons rfl (fun w7 h7 K' hK' => ?_) AllR.nil)
                                have q := keep2 h7 (b := w.heap.size) (by first | (simp; done) | (simp; omega) | omega)
                                have kc7_0_0 := q.1
                                have kc7_0_1 := q.2.1
                                have kf7_0_0 := q.2.2.1
                                have kf7_0_1 := q.2.2.2.1
                                have kl7_0 := q.2.2.2.2.1
                                have kn7_0 := q.2.2.2.2.2.1
                                have km7_0 := q.2.2.2.2.2.2
                                clear q
                                have kz7 := h7.size
                                (try simp only [World.size_alloc, World.size_setCell, World.size_drew] at kz7)
                                have H7 := Lib.hid h7
                                clear h7
                                go_simp
                                refine hK'.out _ _ (fun h => absurd (h.symm.trans (by kernel_rfl : _ = true)) (by simp)) ?_
                                clear hK' K'
                                refine wpAnyR_end (by kernel_rfl) (fun w8 h8 => ?_)
                                (try simp only [Act.put, List.setIfInBounds_toArray, List.set_cons_zero, List.set_cons_succ])
                                have q := keep2 h8 (b := w.heap.size) (by first | (simp; done) | (simp; omega) | omega)
                                have kc8_0_0 := q.1
                                have kc8_0_1 := q.2.1
                                have kf8_0_0 := q.2.2.1
                                have kf8_0_1 := q.2.2.2.1
                                have kl8_0 := q.2.2.2.2.1
                                have kn8_0 := q.2.2.2.2.2.1
                                have km8_0 := q.2.2.2.2.2.2
                                clear q
                                have kz8 := h8.size
                                (try simp only [World.size_alloc, World.size_setCell, World.size_drew] at kz8)
                                have H8 := Lib.hid h8
                                clear h8
                                go_wp2
                                go_roundg g
                                case rel => exact ⟨N / 2, D / 2, leg, HS1, ((((hD2.out.grow (H4.out.trans H5.out)).set0 (N / 2)).grow (H6.out.trans H7.out)).set1 (D / 2)).grow H8.out, hn2'⟩
                                case measure => omega
                            · have bN : ((N % 2 : Int) == 0) = true := by simpa using hN
                              have bD : ((D % 2 : Int) == 0) = false := by simpa using hDp
                              have hnn : Hid (¬ (N % 2 = 0 ∧ D % 2 = 0)) := fun h => hDp h.2
                              clear hN hDp
                              go_wp2
                              go_roundg 1
                              case rel => exact ⟨1, N, D, rfl, rfl, hR, hD2, fun _ => hnn.out, fun h => by omega⟩
                              case measure => omega
                          · have bN : ((N % 2 : Int) == 0) = false := by simpa using hN
                            have hnn : Hid (¬ (N % 2 = 0 ∧ D % 2 = 0)) := fun h => hN h.1
                            clear hN
                            go_wp2
                            go_roundg 1
                            case rel => exact ⟨1, N, D, rfl, rfl, hR, hD2, fun _ => hnn.out, fun h => by omega⟩
                            case measure => omega
                      · have T6 := Lib.hid hD2.out
                        have ix : ∀ w, (Instr.index 128 (.agg #[.int .i64 2, .int .i64 5]) (.int .i64 1)).run Tryd.prog w = .ok (.int .i64 5) w := fun _ => by kernel_rfl
                        clear hD2
                        go_wp2
                        clear ix
                        go_loopg [] D.toNat (fun g wx => ∃ (N D : Int), D.toNat ≤ g ∧ Hid (Red n0 d0 N D) ∧ Hid (Duo w wx w.heap.size N D) ∧ Hid (1 ≤ 1 → ¬ (N % 2 = 0 ∧ D % 2 = 0)))
                        case atStart => exact ⟨N, D, Nat.le_refl _, hR, T6, hn2⟩
                        case round =>
                          clear hR T6 hn2 hn5 RR
                          obtain ⟨N, D, hle, hR, hD2, hn2⟩ := hrel
                          obtain ⟨c0, c1, f0, f1, lt4⟩ : _ ∧ _ ∧ _ ∧ _ ∧ _ := ⟨hD2.out.c0, hD2.out.c1, hD2.out.f0, hD2.out.f1, hD2.out.lt⟩
                          have N0 := hR.out.n0
                          have D0 := hR.out.pos
                          have N1 := hR.out.nle
                          have D1 := hR.out.le
                          by_cases hN : N % 5 = 0
                          · by_cases hDp : D % 5 = 0
                            · obtain ⟨S1, S2⟩ := hR.out.step (p := 5) (by omega) hN hDp
                              have HS1 := Lib.hid S1
                              have hn2' : Hid (1 ≤ 1 → ¬ (N / 5 % 2 = 0 ∧ D / 5 % 2 = 0)) := fun h1 => by
                                have := hn2.out h1; omega
                              cases gk with
                              | zero => omega
                              | succ g =>
                                have bN : ((N % 5 : Int) == 0) = true := by simpa using hN
                                have bD : ((D % 5 : Int) == 0) = true := by simpa using hDp
                                have tN : Int.tdiv N 5 = N / 5 := by rw [Int.tdiv_eq_ediv_of_nonneg (by omega)]
                                have tD : Int.tdiv D 5 = D / 5 := by rw [Int.tdiv_eq_ediv_of_nonneg (by omega)]
                                have wN : IntKind.i64.wrap (N / 5) = N / 5 := IntWalk.i64_in _ ⟨by omega, by omega⟩
                                have wD : IntKind.i64.wrap (D / 5) = D / 5 := IntWalk.i64_in _ ⟨by omega, by omega⟩
                                have leg : (D / 5).toNat ≤ g := by omega
                                clear S1 S2 hN hDp
                                go_wp2
                                refine wp_region_calm (fun M w' => M.getD 9 false = false → w'.cell? { block := w.heap.size, off := 0 } = some (.int .i64 N) ∧ w'.cell? { block := w.heap.size, off := 1 } = some (.int .i64 D)) (fun i => i == 9) [0, 1, 2, 3, 4, 5, 6, 7, 8] 3 (by kernel_rfl) (by kernel_rfl) ?hst ?hS0 (fun w0 h0 => ?_)
                                case hst => exact fun _ _ _ h r hM => ⟨r.cell (h hM).1, r.cell (h hM).2⟩
                                case hS0 => exact fun _ => ⟨c0, c1⟩
                                iterate 6
                                  refine wpCalm_go rfl (by kernel_rfl) (fun K hK => ?_)
                                  apply Exists.intro
                                  refine ⟨fun M w hM hS => ?_, hK _ ?_⟩
                                  · have hS := hS (hM 9 (by kernel_rfl))
                                    have e0 := hS.1
                                    have e1 := hS.2
                                    unfold calmAt
                                    go_simp
                                    exact ⟨rfl, Rel.refl _⟩
                                  clear hK K
                                iterate 3
                                  refine wpCalm_go rfl (by kernel_rfl) (fun K hK => ?_)
                                  apply Exists.intro
                                  refine ⟨fun M w hM hS => ?_, hK _ ?_⟩
                                  · unfold calmAt
                                    go_simp
                                    exact ⟨rfl, Rel.refl _⟩
                                  clear hK K
                                refine wpCalm_nil ?_
                                have q := keep2 h0 (b := w.heap.size) (by first | (simp; done) | (simp; omega) | omega)
                                have kc4_0_0 := q.1
                                have kc4_0_1 := q.2.1
                                have kf4_0_0 := q.2.2.1
                                have kf4_0_1 := q.2.2.2.1
                                have kl4_0 := q.2.2.2.2.1
                                have kn4_0 := q.2.2.2.2.2.1
                                have km4_0 := q.2.2.2.2.2.2
                                clear q
                                have kz4 := h0.size
                                (try simp only [World.size_alloc, World.size_setCell, World.size_drew] at kz4)
                                have H4 := Lib.hid h0
                                clear h0
                                refine wpAnyR_ready (rs := [9]) (by kernel_rfl) (by simp) (AllR.cons rfl (fun w5 h5 K' hK' => ?_) AllR.nil)
                                have q := keep2 h5 (b := w.heap.size) (by first | (simp; done) | (simp; omega) | omega)
                                have kc5_0_0 := q.1
                                have kc5_0_1 := q.2.1
                                have kf5_0_0 := q.2.2.1
                                have kf5_0_1 := q.2.2.2.1
                                have kl5_0 := q.2.2.2.2.1
                                have kn5_0 := q.2.2.2.2.2.1
                                have km5_0 := q.2.2.2.2.2.2
                                clear q
                                have kz5 := h5.size
                                (try simp only [World.size_alloc, World.size_setCell, World.size_drew] at kz5)
                                have H5 := Lib.hid h5
                                clear h5
                                go_simp
                                refine hK'.out _ _ (fun h => absurd (h.symm.trans (by kernel_rfl : _ = true)) (by simp)) ?_
                                clear hK' K'
                                refine wpAnyR_ready (rs := [10]) (by kernel_rfl) (by simp) (AllR.cons rfl (fun w6 h6 K' hK' => ?_) AllR.nil)
                                have q := keep2 h6 (b := w.heap.size) (by first | (simp; done) | (simp; omega) | omega)
                                have kc6_0_0 := q.1
                                have kc6_0_1 := q.2.1
                                have kf6_0_0 := q.2.2.1
                                have kf6_0_1 := q.2.2.2.1
                                have kl6_0 := q.2.2.2.2.1
                                have kn6_0 := q.2.2.2.2.2.1
                                have km6_0 := q.2.2.2.2.2.2
                                clear q
                                have kz6 := h6.size
                                (try simp only [World.size_alloc, World.size_setCell, World.size_drew] at kz6)
                                have H6 := Lib.hid h6
                                clear h6
                                go_simp
                                refine hK'.out _ _ (fun h => absurd (h.symm.trans (by kernel_rfl : _ = true)) (by simp)) ?_
                                clear hK' K'
                                refine wpAnyR_ready (rs := [11]) (by kernel_rfl) (by simp) (AllR.cons rfl (fun w7 h7 K' hK' => ?_) AllR.nil)
                                have q := keep2 h7 (b := w.heap.size) (by first | (simp; done) | (simp; omega) | omega)
                                have kc7_0_0 := q.1
                                have kc7_0_1 := q.2.1
                                have kf7_0_0 := q.2.2.1
                                have kf7_0_1 := q.2.2.2.1
                                have kl7_0 := q.2.2.2.2.1
                                have kn7_0 := q.2.2.2.2.2.1
                                have km7_0 := q.2.2.2.2.2.2
                                clear q
                                have kz7 := h7.size
                                (try simp only [World.size_alloc, World.size_setCell, World.size_drew] at kz7)
                                have H7 := Lib.hid h7
                                clear h7
                                go_simp
                                refine hK'.out _ _ (fun h => absurd (h.symm.trans (by kernel_rfl : _ = true)) (by simp)) ?_
                                clear hK' K'
                                refine wpAnyR_end (by kernel_rfl) (fun w8 h8 => ?_)
                                (try simp only [Act.put, List.setIfInBounds_toArray, List.set_cons_zero, List.set_cons_succ])
                                have q := keep2 h8 (b := w.heap.size) (by first | (simp; done) | (simp; omega) | omega)
                                have kc8_0_0 := q.1
                                have kc8_0_1 := q.2.1
                                have kf8_0_0 := q.2.2.1
                                have kf8_0_1 := q.2.2.2.1
                                have kl8_0 := q.2.2.2.2.1
                                have kn8_0 := q.2.2.2.2.2.1
                                have km8_0 := q.2.2.2.2.2.2
                                clear q
                                have kz8 := h8.size
                                (try simp only [World.size_alloc, World.size_setCell, World.size_drew] at kz8)
                                have H8 := Lib.hid h8
                                clear h8
                                go_wp2
                                go_roundg g
                                case rel => exact ⟨N / 5, D / 5, leg, HS1, ((((hD2.out.grow (H4.out.trans H5.out)).set0 (N / 5)).grow (H6.out.trans H7.out)).set1 (D / 5)).grow H8.out, hn2'⟩
                                case measure => omega
                            · have bN : ((N % 5 : Int) == 0) = true := by simpa using hN
                              have bD : ((D % 5 : Int) == 0) = false := by simpa using hDp
                              have hnn : Hid (¬ (N % 5 = 0 ∧ D % 5 = 0)) := fun h => hDp h.2
                              clear hN hDp
                              go_wp2
                              go_roundg 0
                              case rel => exact ⟨2, N, D, rfl, rfl, hR, hD2, fun _ => hn2.out (by omega), fun _ => hnn.out⟩
                              case measure => omega
                          · have bN : ((N % 5 : Int) == 0) = false := by simpa using hN
                            have hnn : Hid (¬ (N % 5 = 0 ∧ D % 5 = 0)) := fun h => hN h.1
                            clear hN
                            go_wp2
                            go_roundg 0
                            case rel => exact ⟨2, N, D, rfl, rfl, hR, hD2, fun _ => hn2.out (by omega), fun _ => hnn.out⟩
                            case measure => omega
                | succ g =>
                  have hkb : k < b.size := by omega
                  have h128 : (b[k]'hkb).toNat < 128 := by
                    rcases Classical.em (48 ≤ ((b[k]'hkb).toNat : Int) ∧ ((b[k]'hkb).toNat : Int) ≤ 57) with h | h
                    · omega
                    · have := allD_not _ k hkb h; rw [ALLB.out] at this; cases this
                  have hnx := fun ty => run_next_at Tryd.prog wr w1.heap.size b k ty hI.out hkb h128
                  have T3 := hT.out.iter w1.heap.size b (k + 1) (by omega) (by omega)
                  obtain ⟨c0, c1, f0, f1, lt2⟩ : _ ∧ _ ∧ _ ∧ _ ∧ _ := ⟨T3.c0, T3.c1, T3.f0, T3.f1, T3.lt⟩
                  have T4 := Lib.hid T3
                  have hlt2 : w1.heap.size < wr.heap.size := by
                    have := hI.out
                    exact (Array.getElem?_eq_some_iff.1 this).1
                  have I3 : Hid ((itSet wr w1.heap.size b (k + 1)).heap[w1.heap.size]? = some (.stringIter b (k + 1))) := by
                    show _ = _; rw [itSet_heap _ _ _ _ _ hlt2, if_pos rfl]
                  have w10X : IntKind.i64.wrap (10 * X) = 10 * X := IntWalk.i64_in _ ⟨by omega, by omega⟩
                  have w10Y : IntKind.i64.wrap (10 * Y) = 10 * Y := IntWalk.i64_in _ ⟨by omega, by omega⟩
                  have hX2 : Hid (10 * X = x0 * ((10 ^ (k + 1) : Nat) : Int)) := by
                    show _ = _; rw [hX.out, Nat.pow_succ]; push_cast; grind
                  have hY2 : Hid (10 * Y = ((10 ^ (k + 1) : Nat) : Int)) := by
                    show _ = _; rw [hY.out, Nat.pow_succ]; push_cast; grind
                  clear T3
                  go_wp2
                  generalize itSet wr w1.heap.size b (k + 1) = W at *
                  refine wp_region_calm (fun M w' => M.getD 7 false = false → w'.cell? { block := w.heap.size, off := 1 } = some (.int .i64 Y)) (fun i => i == 7) [0, 1, 2, 3, 4, 5, 6] 1 (by kernel_rfl) (by kernel_rfl) ?hst ?hS0 (fun w0 h0 => ?_)
                  case hst => exact fun _ _ _ h r hM => r.cell (h hM)
                  case hS0 => exact fun _ => c1
                  iterate 7
                    refine wpCalm_go rfl (by kernel_rfl) (fun K hK => ?_)
                    apply Exists.intro
                    refine ⟨fun M w hM hS => ?_, hK _ ?_⟩
                    · have hS := hS (hM 7 (by kernel_rfl))
                      have e1 := hS
                      unfold calmAt
                      go_simp
                      exact ⟨rfl, Rel.refl _⟩
                    clear hK K
                  refine wpCalm_nil ?_
                  have q := keep2 h0 (b := w.heap.size) (by first | (simp; done) | (simp; omega) | omega)
                  have kc4_0_0 := q.1
                  have kc4_0_1 := q.2.1
                  have kf4_0_0 := q.2.2.1
                  have kf4_0_1 := q.2.2.2.1
                  have kl4_0 := q.2.2.2.2.1
                  have kn4_0 := q.2.2.2.2.2.1
                  have km4_0 := q.2.2.2.2.2.2
                  clear q
                  have kz4 := h0.size
                  (try simp only [World.size_alloc, World.size_setCell, World.size_drew] at kz4)
                  have H4 := Lib.hid h0
                  clear h0
                  refine wpAnyR_ready (rs := [7]) (by kernel_rfl) (by simp) (AllR.cons rfl (fun w5 h5 K' hK' => ?_) AllR.nil)
                  have q := keep2 h5 (b := w.heap.size) (by first | (simp; done) | (simp; omega) | omega)
                  have kc5_0_0 := q.1
                  have kc5_0_1 := q.2.1
                  have kf5_0_0 := q.2.2.1
                  have kf5_0_1 := q.2.2.2.1
                  have kl5_0 := q.2.2.2.2.1
                  have kn5_0 := q.2.2.2.2.2.1
                  have km5_0 := q.2.2.2.2.2.2
                  clear q
                  have kz5 := h5.size
                  (try simp only [World.size_alloc, World.size_setCell, World.size_drew] at kz5)
                  have H5 := Lib.hid h5
                  clear h5
                  go_simp
                  refine hK'.out _ _ (fun h => absurd (h.symm.trans (by kernel_rfl : _ = true)) (by simp)) ?_
                  clear hK' K'
                  refine wpAnyR_end (by kernel_rfl) (fun w6 h6 => ?_)
                  (try simp only [Act.put, List.setIfInBounds_toArray, List.set_cons_zero, List.set_cons_succ])
                  have q := keep2 h6 (b := w.heap.size) (by first | (simp; done) | (simp; omega) | omega)
                  have kc6_0_0 := q.1
                  have kc6_0_1 := q.2.1
                  have kf6_0_0 := q.2.2.1
                  have kf6_0_1 := q.2.2.2.1
                  have kl6_0 := q.2.2.2.2.1
                  have kn6_0 := q.2.2.2.2.2.1
                  have km6_0 := q.2.2.2.2.2.2
                  clear q
                  have kz6 := h6.size
                  (try simp only [World.size_alloc, World.size_setCell, World.size_drew] at kz6)
                  have H6 := Lib.hid h6
                  clear h6
                  go_wp2
                  go_roundg g
                  case rel => exact ⟨k + 1, _, _, by omega, rfl, hX2, hY2, ((T4.out.grow (H4.out.trans H5.out)).set1 (10 * Y)).grow H6.out, iter_keep I3.out (H4.out.trans H5.out) _ _ (by show w1.heap.size ≠ w.heap.size; omega) H6.out⟩
                  case measure => omega

end Go.Proofs.YtnhmebhmlbofgaaDoor

/- Contracts of All of the program and of the reference. No conditions but those printed. -/
namespace Go.Proofs.YtnhmebhmlbofgaaDoor
open Go.RowKit Cal Str Tok Frac
attribute [local go_sem] calmUpon
set_option linter.unusedVariables false
set_option linter.unusedSimpArgs false

theorem rel_grown {w w' : World} (r : Rel w w') (row : Option Nat) : w.grownBy w' row := ⟨Below.os r, Below.tape r, Below.output r, Below.size r, fun k hk _ => Below.block r k hk⟩
theorem own_rel {w w' : World} {base : Nat} {e : TypeId} {size : Nat} {v : Value} {n : Nat} {xs : List Value} (h : w.ownsRow base e size v n xs) (r : Rel w w') : w'.ownsRow base e size v n xs :=
  h.kept (rel_grown r none) (by cases hv : v.ownBlock <;> simp)
theorem own_base {w wr : World} (h : Rel w wr) {v : Value} {n : Nat} {xs : List Value} {e : TypeId} {size : Nat} (ho : wr.ownsRow w.heap.size e size v n xs) : ∀ k, v.ownBlock = some k → w.heap.size ≤ k := fun k hk => (ho.lt k hk).1

end Go.Proofs.YtnhmebhmlbofgaaDoor

/- Contracts of awake, pieces and text of the laws on tokens. No conditions but those printed. -/
namespace Go.Proofs.YtnhmebhmlbofgaaDoor
open Go.RowKit Cal Str Tok Frac
attribute [local go_sem] calmUpon
set_option linter.unusedVariables false
set_option linter.unusedSimpArgs false

def SomeStr (B : Nat) (w : World) (e : Ending) (w' : World) : Prop := ∃ s : ByteArray, e = .returned (.string s) ∧ s.size ≤ B ∧ Rel w w'

/-- A slice of integers that came in. -/
def IntsIn (w : World) (v : Value) (n : Nat) : Prop := ∃ (a0 : Option Addr) (cap : Nat), v = .slice a0 n cap ∧ n ≤ 17592186044416 ∧ (0 < n → ∃ (b off : Nat) (zs : List Int), a0 = some ⟨b, off, none⟩ ∧ b < w.heap.size ∧ (∀ j, j < n → w.cell? ⟨b, off + j, none⟩ = some (.int .i64 (zs.getD j 0)) ∧ -9223372036854775808 ≤ zs.getD j 0 ∧ zs.getD j 0 ≤ 9223372036854775807))

/-- A row that is owned and not empty. -/
theorem own_some {w : World} {base : Nat} {e : TypeId} {size : Nat} {v : Value} {n : Nat} {xs : List Value} (h : w.ownsRow base e size v n xs) (hn : 0 < n) : ∃ g cap, v = .slice (some ⟨g, 0, none⟩) n cap ∧ base ≤ g ∧ g < w.heap.size ∧ n ≤ cap ∧ cap ≤ maxLen ∧ ∀ (j : Nat) u, xs[j]? = some u → w.cell? ⟨g, j, none⟩ = some u := by
  have h0' := h
  rcases h.2 with ⟨_, h0⟩ | ⟨g, cap, cur, rfl, hb, hg, h1, h2, _, _⟩
  · omega
  · refine ⟨g, cap, rfl, hb, (Array.getElem?_eq_some_iff.1 hg).1, h1, h2, fun j u hu => ?_⟩
    have := h0'.cells (g := g) rfl j u hu
    have e : (⟨g, 0, none⟩ : Addr).add j = ⟨g, j, none⟩ := by unfold Addr.add; split <;> simp_all
    rwa [e] at this

end Go.Proofs.YtnhmebhmlbofgaaDoor

/- Arguments read behind a call as they read before it, where nothing that was there has turned. Over any program. -/
namespace Go.Proofs.YtnhmebhmlbofgaaDoor
open Go.ChangeShapes Go.WideShapes Go.ChangeAt Go.RowKit

def rowsB (P : Program) (ts : List TypeId) : Bool := ts.all fun t => P.readableRec t && decide (t < P.types.size)

theorem carryAll {H : Type} {enc : TypeId × Value → H} {P : Program} (hl : laidOutB P = true) {W W' : World} (hb : Below W.heap.size W W') :
    ∀ (ts : List TypeId) (vs : List Value) (ds : List (DataW H)) (ps : List MemPlace), rowsB P ts = true → DataW.TrodAll enc P W 0 (fun _ => true) true ts vs ds ps → (∀ x ∈ ps, x.block < W.heap.size) →
      DataW.TrodAll enc P W' 0 (fun b => decide (b < W.heap.size)) true ts vs ds ps := by
  intro ts
  induction ts with
  | nil =>
    intro vs ds ps _ h _
    obtain ⟨rfl, rfl, rfl⟩ := trodAll_nil h
    exact trodAll_mk0
  | cons t ts ih =>
    intro vs ds ps hr h hlt
    obtain ⟨v, vs', d, ds', p, q, rfl, rfl, rfl, h1, h2⟩ := trodAll_cons h
    unfold rowsB at hr
    simp only [List.all_cons, Bool.and_eq_true, decide_eq_true_eq] at hr
    exact trodAll_cons_mk (Below.trod hl hr.1.1 hr.1.2 h1 hb (fun x hx => hlt x (List.mem_append_left _ hx))) (ih _ _ _ hr.2 h2 (fun x hx => hlt x (List.mem_append_right _ hx)))

end Go.Proofs.YtnhmebhmlbofgaaDoor

/- Plain facts on the texts of fractions. No program in sight. -/
namespace Go.Proofs.YtnhmebhmlbofgaaDoor.Txt
open Str Frac Tok

theorem dl_zero_one (f m : Nat) (h : 0 < m) : dl f m 0 = dl f m 1 := by
  cases f with
  | zero => rfl
  | succ f => rw [dl_step f m 0 (.inl h), dl_step f m 1 (.inl h)]
theorem dec_dl (f u : Nat) (h : u < 10 ^ (f + 1)) : Lib.decDigits u = dl (f + 1) u 1 := by
  induction f generalizing u with
  | zero =>
    rw [Lib.decDigits, dif_pos (by omega), dl_step 0 u 1 (.inr (by decide)), show u % 10 = u by omega]; rfl
  | succ f ih =>
    rw [Lib.decDigits, dl_step (f + 1) u 1 (.inr (by decide))]
    by_cases h10 : u < 10
    · rw [dif_pos h10, show u / 10 = 0 by omega, show 1 - 1 = 0 from rfl, dl_stop, show u % 10 = u by omega]; rfl
    · rw [dif_neg h10, ih (u / 10) (by rw [Nat.pow_succ] at h; omega), show 1 - 1 = 0 from rfl, dl_zero_one _ _ (by omega)]
theorem dec_dl40 (u : Nat) (h : u ≤ 1000000000000000000) : Lib.decDigits u = dl 40 u 1 :=
  dec_dl 39 u (Nat.lt_of_le_of_lt h (by decide))

/-- The text of a number, and of a fraction. -/
def numL (n : Int) : List UInt8 := if n < 0 then 45 :: dl 40 n.natAbs 1 else dl 40 n.natAbs 1
theorem itoa_numL (n : Int) (h0 : -1000000000000000000 ≤ n) (h1 : n ≤ 1000000000000000000) : Lib.itoa n = numL n := by
  unfold Lib.itoa numL
  split
  · rw [dec_dl40 _ (by omega)]
  · rw [dec_dl40 _ (by omega)]
    congr 1; omega
def numS (n : Int) : ByteArray := ⟨(numL n).toArray⟩
def fmtL (n d : Int) : List UInt8 := if d = 1 then numL n else numL n ++ 47 :: numL d
def fmtS (n d : Int) : ByteArray := if validB n d = true then ⟨(fmtL n d).toArray⟩ else ⟨#[]⟩
theorem fmt_no {n d : Int} (h : validB n d = false) : fmtS n d = ⟨#[]⟩ := by unfold fmtS; rw [if_neg (by simp [h])]
theorem fmt_1 {n d : Int} (h : validB n d = true) (h1 : d = 1) : fmtS n d = numS n := by unfold fmtS fmtL numS; rw [if_pos h, if_pos h1]
theorem fmt_2 {n d : Int} (h : validB n d = true) (h1 : ¬ d = 1) : fmtS n d = numS n ++ (⟨#[47]⟩ ++ numS d) := by
  unfold fmtS fmtL numS; rw [if_pos h, if_neg h1]; apply ba_ext; simp

theorem numL_digits (n : Int) : ∀ c ∈ numL n, (c.toNat : Int) = 45 ∨ (48 ≤ (c.toNat : Int) ∧ (c.toNat : Int) ≤ 57) := by
  have hd : ∀ c ∈ dl 40 n.natAbs 1, (48 ≤ (c.toNat : Int) ∧ (c.toNat : Int) ≤ 57) := fun c hc => by
    have := allD_dl 40 n.natAbs 1
    unfold allD at this
    rw [List.all_eq_true] at this
    have := this c hc
    simpa using this
  intro c hc
  unfold numL at hc
  split at hc
  · rcases List.mem_cons.1 hc with rfl | h
    · exact .inl rfl
    · exact .inr (hd c h)
  · exact .inr (hd c hc)
theorem numL_len (n : Int) : (numL n).length ≤ 41 := by
  unfold numL
  have := dl_length 40 n.natAbs 1
  split
  · simp; omega
  · omega
theorem numS_size (n : Int) : (numS n).size ≤ 41 := by
  rw [← size_list, numS, mk_list]; exact numL_len n
theorem fmtS_size (n d : Int) : (fmtS n d).size ≤ 83 := by
  have a := numL_len n
  have b := numL_len d
  rw [← size_list]
  unfold fmtS fmtL
  split
  · split
    · rw [mk_list]; omega
    · rw [mk_list]; simp; omega
  · simp

/-! Cutting at a slash -/
def ahs : List UInt8 → List UInt8
  | [] => []
  | x :: l => if (x.toNat : Int) = 47 then [] else x :: ahs l
def pns : List UInt8 → Bool
  | [] => false
  | x :: l => (x.toNat : Int) == 47 || pns l
def bhs : List UInt8 → List UInt8
  | [] => []
  | x :: l => if (x.toNat : Int) = 47 then l else bhs l
theorem ahs_len (l : List UInt8) : (ahs l).length + (bhs l).length ≤ l.length := by
  induction l with
  | nil => simp [ahs, bhs]
  | cons x l ih => simp only [ahs, bhs]; split <;> simp <;> omega
theorem bhs_no {l : List UInt8} (h : pns l = false) : bhs l = [] ∧ ahs l = l := by
  induction l with
  | nil => exact ⟨rfl, rfl⟩
  | cons x l ih =>
    simp [pns] at h
    have := ih h.2
    simp only [ahs, bhs]; rw [if_neg h.1, if_neg h.1, this.1, this.2]; exact ⟨rfl, rfl⟩
theorem pns_split {l : List UInt8} (h : pns l = true) : l = ahs l ++ 47 :: bhs l := by
  induction l with
  | nil => simp [pns] at h
  | cons x l ih =>
    by_cases h1 : (x.toNat : Int) = 47
    · simp only [ahs, bhs]; rw [if_pos h1, if_pos h1]
      have : x = 47 := UInt8.toNat_inj.1 (by show x.toNat = 47; omega)
      rw [this]; rfl
    · simp [pns, h1] at h
      simp only [ahs, bhs]; rw [if_neg h1, if_neg h1, List.cons_append, ← ih h]
theorem cut_join {a b : List UInt8} (h : ∀ c ∈ a, ¬ (c.toNat : Int) = 47) : pns (a ++ 47 :: b) = true ∧ ahs (a ++ 47 :: b) = a ∧ bhs (a ++ 47 :: b) = b := by
  induction a with
  | nil => exact ⟨rfl, rfl, rfl⟩
  | cons x a ih =>
    obtain ⟨h1, h2, h3⟩ := ih (fun c hc => h c (List.mem_cons_of_mem _ hc))
    have hx := h x List.mem_cons_self
    refine ⟨by simp [pns, h1], ?_, ?_⟩
    · rw [List.cons_append, ahs, if_neg hx, h2]
    · rw [List.cons_append, bhs, if_neg hx, h3]
theorem cut_none {a : List UInt8} (h : ∀ c ∈ a, ¬ (c.toNat : Int) = 47) : pns a = false := by
  induction a with
  | nil => rfl
  | cons x a ih =>
    have hx := h x List.mem_cons_self
    simp [pns, hx, ih (fun c hc => h c (List.mem_cons_of_mem _ hc))]
theorem numL_47 (n : Int) : ∀ c ∈ numL n, ¬ (c.toNat : Int) = 47 := fun c hc => by
  rcases numL_digits n c hc with h | h <;> omega
theorem idx_pns (l : List UInt8) : (pns l = false ∧ Lib.indexByte l 47 = -1) ∨ (pns l = true ∧ Lib.indexByte l 47 = ((ahs l).length : Int) ∧ (ahs l).length < l.length) := by
  induction l with
  | nil => exact .inl ⟨rfl, rfl⟩
  | cons x l ih =>
    by_cases h : (x.toNat : Int) = 47
    · have e : x = 47 := UInt8.toNat_inj.1 (by show x.toNat = 47; omega)
      subst e
      exact .inr ⟨by simp [pns], by simp [Lib.indexByte, ahs], by simp [ahs]⟩
    · have e : (x == 47) = false := by
        rw [beq_eq_false_iff_ne]; intro e; subst e; exact h rfl
      rcases ih with ⟨p, i⟩ | ⟨p, i, hl⟩
      · left; refine ⟨by simp [pns, p, h], ?_⟩
        simp only [Lib.indexByte, e, i]; rfl
      · right; refine ⟨by simp [pns, p], ?_, by simp [ahs, h]; omega⟩
        simp only [Lib.indexByte, e, i, ahs]
        rw [if_neg h]
        have : (((ahs l).length : Int) == -1) = false := by rw [beq_eq_false_iff_ne]; omega
        simp [this]
theorem as_take (l : List UInt8) : l.take (ahs l).length = ahs l := by
  induction l with
  | nil => rfl
  | cons x l ih =>
    simp only [ahs]
    split
    · rfl
    · simp [ih]
theorem bs_drop {l : List UInt8} (h : pns l = true) : l.drop ((ahs l).length + 1) = bhs l := by
  have := pns_split h
  have e : (ahs l ++ 47 :: bhs l).drop ((ahs l).length + 1) = bhs l := by
    rw [← List.drop_drop, List.drop_left]; rfl
  rw [← this] at e; exact e

/-- s is the text of n/d. -/
def IsTxt (s : ByteArray) (n d : Int) : Prop := validB n d = true ∧ fmtS n d = s
theorem numL_inj {n m : Int} (hn : -1000000000000000000 ≤ n ∧ n ≤ 1000000000000000000) (hm : -1000000000000000000 ≤ m ∧ m ≤ 1000000000000000000) (h : numL n = numL m) : n = m := by
  have key : ∀ u v : Nat, u ≤ 1000000000000000000 → v ≤ 1000000000000000000 → dl 40 u 1 = dl 40 v 1 → u = v := fun u v hu hv e => by
    have h1 := val_dl 40 u 1 (Nat.lt_of_le_of_lt hu (by decide)) (by decide)
    have h2 := val_dl 40 v 1 (Nat.lt_of_le_of_lt hv (by decide)) (by decide)
    rw [e] at h1; omega
  have nd : ∀ u : Nat, ∀ l, dl 40 u 1 ≠ 45 :: l := fun u l e => by
    have := allD_dl 40 u 1
    rw [e] at this
    unfold allD at this
    simp at this
  unfold numL at h
  split at h <;> split at h
  · injection h with _ h2
    have := key _ _ (by omega) (by omega) h2; omega
  · exact absurd h.symm (nd _ _)
  · exact absurd h (nd _ _)
  · have := key _ _ (by omega) (by omega) h; omega
theorem txt_cut {s : ByteArray} {n d : Int} (h : IsTxt s n d) : ahs s.data.toList = numL n ∧ ((d = 1 ∧ pns s.data.toList = false) ∨ (¬ d = 1 ∧ pns s.data.toList = true ∧ bhs s.data.toList = numL d)) := by
  obtain ⟨hv, hs⟩ := h
  have e : s.data.toList = fmtL n d := by
    rw [← hs]; unfold fmtS; rw [if_pos hv, mk_list]
  rw [e]; unfold fmtL
  by_cases h1 : d = 1
  · rw [if_pos h1]
    have := cut_none (numL_47 n)
    exact ⟨(bhs_no this).2, .inl ⟨h1, this⟩⟩
  · rw [if_neg h1]
    obtain ⟨c1, c2, c3⟩ := cut_join (b := numL d) (numL_47 n)
    exact ⟨c2, .inr ⟨h1, c1, c3⟩⟩
theorem valid_bd {n d : Int} (h : validB n d = true) : -1000000000000000 ≤ n ∧ n ≤ 1000000000000000 ∧ 1 ≤ d ∧ d ≤ 1000000000 := by
  have := (validB_iff n d).1 h; omega
theorem txt_inj {s : ByteArray} {n d n' d' : Int} (h : IsTxt s n d) (h' : IsTxt s n' d') : n = n' ∧ d = d' := by
  have b := valid_bd h.1
  have b' := valid_bd h'.1
  obtain ⟨a1, c1⟩ := txt_cut h
  obtain ⟨a2, c2⟩ := txt_cut h'
  refine ⟨numL_inj (by omega) (by omega) (a1.symm.trans a2), ?_⟩
  rcases c1 with ⟨e1, p1⟩ | ⟨e1, p1, b1⟩ <;> rcases c2 with ⟨e2, p2⟩ | ⟨e2, p2, b2⟩
  · omega
  · rw [p1] at p2; cases p2
  · rw [p1] at p2; cases p2
  · exact numL_inj (by omega) (by omega) (b1.symm.trans b2)

end Go.Proofs.YtnhmebhmlbofgaaDoor.Txt

/- Plain facts: what Atoi makes of a number's text, and what natural does. No program in sight. -/
namespace Go.Proofs.YtnhmebhmlbofgaaDoor.Txt
open Str Frac Tok

theorem val_cons (c : UInt8) (l : List UInt8) : val (c :: l) = ((c.toNat : Int) - 48) * ((10 ^ l.length : Nat) : Int) + val l := by
  have := val_app [c] l
  rw [List.singleton_append] at this
  rw [this]
  have e : val [c] = (c.toNat : Int) - 48 := by simp [val]
  rw [e]
theorem dl_ne (u : Nat) : dl 40 u 1 ≠ [] := by rw [dl_step 39 u 1 (.inr (by decide))]; simp
theorem dl_val1 (u : Nat) (h : u ≤ 1000000000000000000) : val (dl 40 u 1) = u := val_dl 40 u 1 (Nat.lt_of_le_of_lt h (by decide)) (by decide)
theorem head_ne (f : Nat) : ∀ u, 0 < u → u < 10 ^ f → ∃ c r, dl f u 1 = c :: r ∧ ¬ (c.toNat : Int) = 48 := by
  induction f with
  | zero => intro u h0 h1; simp at h1; omega
  | succ f ih =>
    intro u h0 h1
    rw [dl_step f u 1 (.inr (by decide)), show 1 - 1 = 0 from rfl]
    by_cases h10 : u / 10 = 0
    · rw [h10, dl_stop]
      refine ⟨UInt8.ofNat (48 + u % 10), [], rfl, ?_⟩
      have : u % 10 = u := by omega
      rw [this]
      have h : (UInt8.ofNat (48 + u)).toNat = 48 + u := by simp; omega
      rw [h]; omega
    · obtain ⟨c, r, e, hc⟩ := ih (u / 10) (by omega) (by rw [Nat.pow_succ] at h1; omega)
      rw [dl_zero_one _ _ (by omega), e]
      exact ⟨c, r ++ _, rfl, hc⟩
theorem len_le (f : Nat) : ∀ u k, 1 ≤ k → u < 10 ^ k → (dl f u 1).length ≤ k := by
  induction f with
  | zero => intro u k _ _; simp [dl]
  | succ f ih =>
    intro u k h1 h
    rw [dl_step f u 1 (.inr (by decide)), show 1 - 1 = 0 from rfl]
    by_cases h10 : u / 10 = 0
    · rw [h10, dl_stop]; simpa using h1
    · obtain ⟨j, rfl⟩ : ∃ j, k = j + 1 := ⟨k - 1, by omega⟩
      rw [Nat.pow_succ] at h
      have hj : 1 ≤ j := by
        rcases Nat.eq_zero_or_pos j with rfl | hj
        · simp at h; omega
        · exact hj
      have := ih (u / 10) j hj (by omega)
      rw [dl_zero_one _ _ (by omega)]
      simp; omega

end Go.Proofs.YtnhmebhmlbofgaaDoor.Txt

/- The library's variables that are listed, and contracts of Itoa, Atoi, Cut at a slash, and of both Formats. No conditions but those printed. -/
namespace Go.Proofs.YtnhmebhmlbofgaaDoor
open Go.RowKit Cal Str Tok Frac Txt
attribute [local go_sem] calmUpon
set_option linter.unusedVariables false
set_option linter.unusedSimpArgs false

/-- The table of powers of ten, and the two errors. -/
def TabW (w : World) : Prop := Lib.TabIs Tryd.prog w "internal/strconv.uint64pow10" .u64 Lib.pow10Tab
def ErrW (w : World) : Prop := (∃ tp p, w.var? Tryd.prog "strconv.ErrSyntax" = some #[.iface tp p]) ∧ (∃ tp p, w.var? Tryd.prog "strconv.ErrRange" = some #[.iface tp p])
theorem var_rel {w w' : World} (r : Rel w w') {P : Program} {name : String} {cs : Array Value} (h : w.var? P name = some cs) : w'.var? P name = some cs := by
  unfold World.var? at h ⊢
  cases hg : P.globalNamed name with
  | none => rw [hg] at h; exact h
  | some g =>
    rw [hg] at h
    simp only [Option.bind_some] at h ⊢
    have hlt : g < w.heap.size := by
      rcases Nat.lt_or_ge g w.heap.size with h' | h'
      · exact h'
      · rw [Array.getElem?_eq_none h'] at h; cases h
    rw [Below.block r g hlt]; exact h
theorem TabW.rel {w w' : World} (h : TabW w) (r : Rel w w') : TabW w' := by
  unfold TabW Lib.TabIs at *
  exact var_rel r h
theorem ErrW.rel {w w' : World} (h : ErrW w) (r : Rel w w') : ErrW w' := by
  obtain ⟨⟨t, p, h1⟩, ⟨t', p', h2⟩⟩ := h
  exact ⟨⟨t, p, var_rel r h1⟩, ⟨t', p', var_rel r h2⟩⟩

theorem itoa_any (n : Int) (w : World) (ht : TabW w) (h0 : -1000000000000000000 ≤ n) (h1 : n ≤ 1000000000000000000) :
    Calls Tryd.prog 72 #[.int .i64 n] w fun e w' => e = .returned (.string (numS n)) ∧ Rel w w' := by
  refine (Tryd.strconv_Itoa n (by omega) (by omega) w ht).mono ?_
  rintro e w' ⟨he, k, os, rfl⟩
  rw [itoa_numL n h0 h1] at he
  exact ⟨he, Lib.below_grow _ _ (Nat.le_refl _) _ _⟩

theorem ret_str {a b : ByteArray} (h : a = b) : Ending.returned (.string a) = .returned (.string b) := by rw [h]
def StrRes (t : ByteArray) (w : World) (e : Ending) (w' : World) : Prop := e = .returned (.string t) ∧ Rel w w'

theorem dgt_numL (n : Int) (h : 0 ≤ n) : dgt n 1 = numS n := by
  unfold dgt numS numL; rw [if_neg (by omega), show n.toNat = n.natAbs by omega]; rfl
theorem neg_numL (n : Int) (h : n < 0) : (⟨#[45]⟩ : ByteArray) ++ dgt (n.natAbs : Int) 1 = numS n := by
  apply ba_ext
  unfold dgt numS numL; rw [if_pos h, show ((n.natAbs : Int)).toNat = n.natAbs by omega]; simp

set_option maxHeartbeats 4000000 in
theorem rFormat_any (n d : Int) (w : World) (n0 : -9223372036854775808 ≤ n) (n1 : n ≤ 9223372036854775807) (d0 : -9223372036854775808 ≤ d) (d1 : d ≤ 9223372036854775807) :
    Calls Tryd.prog 70 #[.agg #[.int .i64 n, .int .i64 d]] w (StrRes (fmtS n d) w) := by
  unfold StrRes
  have z2 := numS_size d
  have V := Lib.hid fun w => rvalid_any n d w n0 n1 d0 d1
  cases hv : validB n d
  · rw [fmt_no hv]
    rw [hv] at V
    clear hv
    go_enter Tryd.func70, Tryd.ntmps70
    go_wp2_with fail
    refine (V.out _).mono ?_
    unfold BRes
    rintro e w1 ⟨rfl, h1⟩
    have q := keep2 h1 (b := w.heap.size) (by first | (simp; done) | (simp; omega) | omega)
    have kc1_0_0 := q.1
    have kc1_0_1 := q.2.1
    have kf1_0_0 := q.2.2.1
    have kf1_0_1 := q.2.2.2.1
    have kl1_0 := q.2.2.2.2.1
    have kn1_0 := q.2.2.2.2.2.1
    have km1_0 := q.2.2.2.2.2.2
    clear q
    have kz1 := h1.size
    (try simp only [World.size_alloc, World.size_setCell, World.size_drew] at kz1)
    have H1 := Lib.hid h1
    clear h1
    go_wp2
    go_ret
    exact ⟨rfl, by (show Rel _ _; repeat (first | with_reducible exact Rel.refl _ | with_reducible refine Rel.alloc ?_ _ | with_reducible refine Rel.setCell ?_ (by first | (simp; done) | (simp; omega)) _ | with_reducible refine Rel.drew ?_ | with_reducible refine Rel.trans ?_ H1.out | with_reducible refine Rel.trans ?_ H0.out))⟩
  · have b := valid_bd hv
    rw [hv] at V
    have hdd : dgt d 1 = numS d := dgt_numL d (by omega)
    obtain ⟨D, hD⟩ : ∃ D, dgt d 1 = D := ⟨_, rfl⟩
    have SZ := Lib.hid fun w => rsize_any n w n0 n1
    have DG := Lib.hid fun w => rdigits_any (n.natAbs : Int) 1 w (by omega) (by omega) (by omega) (by omega)
    have DD := Lib.hid fun w => rdigits_any d 1 w (by omega) (by omega) (by omega) (by omega)
    have bn : 0 ≤ (n.natAbs : Int) ∧ (n.natAbs : Int) ≤ 1000000000000000 := by omega
    obtain ⟨m, hm⟩ : ∃ m, (n.natAbs : Int) = m := ⟨_, rfl⟩
    have hneg := fun h => neg_numL n h
    have hpos : 0 ≤ n → dgt m 1 = numS n := fun h => by rw [← hm, show (n.natAbs : Int) = n by omega]; exact dgt_numL n h
    rw [hm] at SZ DG hneg bn
    obtain ⟨G, hG⟩ : ∃ G, dgt m 1 = G := ⟨_, rfl⟩
    have zG : G.size ≤ 40 := by rw [← hG]; exact dgt_size _ _
    have e45 : (⟨#[45]⟩ : ByteArray).size = 1 := rfl
    have zG2 : ((⟨#[45]⟩ : ByteArray) ++ G).size ≤ 41 := by rw [ByteArray.size_append]; omega
    rw [hG] at DG hneg hpos
    rw [hdd] at DD
    have b1 := bn.1
    have b2 := bn.2
    by_cases hd : d = 1
    · rw [fmt_1 hv hd]
      by_cases hn : n < 0
      · have EQ := Lib.hid (hneg hn)
        subst hd
        clear hv hm hneg hpos hG hdd hD bn e45
        go_enter Tryd.func70, Tryd.ntmps70
        go_wp2_with fail
        refine (V.out _).mono ?_
        unfold BRes
        rintro e w1 ⟨rfl, h1⟩
        have q := keep2 h1 (b := w.heap.size) (by first | (simp; done) | (simp; omega) | omega)
        have kc1_0_0 := q.1
        have kc1_0_1 := q.2.1
        have kf1_0_0 := q.2.2.1
        have kf1_0_1 := q.2.2.2.1
        have kl1_0 := q.2.2.2.2.1
        have kn1_0 := q.2.2.2.2.2.1
        have km1_0 := q.2.2.2.2.2.2
        clear q
        have kz1 := h1.size
        (try simp only [World.size_alloc, World.size_setCell, World.size_drew] at kz1)
        have H1 := Lib.hid h1
        clear h1
        go_wp2_with fail
        refine (SZ.out _).mono ?_
        rintro e w2 ⟨rfl, rfl⟩
        go_wp2_with fail
        refine (DG.out _).mono ?_
        rintro e w2 ⟨rfl, rfl⟩
        go_wp2
        go_ret
        exact ⟨ret_str EQ.out, by (show Rel _ _; repeat (first | with_reducible exact Rel.refl _ | with_reducible refine Rel.alloc ?_ _ | with_reducible refine Rel.setCell ?_ (by first | (simp; done) | (simp; omega)) _ | with_reducible refine Rel.drew ?_ | with_reducible refine Rel.trans ?_ H1.out | with_reducible refine Rel.trans ?_ H0.out))⟩
      · have EQ := Lib.hid (hpos (by omega))
        subst hd
        clear hv hm hneg hpos hG hdd hD bn e45
        go_enter Tryd.func70, Tryd.ntmps70
        go_wp2_with fail
        refine (V.out _).mono ?_
        unfold BRes
        rintro e w1 ⟨rfl, h1⟩
        have q := keep2 h1 (b := w.heap.size) (by first | (simp; done) | (simp; omega) | omega)
        have kc1_0_0 := q.1
        have kc1_0_1 := q.2.1
        have kf1_0_0 := q.2.2.1
        have kf1_0_1 := q.2.2.2.1
        have kl1_0 := q.2.2.2.2.1
        have kn1_0 := q.2.2.2.2.2.1
        have km1_0 := q.2.2.2.2.2.2
        clear q
        have kz1 := h1.size
        (try simp only [World.size_alloc, World.size_setCell, World.size_drew] at kz1)
        have H1 := Lib.hid h1
        clear h1
        go_wp2_with fail
        refine (SZ.out _).mono ?_
        rintro e w2 ⟨rfl, rfl⟩
        go_wp2_with fail
        refine (DG.out _).mono ?_
        rintro e w2 ⟨rfl, rfl⟩
        go_wp2
        go_ret
        exact ⟨ret_str EQ.out, by (show Rel _ _; repeat (first | with_reducible exact Rel.refl _ | with_reducible refine Rel.alloc ?_ _ | with_reducible refine Rel.setCell ?_ (by first | (simp; done) | (simp; omega)) _ | with_reducible refine Rel.drew ?_ | with_reducible refine Rel.trans ?_ H1.out | with_reducible refine Rel.trans ?_ H0.out))⟩
    · rw [fmt_2 hv hd]
      have hdn : (d != 1) = true := by simpa using hd
      by_cases hn : n < 0
      · have EQ := Lib.hid (hneg hn)
        clear hv hm hneg hpos hG hdd hD bn hd e45
        go_enter Tryd.func70, Tryd.ntmps70
        go_wp2_with fail
        refine (V.out _).mono ?_
        unfold BRes
        rintro e w1 ⟨rfl, h1⟩
        have q := keep2 h1 (b := w.heap.size) (by first | (simp; done) | (simp; omega) | omega)
        have kc1_0_0 := q.1
        have kc1_0_1 := q.2.1
        have kf1_0_0 := q.2.2.1
        have kf1_0_1 := q.2.2.2.1
        have kl1_0 := q.2.2.2.2.1
        have kn1_0 := q.2.2.2.2.2.1
        have km1_0 := q.2.2.2.2.2.2
        clear q
        have kz1 := h1.size
        (try simp only [World.size_alloc, World.size_setCell, World.size_drew] at kz1)
        have H1 := Lib.hid h1
        clear h1
        go_wp2_with fail
        refine (SZ.out _).mono ?_
        rintro e w2 ⟨rfl, rfl⟩
        go_wp2_with fail
        refine (DG.out _).mono ?_
        rintro e w2 ⟨rfl, rfl⟩
        go_wp2_with fail
        refine (DD.out _).mono ?_
        rintro e w2 ⟨rfl, rfl⟩
        go_wp2
        go_ret
        exact ⟨ret_str (by rw [EQ.out, ByteArray.append_assoc]), by (show Rel _ _; repeat (first | with_reducible exact Rel.refl _ | with_reducible refine Rel.alloc ?_ _ | with_reducible refine Rel.setCell ?_ (by first | (simp; done) | (simp; omega)) _ | with_reducible refine Rel.drew ?_ | with_reducible refine Rel.trans ?_ H1.out | with_reducible refine Rel.trans ?_ H0.out))⟩
      · have EQ := Lib.hid (hpos (by omega))
        clear hv hm hneg hpos hG hdd hD bn hd e45
        go_enter Tryd.func70, Tryd.ntmps70
        go_wp2_with fail
        refine (V.out _).mono ?_
        unfold BRes
        rintro e w1 ⟨rfl, h1⟩
        have q := keep2 h1 (b := w.heap.size) (by first | (simp; done) | (simp; omega) | omega)
        have kc1_0_0 := q.1
        have kc1_0_1 := q.2.1
        have kf1_0_0 := q.2.2.1
        have kf1_0_1 := q.2.2.2.1
        have kl1_0 := q.2.2.2.2.1
        have kn1_0 := q.2.2.2.2.2.1
        have km1_0 := q.2.2.2.2.2.2
        clear q
        have kz1 := h1.size
        (try simp only [World.size_alloc, World.size_setCell, World.size_drew] at kz1)
        have H1 := Lib.hid h1
        clear h1
        go_wp2_with fail
        refine (SZ.out _).mono ?_
        rintro e w2 ⟨rfl, rfl⟩
        go_wp2_with fail
        refine (DG.out _).mono ?_
        rintro e w2 ⟨rfl, rfl⟩
        go_wp2_with fail
        refine (DD.out _).mono ?_
        rintro e w2 ⟨rfl, rfl⟩
        go_wp2
        go_ret
        exact ⟨ret_str (by rw [EQ.out, ByteArray.append_assoc]), by (show Rel _ _; repeat (first | with_reducible exact Rel.refl _ | with_reducible refine Rel.alloc ?_ _ | with_reducible refine Rel.setCell ?_ (by first | (simp; done) | (simp; omega)) _ | with_reducible refine Rel.drew ?_ | with_reducible refine Rel.trans ?_ H1.out | with_reducible refine Rel.trans ?_ H0.out))⟩

end Go.Proofs.YtnhmebhmlbofgaaDoor

/- Plain facts on the shortest number texts. No program in sight. -/
import Derived.Test.YtnhmebhmlbofgaaDoorRatTxt
import Derived.Test.YtnhmebhmlbofgaaDoorDoorP
namespace Go.Proofs.YtnhmebhmlbofgaaDoor.Txt
open Str Frac Tok

/-- The digits behind the point, out of a rest below 10 ^ f. -/
def dg : Nat → Nat → List UInt8
  | 0, _ => []
  | f + 1, m => if m = 0 then [] else UInt8.ofNat (48 + m / 10 ^ f) :: dg f (m % 10 ^ f)
theorem dg_0 (f : Nat) : dg f 0 = [] := by cases f <;> simp [dg]
theorem dg_s (f m : Nat) (h : 0 < m) : dg (f + 1) m = UInt8.ofNat (48 + m / 10 ^ f) :: dg f (m % 10 ^ f) := by simp only [dg]; rw [if_neg (by omega)]
theorem pow_q {f m : Nat} (h : m < 10 ^ (f + 1)) : m / 10 ^ f < 10 := by
  rw [Nat.pow_succ] at h
  exact Nat.div_lt_of_lt_mul (by rw [Nat.mul_comm] at h; rwa [Nat.mul_comm])
theorem pow_p (f : Nat) : 0 < 10 ^ f := Nat.pow_pos (by decide)
theorem u8_dig {k : Nat} (h : k < 10) : ((UInt8.ofNat (48 + k)).toNat : Int) = 48 + k := by
  rw [UInt8.toNat_ofNat']; omega
theorem dg_allD (f m : Nat) (h : m < 10 ^ f) : allD (dg f m) = true := by
  induction f generalizing m with
  | zero => rfl
  | succ f ih =>
    by_cases h0 : m = 0
    · subst h0; rw [dg_0]; rfl
    · rw [dg_s f m (by omega)]
      have hq := pow_q h
      have := ih (m % 10 ^ f) (Nat.mod_lt _ (pow_p f))
      unfold allD at *
      rw [List.all_cons, this, u8_dig hq]
      generalize m / 10 ^ f = q at *
      simp; omega
theorem dg_len (f m : Nat) : (dg f m).length ≤ f := by
  induction f generalizing m with
  | zero => simp [dg]
  | succ f ih =>
    by_cases h0 : m = 0
    · subst h0; rw [dg_0]; simp
    · rw [dg_s f m (by omega)]; have := ih (m % 10 ^ f); simp; omega
theorem dg_pos (f m : Nat) (h0 : 0 < m) (h : m < 10 ^ f) : 1 ≤ (dg f m).length := by
  cases f with
  | zero => simp at h; omega
  | succ f => rw [dg_s f m h0]; simp
theorem dg_val (f m : Nat) (h : m < 10 ^ f) : val (dg f m) * ((10 ^ (f - (dg f m).length) : Nat) : Int) = m := by
  induction f generalizing m with
  | zero => simp at h; subst h; simp [dg, val_nil]
  | succ f ih =>
    by_cases h0 : m = 0
    · subst h0; rw [dg_0, val_nil]; simp
    · rw [dg_s f m (by omega)]
      have hq := pow_q h
      have hi := ih (m % 10 ^ f) (Nat.mod_lt _ (pow_p f))
      have hl := dg_len f (m % 10 ^ f)
      rw [val_cons, u8_dig hq, List.length_cons, show f + 1 - ((dg f (m % 10 ^ f)).length + 1) = f - (dg f (m % 10 ^ f)).length by omega, Int.add_mul, hi, Int.mul_assoc]
      have e : ((10 ^ (dg f (m % 10 ^ f)).length : Nat) : Int) * ((10 ^ (f - (dg f (m % 10 ^ f)).length) : Nat) : Int) = ((10 ^ f : Nat) : Int) := by
        rw [← Int.natCast_mul, ← Nat.pow_add, show (dg f (m % 10 ^ f)).length + (f - (dg f (m % 10 ^ f)).length) = f by omega]
      rw [e, show (48 + ((m / 10 ^ f : Nat) : Int) - 48) = ((m / 10 ^ f : Nat) : Int) by omega, ← Int.natCast_mul, ← Int.natCast_add]
      congr 1
      have := Nat.div_add_mod m (10 ^ f)
      rw [Nat.mul_comm] at this; omega
theorem dg_last (f m : Nat) (h0 : 0 < m) (h : m < 10 ^ f) : ∃ l c, dg f m = l ++ [c] ∧ ¬ (c.toNat : Int) = 48 := by
  induction f generalizing m with
  | zero => simp at h; omega
  | succ f ih =>
    rw [dg_s f m h0]
    have hq := pow_q h
    by_cases hz : m % 10 ^ f = 0
    · rw [hz, dg_0]
      refine ⟨[], _, rfl, ?_⟩
      rw [u8_dig hq]
      have := Nat.div_add_mod m (10 ^ f)
      rw [hz] at this
      intro e
      generalize m / 10 ^ f = q at *
      obtain rfl : q = 0 := by omega
      simp at this; omega
    · obtain ⟨l, c, e, hc⟩ := ih (m % 10 ^ f) (by omega) (Nat.mod_lt _ (pow_p f))
      exact ⟨_ :: l, c, by rw [e]; rfl, hc⟩

/-- The parts of the text. -/
def tailF (m : Nat) : List UInt8 := if m = 0 then [] else 46 :: dg 4 m
def sufL (x : Int) : List UInt8 := if x = 3 then [100] else if x = 4 then [109] else []
def restN (n d : Int) : Nat := ((n % d) * (10000 / d)).toNat
def fdC (n d : Int) : Bool := validB n d && (decide (0 ≤ n) && decide (10000 % d = 0))
def fdB (n d x : Int) : Bool := fdC n d && (decide (2 ≤ x) && (decide (x ≤ 4) && decide (n / d ≤ 999999999)))
def fdL (n d x : Int) : List UInt8 := numL (n / d) ++ (tailF (restN n d) ++ sufL x)
def fdT (n d x : Int) : ByteArray := if fdB n d x = true then ⟨(fdL n d x).toArray⟩ else ⟨#[]⟩
theorem fd_no {n d x : Int} (h : fdB n d x = false) : fdT n d x = ⟨#[]⟩ := by unfold fdT; rw [if_neg (by simp [h])]
theorem fd_yes {n d x : Int} (h : fdB n d x = true) : fdT n d x = ⟨(fdL n d x).toArray⟩ := by unfold fdT; rw [if_pos h]
theorem fdC_iff {n d : Int} : fdC n d = true ↔ validB n d = true ∧ 0 ≤ n ∧ 10000 % d = 0 := by unfold fdC; simp
theorem fdB_iff {n d x : Int} : fdB n d x = true ↔ fdC n d = true ∧ 2 ≤ x ∧ x ≤ 4 ∧ n / d ≤ 999999999 := by unfold fdB; simp

theorem rest_facts {n d : Int} (h : fdC n d = true) : 1 ≤ d ∧ d ≤ 10000 ∧ 0 ≤ n ∧ n ≤ 1000000000000000 ∧ Nat.gcd n.natAbs d.natAbs = 1 ∧ d ∣ 10000 ∧ (restN n d : Int) * d = (n % d) * 10000 ∧ restN n d < 10000 ∧ (restN n d : Int) = (n % d) * (10000 / d) := by
  obtain ⟨hv, h0, hd⟩ := fdC_iff.1 h
  obtain ⟨⟨d1, d2, n1, n2⟩, hg⟩ := (validB_iff n d).1 hv
  have hdv : d ∣ 10000 := Int.dvd_of_emod_eq_zero hd
  have hle : d ≤ 10000 := Int.le_of_dvd (by decide) hdv
  obtain ⟨D, hD⟩ := hdv
  have e : 10000 / d = D := by rw [hD, Int.mul_ediv_cancel_left _ (by omega)]
  have hr0 := Int.emod_nonneg n (show d ≠ 0 by omega)
  have hr1 := Int.emod_lt_of_pos n (show 0 < d by omega)
  have hDp : 0 < D := by
    rcases Int.lt_or_le 0 D with hx | hx
    · exact hx
    · have := Int.mul_nonneg (show 0 ≤ d by omega) (show 0 ≤ -D by omega)
      rw [Int.mul_neg] at this; omega
  have hm0 : 0 ≤ (n % d) * D := Int.mul_nonneg hr0 (by omega)
  have er : (restN n d : Int) = (n % d) * D := by unfold restN; rw [e]; omega
  refine ⟨d1, hle, h0, n2, hg, ⟨D, hD⟩, ?_, ?_, by rw [er, e]⟩
  · rw [er, hD]; grind
  · have : (n % d) * D < d * D := Int.mul_lt_mul_of_pos_right hr1 hDp
    omega

/-! The point -/
theorem cut46 {a b : List UInt8} (h : allD a = true) : pnt (a ++ 46 :: b) = true ∧ ahd (a ++ 46 :: b) = a ∧ bhd (a ++ 46 :: b) = b := by
  induction a with
  | nil => simp [pnt, ahd, bhd]
  | cons x l ih =>
    unfold allD at h
    rw [List.all_cons, Bool.and_eq_true] at h
    have hx : ¬ (x.toNat : Int) = 46 := by have := h.1; simp at this; omega
    obtain ⟨p, q, r⟩ := ih h.2
    simp only [List.cons_append, pnt, ahd, bhd]
    rw [if_neg hx, if_neg hx, p, q, r]; simp
theorem none46 {a : List UInt8} (h : allD a = true) : pnt a = false := by
  induction a with
  | nil => rfl
  | cons x l ih =>
    unfold allD at h
    rw [List.all_cons, Bool.and_eq_true] at h
    have hx : ¬ (x.toNat : Int) = 46 := by have := h.1; simp at this; omega
    simp only [pnt]; rw [ih h.2]; simpa using hx

/-- The text without the dimension. -/
def bareL (n d : Int) : List UInt8 := numL (n / d) ++ tailF (restN n d)
theorem numL_pos {q : Int} (h : 0 ≤ q) : numL q = dl 40 q.toNat 1 := by unfold numL; rw [if_neg (by omega), show q.natAbs = q.toNat by omega]
theorem bare_last {n d : Int} (h : fdC n d = true) : ∃ l c, bareL n d = l ++ [c] ∧ 48 ≤ (c.toNat : Int) ∧ (c.toNat : Int) ≤ 57 ∧ (0 < restN n d → ¬ (c.toNat : Int) = 48) := by
  obtain ⟨d1, d2, n0, n1, hg, hdv, hr, hm, -⟩ := rest_facts h
  have hq : 0 ≤ n / d := Int.ediv_nonneg n0 (by omega)
  unfold bareL tailF
  by_cases hz : restN n d = 0
  · rw [if_pos hz, List.append_nil, numL_pos hq, dl_step 39 _ 1 (.inr (by decide))]
    refine ⟨_, _, rfl, ?_⟩
    rw [u8_dig (Nat.mod_lt _ (by decide))]
    omega
  · rw [if_neg hz]
    obtain ⟨l, c, e, hc⟩ := dg_last 4 (restN n d) (by omega) hm
    have ha := dg_allD 4 (restN n d) hm
    rw [e, allD_snoc] at ha
    simp at ha
    exact ⟨numL (n / d) ++ 46 :: l, c, by rw [e]; simp, by omega, by omega, fun _ => hc⟩
theorem fd_suf {n d x : Int} (h : fdC n d = true) (h2 : 2 ≤ x) (h4 : x ≤ 4) : sufI ⟨(fdL n d x).toArray⟩ = x ∧ (brS ⟨(fdL n d x).toArray⟩).data.toList = bareL n d ∧ 0 < (⟨(fdL n d x).toArray⟩ : ByteArray).size := by
  obtain ⟨l, c, e, c0, c1, -⟩ := bare_last h
  have eq : fdL n d x = l ++ c :: sufL x := by
    have : fdL n d x = bareL n d ++ sufL x := by unfold fdL bareL; simp
    rw [this, e]; simp
  have hsz : (⟨(fdL n d x).toArray⟩ : ByteArray).size = (fdL n d x).length := by rw [← size_list, mk_list]
  have hlast : ∀ (a : List UInt8) (b : UInt8) (hl : fdL n d x = a ++ [b]) (hp : 0 < (⟨(fdL n d x).toArray⟩ : ByteArray).size), ((⟨(fdL n d x).toArray⟩ : ByteArray)[(⟨(fdL n d x).toArray⟩ : ByteArray).size - 1]'(by omega)) = b ∧ ((⟨(fdL n d x).toArray⟩ : ByteArray).extract 0 ((⟨(fdL n d x).toArray⟩ : ByteArray).size - 1)).data.toList = a := by
    intro a b hl hp
    constructor
    · have h2 := at_list ⟨(fdL n d x).toArray⟩ ((⟨(fdL n d x).toArray⟩ : ByteArray).size - 1) (by omega)
      rw [mk_list] at h2
      have h3 : (fdL n d x)[(⟨(fdL n d x).toArray⟩ : ByteArray).size - 1]? = some b := by rw [hsz, hl]; simp
      exact Option.some.inj (h2.symm.trans h3)
    · rw [ext_data, mk_list, hsz, hl]; simp
  have hpos : 0 < (⟨(fdL n d x).toArray⟩ : ByteArray).size := by rw [hsz, eq, List.length_append, List.length_cons]; omega
  refine ⟨?_, ?_, hpos⟩
  all_goals
    rcases (show x = 2 ∨ x = 3 ∨ x = 4 by omega) with hx | hx | hx
    · have es : sufL x = [] := by unfold sufL; rw [if_neg (by omega), if_neg (by omega)]
      rw [es] at eq
      obtain ⟨h1, h2⟩ := hlast l c eq hpos
      obtain ⟨s1, s2⟩ := suf_n hpos (by rw [h1]; omega) (by rw [h1]; omega)
      first
        | (rw [s1, hx])
        | (rw [s2, mk_list, e, eq])
    · have es : sufL x = [100] := by unfold sufL; rw [if_pos hx]
      rw [es] at eq
      obtain ⟨h1, h2⟩ := hlast (l ++ [c]) 100 (by rw [eq]; simp) hpos
      obtain ⟨s1, s2⟩ := suf_d hpos (by rw [h1]; rfl)
      first
        | (rw [s1, hx])
        | (rw [s2, h2, e])
    · have es : sufL x = [109] := by unfold sufL; rw [if_neg (by omega), if_pos hx]
      rw [es] at eq
      obtain ⟨h1, h2⟩ := hlast (l ++ [c]) 109 (by rw [eq]; simp) hpos
      obtain ⟨s1, s2⟩ := suf_m hpos (by rw [h1]; rfl)
      first
        | (rw [s1, hx])
        | (rw [s2, h2, e])

theorem bare_parts {n d : Int} (h : fdC n d = true) : allD (numL (n / d)) = true ∧ pnt (bareL n d) = decide (0 < restN n d) ∧ ahd (bareL n d) = numL (n / d) ∧ bhd (bareL n d) = dg 4 (restN n d) := by
  obtain ⟨d1, d2, n0, n1, hg, hdv, hr, hm, -⟩ := rest_facts h
  have hq : 0 ≤ n / d := Int.ediv_nonneg n0 (by omega)
  have ha : allD (numL (n / d)) = true := by rw [numL_pos hq]; exact allD_dl _ _ _
  refine ⟨ha, ?_⟩
  unfold bareL tailF
  by_cases hz : restN n d = 0
  · rw [if_pos hz, List.append_nil, hz, dg_0]
    have hp := none46 ha
    exact ⟨hp, (bhd_no hp).2, (bhd_no hp).1⟩
  · rw [if_neg hz]
    obtain ⟨p, a, b⟩ := cut46 (b := dg 4 (restN n d)) ha
    exact ⟨by rw [p]; simp; omega, a, b⟩

/-- The text of a value is read back. -/
theorem fd_back {n d x : Int} (h : fdB n d x = true) : decB (fdT n d x) = true ∧ decN (fdT n d x) = n ∧ decD (fdT n d x) = d ∧ decX (fdT n d x) = x := by
  obtain ⟨hC, x2, x4, hq9⟩ := fdB_iff.1 h
  obtain ⟨d1, d2, n0, n1, hg, hdv, hr, hm, hmr⟩ := rest_facts hC
  obtain ⟨hs, hb, hpos⟩ := fd_suf hC x2 x4
  obtain ⟨ha, hp, hah, hbh⟩ := bare_parts hC
  have hq : 0 ≤ n / d := Int.ediv_nonneg n0 (by omega)
  rw [fd_yes h]
  have hl9 : (numL (n / d)).length ≤ 9 := by rw [numL_pos hq]; exact len_le 40 _ 9 (by decide) (by omega)
  have hl1 : 1 ≤ (numL (n / d)).length := by
    rw [numL_pos hq]; have := dl_ne (n / d).toNat
    have := List.length_pos_iff.2 this; omega
  have hh0 : (decide (2 ≤ (numL (n / d)).length) && hd0 (numL (n / d))) = false := by
    by_cases h0 : n / d = 0
    · rw [h0]; rfl
    · rw [numL_pos hq]
      obtain ⟨c, r, e, hc⟩ := head_ne 40 (n / d).toNat (by omega) (Nat.lt_of_le_of_lt (show _ ≤ 1000000000000000000 by omega) (by decide))
      rw [e]; simp [hd0, hc]
  have hdB : decB ⟨(fdL n d x).toArray⟩ = true := by
    unfold decB frmB lenB
    rw [hb, hah, hbh, hp, hh0, ha, dg_allD 4 _ hm]
    have e1 : decide (1 ≤ (numL (n / d)).length) = true := by simpa using hl1
    have e2 : decide ((numL (n / d)).length ≤ 9) = true := by simpa using hl9
    rw [e1, e2]
    by_cases hz : restN n d = 0
    · rw [hz]; rfl
    · have e3 : decide (1 ≤ (dg 4 (restN n d)).length) = true := by simpa using dg_pos 4 _ (by omega) hm
      have e4 : decide ((dg 4 (restN n d)).length ≤ 4) = true := by simpa using dg_len 4 _
      rw [e3, e4]; simp
  obtain ⟨eN, eD, eX⟩ := dec_yes hdB
  refine ⟨hdB, ?_⟩
  rw [eN, eD, eX, hs, hb]
  have hk := dg_len 4 (restN n d)
  have hv := dg_val 4 (restN n d) hm
  have vb := val_bd _ (dg_allD 4 (restN n d) hm)
  have vq : val (numL (n / d)) = n / d := by rw [numL_pos hq, dl_val1 _ (by omega)]; omega
  unfold digN digD
  rw [hah, hbh, vq]
  generalize hkk : (dg 4 (restN n d)).length = k at *
  generalize val (dg 4 (restN n d)) = v at *
  have p1 : 1 ≤ 10 ^ k := Nat.one_le_pow _ _ (by decide)
  have p2 : 10 ^ k ≤ 10000 := by
    have := Nat.pow_le_pow_right (n := 10) (by decide) hk
    omega
  have hvd : v * d = (n % d) * ((10 ^ k : Nat) : Int) := by
    have e4 : ((10 ^ k : Nat) : Int) * ((10 ^ (4 - k) : Nat) : Int) = 10000 := by
      rw [← Int.natCast_mul, ← Nat.pow_add, show k + (4 - k) = 4 by omega]; rfl
    have p3 : 0 < ((10 ^ (4 - k) : Nat) : Int) := by have := pow_p (4 - k); omega
    have : ((10 ^ (4 - k) : Nat) : Int) * (v * d) = ((10 ^ (4 - k) : Nat) : Int) * ((n % d) * ((10 ^ k : Nat) : Int)) := by
      rw [← hv] at hr
      generalize ((10 ^ (4 - k) : Nat) : Int) = s at *
      generalize ((10 ^ k : Nat) : Int) = t at *
      rw [← e4] at hr
      grind
    exact Int.eq_of_mul_eq_mul_left (by omega) this
  generalize hT : ((10 ^ k : Nat) : Int) = t at *
  have hed := Int.mul_ediv_add_emod n d
  have m0 : 0 ≤ n / d * t := Int.mul_nonneg hq (by omega)
  have m1 : n / d * t ≤ 999999999 * t := Int.mul_le_mul_of_nonneg_right (by omega) (by omega)
  have hred : Red (n / d * t + v) t n d := by
    have m2 : d * (n / d) ≤ d * 999999999 := Int.mul_le_mul_of_nonneg_left hq9 (by omega)
    have m3 := Int.emod_lt_of_pos n (show 0 < d by omega)
    refine ⟨by omega, n0, d2, by omega, hdv, ?_⟩
    have e1 : (n / d * t + v) * d = n / d * t * d + v * d := Int.add_mul _ _ _
    rw [e1, hvd]
    have e2 : n * t = (d * (n / d) + n % d) * t := by rw [hed]
    rw [e2, Int.add_mul]; grind
  have hnot : ∀ p : Nat, 2 ≤ p → ¬ (n % (p : Int) = 0 ∧ d % (p : Int) = 0) := fun p hp2 ⟨k1, k2⟩ => by
    have e1 : p ∣ n.natAbs := Int.ofNat_dvd_left.1 (Int.dvd_of_emod_eq_zero k1)
    have e2 : p ∣ d.natAbs := Int.ofNat_dvd_left.1 (Int.dvd_of_emod_eq_zero k2)
    have := Nat.dvd_gcd e1 e2
    rw [hg] at this
    have := Nat.le_of_dvd (by decide) this
    omega
  obtain ⟨f1, f2⟩ := hred.fin (by omega) (by omega) (by omega) (by omega) (hnot 2 (by decide)) (hnot 5 (by decide))
  exact ⟨f1, f2, rfl⟩

/-- Only a value of that form is read from any text. -/
theorem dec_only {s : ByteArray} {n d x : Int} (hB : decB s = true) (hN : decN s = n) (hD : decD s = d) (hX : decX s = x) : fdB n d x = true := by
  obtain ⟨eN, eD, eX⟩ := dec_yes hB
  have hf : frmB (brS s).data.toList = true := hB
  obtain ⟨b0, b1, b2, b3⟩ := dig_bd hf
  have hfull := hf
  unfold frmB at hf
  simp only [Bool.and_eq_true] at hf
  obtain ⟨hl, ha, hb⟩ := hf
  obtain ⟨l1, l2, l3⟩ := len_facts hl
  have va := val_bd _ ha
  have vb := val_bd _ hb
  have hd10 : digD (brS s).data.toList ∣ 10000 := dvd_ten _ l3
  have hlt : digN (brS s).data.toList < 1000000000 * digD (brS s).data.toList := by
    have p9 : ((10 ^ (ahd (brS s).data.toList).length : Nat) : Int) ≤ 1000000000 := by
      have := Nat.pow_le_pow_right (n := 10) (by decide) l2
      omega
    unfold digN digD
    generalize hT : ((10 ^ (bhd (brS s).data.toList).length : Nat) : Int) = t at *
    have m1 : val (ahd (brS s).data.toList) * t ≤ 999999999 * t := Int.mul_le_mul_of_nonneg_right (by omega) (by omega)
    omega
  generalize digN (brS s).data.toList = a at *
  generalize digD (brS s).data.toList = b at *
  have e : mkN a b = nN a b ∧ mkD a b = nD a b := by
    unfold mkN mkD mkS
    rw [if_neg (by omega), if_neg (by omega), if_neg (by omega)]
    have : (b.natAbs : Int) = b := by omega
    rw [this]; exact ⟨rfl, rfl⟩
  rw [eN, e.1] at hN
  rw [eD, e.2] at hD
  rw [eX] at hX
  have hok : nOk a b = true := by
    have p1 := rD_pos a b (by omega)
    have m1 := rD_mul a b
    have m2 := rN_mul a b
    have gp := gOf_pos a b (by omega)
    have c1 : rD a b ≤ b := by
      have : 1 * rD a b ≤ (gOf a b : Int) * rD a b := Int.mul_le_mul_of_nonneg_right (by omega) (by omega)
      omega
    have c2 : (rN a b).natAbs ≤ a.natAbs := by
      have e : a.natAbs = gOf a b * (rN a b).natAbs := by
        have := congrArg Int.natAbs m2; rw [Int.natAbs_mul, Int.natAbs_natCast] at this; exact this
      rw [e]; exact Nat.le_mul_of_pos_left _ gp
    unfold nOk; simp; omega
  rcases n_cases a b (by omega) with ⟨_, _, _, hn⟩ | ⟨_, _, hv, he⟩
  · rw [hok] at hn; cases hn
  · rw [hN, hD] at hv he
    obtain ⟨⟨d1, d2, n1, n2⟩, hg⟩ := (validB_iff n d).1 hv
    have hn0 : 0 ≤ n := by
      rcases Int.lt_or_le n 0 with hx | hx
      · have h1 := Int.mul_pos (show 0 < -n by omega) (show 0 < b by omega)
        have h2 := Int.mul_nonneg (show 0 ≤ a by omega) (show 0 ≤ d by omega)
        rw [Int.neg_mul] at h1; omega
      · exact hx
    have hdb : d ∣ b := by
      have h1 : d.natAbs ∣ n.natAbs * b.natAbs := by
        rw [← Int.natAbs_mul, he, Int.natAbs_mul]; exact Nat.dvd_mul_left _ _
      have h2 := Nat.Coprime.dvd_of_dvd_mul_left (show Nat.Coprime d.natAbs n.natAbs by rw [Nat.coprime_comm]; exact hg) h1
      exact Int.natAbs_dvd_natAbs.1 h2
    have hd1 : 10000 % d = 0 := Int.emod_eq_zero_of_dvd (Int.dvd_trans hdb hd10)
    have hq : n / d ≤ 999999999 := by
      have : n * b < 1000000000 * b * d := by rw [he]; exact Int.mul_lt_mul_of_pos_right hlt (by omega)
      have h3 : n < 1000000000 * d := by
        rcases Int.lt_or_le n (1000000000 * d) with hx | hx
        · exact hx
        · have := Int.mul_le_mul_of_nonneg_right hx (show 0 ≤ b by omega)
          have e5 : 1000000000 * d * b = 1000000000 * b * d := by grind
          omega
      have := Int.ediv_lt_of_lt_mul (by omega) h3
      omega
    have hsb := suf_bd s
    exact fdB_iff.2 ⟨fdC_iff.2 ⟨hv, hn0, hd1⟩, by omega, by omega, hq⟩

theorem fd_size (n d x : Int) : (fdT n d x).size ≤ 47 := by
  unfold fdT
  split
  · rename_i h
    have hC := (fdB_iff.1 h).1
    rw [← size_list, mk_list]; unfold fdL tailF sufL
    have h1 := numL_len (n / d)
    have h2 := dg_len 4 (restN n d)
    rw [List.length_append, List.length_append]
    split <;> split <;> (try split) <;> simp <;> omega
  · decide

/-! The program's loop: k digits are behind, the rest is r. -/
def Pi (n d : Int) (k : Nat) (r : Int) (t : ByteArray) : Prop :=
  fdC n d = true → ∃ M : Nat, (M : Int) * d = r * ((10 ^ (4 - k) : Nat) : Int) ∧ M < 10 ^ (4 - k) ∧ t.data.toList ++ (if k = 0 then tailF M else dg (4 - k) M) = bareL n d
theorem pi_start (n d : Int) : Pi n d 0 (n % d) (numS (n / d)) := fun h => by
  obtain ⟨d1, d2, n0, n1, hg, hdv, hr, hm, -⟩ := rest_facts h
  refine ⟨restN n d, by rw [hr]; rfl, hm, ?_⟩
  rw [if_pos rfl]; unfold numS; rw [mk_list]; rfl
theorem numS_dig {c : Int} (h0 : 0 ≤ c) (h1 : c < 10) : numS c = ⟨#[UInt8.ofNat (48 + c.toNat)]⟩ := by
  unfold numS
  rw [numL_pos h0, dl_step 39 _ 1 (.inr (by decide)), show c.toNat / 10 = 0 by omega, show 1 - 1 = 0 from rfl, dl_stop, show c.toNat % 10 = c.toNat by omega]; rfl
theorem dig_bounds {r d : Int} (r0 : 0 < r) (rd : r < d) : 0 ≤ r * 10 / d ∧ r * 10 / d < 10 ∧ 0 ≤ r * 10 % d ∧ r * 10 % d < d := by
  refine ⟨Int.ediv_nonneg (by omega) (by omega), Int.ediv_lt_of_lt_mul (by omega) (by omega), Int.emod_nonneg _ (by omega), Int.emod_lt_of_pos _ (by omega)⟩
theorem pi_step {n d : Int} {k : Nat} {r : Int} {t u : ByteArray} (h : Pi n d k r t) (hk : k < 4) (r0 : 0 < r) (rd : r < d) (hu : u.data.toList = if k = 0 then t.data.toList ++ [46] else t.data.toList) :
    Pi n d (k + 1) (r * 10 % d) (u ++ numS (r * 10 / d)) := fun hC => by
  obtain ⟨M, e1, e2, e3⟩ := h hC
  obtain ⟨b0, b1, b2, b3⟩ := dig_bounds r0 rd
  obtain ⟨f, hf⟩ : ∃ f, 4 - k = f + 1 := ⟨3 - k, by omega⟩
  have hf2 : 4 - (k + 1) = f := by omega
  rw [hf] at e1 e2 e3
  rw [hf2]
  have p := pow_p f
  have hM0 : 0 < M := by
    rcases Nat.eq_zero_or_pos M with h0 | h0
    · rw [h0] at e1
      have := Int.mul_pos r0 (show 0 < ((10 ^ (f + 1) : Nat) : Int) by have := pow_p (f + 1); omega)
      rw [show ((0 : Nat) : Int) = 0 from rfl, Int.zero_mul] at e1; omega
    · exact h0
  have e1' : (M : Int) * d = r * 10 * ((10 ^ f : Nat) : Int) := by rw [e1, Nat.pow_succ]; push_cast; grind
  have hed := Int.mul_ediv_add_emod (r * 10) d
  have hdm := Nat.div_add_mod M (10 ^ f)
  have hlt := Nat.mod_lt M p
  have hc : r * 10 / d = ((M / 10 ^ f : Nat) : Int) := by
    have hP : 0 < ((10 ^ f : Nat) : Int) := by omega
    have e5 : ((10 ^ f : Nat) : Int) * ((M / 10 ^ f : Nat) : Int) + ((M % 10 ^ f : Nat) : Int) = M := by rw [← Int.natCast_mul, ← Int.natCast_add, hdm]
    have hlt' : ((M % 10 ^ f : Nat) : Int) < ((10 ^ f : Nat) : Int) := by omega
    have hge' : 0 ≤ ((M % 10 ^ f : Nat) : Int) := by omega
    generalize ((10 ^ f : Nat) : Int) = P at *
    generalize ((M / 10 ^ f : Nat) : Int) = q at *
    generalize ((M % 10 ^ f : Nat) : Int) = s at *
    -- (P q + s) d = 10 r P, 0 ≤ s < P  ⟹  10 r / d = q
    have k1 : q * d ≤ r * 10 := by
      rcases Int.lt_or_le (r * 10) (q * d) with hx | hx
      · have a1 : (r * 10 + 1) * P ≤ q * d * P := Int.mul_le_mul_of_nonneg_right (by omega) (by omega)
        have a2 : 0 ≤ s * d := Int.mul_nonneg hge' (by omega)
        have a3 : (P * q + s) * d = q * d * P + s * d := by grind
        rw [e5, e1'] at a3
        have a4 : (r * 10 + 1) * P = r * 10 * P + P := by grind
        omega
      · exact hx
    have k2 : r * 10 < (q + 1) * d := by
      rcases Int.lt_or_le (r * 10) ((q + 1) * d) with hx | hx
      · exact hx
      · have a1 : (q + 1) * d * P ≤ r * 10 * P := Int.mul_le_mul_of_nonneg_right hx (by omega)
        have a2 : s * d < P * d := Int.mul_lt_mul_of_pos_right hlt' (by omega)
        have a3 : (P * q + s) * d = q * d * P + s * d := by grind
        rw [e5, e1'] at a3
        have a4 : (q + 1) * d * P = q * d * P + P * d := by grind
        omega
    apply Int.le_antisymm
    · have := Int.ediv_lt_of_lt_mul (show 0 < d by omega) k2; omega
    · exact Int.le_ediv_of_mul_le (by omega) k1
  refine ⟨M % 10 ^ f, ?_, hlt, ?_⟩
  · have e5 : ((M % 10 ^ f : Nat) : Int) = M - ((10 ^ f : Nat) : Int) * ((M / 10 ^ f : Nat) : Int) := by
      have : ((10 ^ f : Nat) : Int) * ((M / 10 ^ f : Nat) : Int) + ((M % 10 ^ f : Nat) : Int) = M := by rw [← Int.natCast_mul, ← Int.natCast_add, hdm]
      omega
    rw [e5, ← hc]
    generalize ((10 ^ f : Nat) : Int) = P at *
    generalize r * 10 / d = q at *
    have : r * 10 % d = r * 10 - d * q := by omega
    rw [this, Int.sub_mul, e1', Int.sub_mul]; grind
  · rw [if_neg (by omega), ← e3]
    have hw : (u ++ numS (r * 10 / d)).data.toList = u.data.toList ++ [UInt8.ofNat (48 + M / 10 ^ f)] := by
      rw [numS_dig b0 b1, hc, Int.toNat_natCast]; simp
    rw [hw, hu]
    by_cases hk0 : k = 0
    · rw [if_pos hk0, if_pos hk0]; unfold tailF
      rw [if_neg (by omega), show (4 : Nat) = f + 1 by omega, dg_s f M hM0]; simp
    · rw [if_neg hk0, if_neg hk0, dg_s f M hM0]; simp
theorem pi_end {n d : Int} {k : Nat} {t : ByteArray} (h : Pi n d k 0 t) (hd : 0 < d) : fdC n d = true → t.data.toList = bareL n d := fun hC => by
  obtain ⟨M, e1, e2, e3⟩ := h hC
  rw [Int.zero_mul] at e1
  have : M = 0 := by
    rcases Int.mul_eq_zero.1 e1 with h | h
    · omega
    · omega
  rw [← e3, this, dg_0]; simp [tailF]
theorem pi_no {n d : Int} {r : Int} {t : ByteArray} (h : Pi n d 4 r t) (r0 : 0 < r) : fdC n d = false := by
  cases hC : fdC n d
  · rfl
  · obtain ⟨M, e1, e2, e3⟩ := h hC
    simp at e1 e2
    rw [e2] at e1; simp at e1; omega
theorem fdB_no {n d x : Int} (h : fdC n d = false) : fdB n d x = false := by unfold fdB; rw [h]; rfl
theorem fdC_no {n d : Int} (h : ¬ (1 ≤ d ∧ d ≤ 10000 ∧ 0 ≤ n ∧ n ≤ 1000000000000000)) : fdC n d = false := by
  cases hC : fdC n d
  · rfl
  · obtain ⟨d1, d2, n0, n1, -⟩ := rest_facts hC
    exact absurd ⟨d1, d2, n0, n1⟩ h

/-- What the program's last test says: a text of that form, read back. -/
theorem fd_test {n d x : Int} {t u : ByteArray} (h : fdC n d = true → t.data.toList = bareL n d) (hu : u.data.toList = t.data.toList ++ sufL x) :
    (decB u = true ∧ decN u = n ∧ decD u = d ∧ decX u = x → fdB n d x = true ∧ fdT n d x = u) ∧ (¬ (decB u = true ∧ decN u = n ∧ decD u = d ∧ decX u = x) → fdB n d x = false) := by
  have key : fdB n d x = true → fdT n d x = u := fun hB => by
    rw [fd_yes hB]
    apply ba_ext
    rw [mk_list, hu, h (fdB_iff.1 hB).1]; unfold fdL bareL; simp
  constructor
  · rintro ⟨h1, h2, h3, h4⟩
    have := dec_only h1 h2 h3 h4
    exact ⟨this, key this⟩
  · intro hn
    cases hB : fdB n d x
    · rfl
    · exfalso
      have e := fd_back hB
      rw [key hB] at e
      exact hn e

/-! The reference's loop: the rest is m < 10 ^ f. -/
def Rj (n d : Int) (f : Nat) (m : Nat) (t : ByteArray) : Prop := t.data.toList ++ dg f m = bareL n d
theorem rj_start0 {n d : Int} (h : restN n d = 0) : Rj n d 4 (restN n d) (numS (n / d)) := by
  unfold Rj bareL tailF numS; rw [mk_list, h, if_pos rfl, dg_0]
theorem rj_start1 {n d : Int} (h : 0 < restN n d) : Rj n d 4 (restN n d) (numS (n / d) ++ ⟨#[46]⟩) := by
  unfold Rj bareL tailF numS; rw [if_neg (by omega)]; simp
theorem rj_step {n d : Int} {f m : Nat} {t u : ByteArray} (h : Rj n d (f + 1) m t) (hm : 0 < m) (hu : u.data.toList = t.data.toList ++ [UInt8.ofNat (48 + m / 10 ^ f)]) : Rj n d f (m % 10 ^ f) u := by
  unfold Rj at *; rw [← h, dg_s f m hm, hu]; simp
theorem rj_end {n d x : Int} {f : Nat} {t u : ByteArray} (h : Rj n d f 0 t) (hB : fdB n d x = true) (hu : u.data.toList = t.data.toList ++ sufL x) : fdT n d x = u := by
  unfold Rj at h
  rw [dg_0, List.append_nil] at h
  rw [fd_yes hB]; apply ba_ext; rw [mk_list, hu, h]; unfold fdL bareL; simp

end Go.Proofs.YtnhmebhmlbofgaaDoor.Txt

/- Lemmas, each as it is printed; no conditions but those printed. -/
import Derived.Test.YthmlhheceihcbaaGreatDoorKB4
namespace Go.Proofs.YthmlhheceihcbaaGreatDoor.Txt
set_option maxHeartbeats 16000000
open Str Frac Tok
def dg : Nat -> Nat -> List UInt8
 | 0, _ => []
 | f + 1, m => if m = 0 then [] else UInt8.ofNat (48 + m / 10 ^ f) :: dg f (m % 10 ^ f)
theorem dg_0 (f : Nat) : dg f 0 = [] := by cases f <;> simp [dg]
theorem dg_s (f m : Nat) (h : 0 < m) : dg (f + 1) m = UInt8.ofNat (48 + m / 10 ^ f) :: dg f (m % 10 ^ f) := by simp only [dg]; rw [if_neg (by omega)]
theorem pow_q {f m : Nat} (h : m < 10 ^ (f + 1)) : m / 10 ^ f < 10 := by
 rw [Nat.pow_succ] at h;exact Nat.div_lt_of_lt_mul (by rw [Nat.mul_comm] at h; rwa [Nat.mul_comm])
theorem pow_p (f : Nat) : 0 < 10 ^ f := Nat.pow_pos (by decide)
theorem u8_dig {k : Nat} (h : k < 10) : ((UInt8.ofNat (48 + k)).toNat : Int) = 48 + k := by
 rw [UInt8.toNat_ofNat']; omega
theorem dg_allD (f m : Nat) (h : m < 10 ^ f) : allD (dg f m) = true := by
 induction f generalizing m with
 | zero => rfl
 | succ f ih =>
  by_cases h0 : m = 0
  ·subst h0; rw [dg_0]; rfl
  ·rw [dg_s f m (by omega)];have hq := pow_q h;have := ih (m % 10 ^ f) (Nat.mod_lt _ (pow_p f));unfold allD at *;rw [List.all_cons, this, u8_dig hq];generalize m / 10 ^ f = q at *;simp; omega
theorem dg_len (f m : Nat) : (dg f m).length <= f := by
 induction f generalizing m with
 | zero => simp [dg]
 | succ f ih =>
  by_cases h0 : m = 0
  ·subst h0; rw [dg_0]; simp
  ·rw [dg_s f m (by omega)]; have := ih (m % 10 ^ f); simp; omega
theorem dg_pos (f m : Nat) (h0 : 0 < m) (h : m < 10 ^ f) : 1 <= (dg f m).length := by
 cases f with
 | zero => simp at h; omega
 | succ f => rw [dg_s f m h0]; simp
theorem dg_val (f m : Nat) (h : m < 10 ^ f) : val (dg f m) * ((10 ^ (f - (dg f m).length) : Nat) : Int) = m := by
 induction f generalizing m with
 | zero => simp at h; subst h; simp [dg, val_nil]
 | succ f ih =>
  by_cases h0 : m = 0
  ·subst h0; rw [dg_0, val_nil]; simp
  ·rw [dg_s f m (by omega)];have hq := pow_q h;have hi := ih (m % 10 ^ f) (Nat.mod_lt _ (pow_p f));have hl := dg_len f (m % 10 ^ f);rw [val_cons, u8_dig hq, List.length_cons, show f + 1 - ((dg f (m % 10 ^ f)).length + 1) = f - (dg f (m % 10 ^ f)).length by omega, Int.add_mul, hi, Int.mul_assoc]
   have e : ((10 ^ (dg f (m % 10 ^ f)).length : Nat) : Int) * ((10 ^ (f - (dg f (m % 10 ^ f)).length) : Nat) : Int) = ((10 ^ f : Nat) : Int) := by
    rw [<- Int.natCast_mul, <- Nat.pow_add, show (dg f (m % 10 ^ f)).length + (f - (dg f (m % 10 ^ f)).length) = f by omega]
   rw [e, show (48 + ((m / 10 ^ f : Nat) : Int) - 48) = ((m / 10 ^ f : Nat) : Int) by omega, <- Int.natCast_mul, <- Int.natCast_add]
   congr 1
   have := Nat.div_add_mod m (10 ^ f);rw [Nat.mul_comm] at this; omega
theorem dg_last (f m : Nat) (h0 : 0 < m) (h : m < 10 ^ f) : ∃ l c, dg f m = l ++ [c] /\ ¬ (c.toNat : Int) = 48 := by
 induction f generalizing m with
 | zero => simp at h; omega
 | succ f ih =>
  rw [dg_s f m h0];have hq := pow_q h;by_cases hz : m % 10 ^ f = 0
  ·rw [hz, dg_0];refine ⟨[], _, rfl, ?_⟩;rw [u8_dig hq];have := Nat.div_add_mod m (10 ^ f);rw [hz] at this;intro e;generalize m / 10 ^ f = q at *;obtain rfl : q = 0 := by omega
   simp at this; omega
  ·obtain ⟨l, c, e, hc⟩ := ih (m % 10 ^ f) (by omega) (Nat.mod_lt _ (pow_p f));exact ⟨_ :: l, c, by rw [e]; rfl, hc⟩
def tailF (m : Nat) : List UInt8 := if m = 0 then [] else 46 :: dg 4 m
def sufL (x : Int) : List UInt8 := if x = 3 then [100] else if x = 4 then [109] else []
def restN (n d : Int) : Nat := ((n % d) * (10000 / d)).toNat
def fdC (n d : Int) : Bool := validB n d && (decide (0 <= n) && decide (10000 % d = 0))
def fdB (n d x : Int) : Bool := fdC n d && (decide (2 <= x) && (decide (x <= 4) && decide (n / d <= 999999999)))
def fdL (n d x : Int) : List UInt8 := numL (n / d) ++ (tailF (restN n d) ++ sufL x)
def fdT (n d x : Int) : ByteArray := if fdB n d x = true then ⟨(fdL n d x).toArray⟩ else ⟨#[]⟩
theorem fd_no {n d x : Int} (h : fdB n d x = false) : fdT n d x = ⟨#[]⟩ := by unfold fdT; rw [if_neg (by simp [h])]
theorem fd_yes {n d x : Int} (h : fdB n d x = true) : fdT n d x = ⟨(fdL n d x).toArray⟩ := by unfold fdT; rw [if_pos h]
theorem fdC_iff {n d : Int} : fdC n d = true ↔ validB n d = true /\ 0 <= n /\ 10000 % d = 0 := by unfold fdC; simp
theorem fdB_iff {n d x : Int} : fdB n d x = true ↔ fdC n d = true /\ 2 <= x /\ x <= 4 /\ n / d <= 999999999 := by unfold fdB; simp
theorem rest_facts {n d : Int} (h : fdC n d = true) : 1 <= d /\ d <= 10000 /\ 0 <= n /\ n <= 1000000000000000 /\ Nat.gcd n.natAbs d.natAbs = 1 /\ d ∣ 10000 /\ (restN n d : Int) * d = (n % d) * 10000 /\ restN n d < 10000 /\ (restN n d : Int) = (n % d) * (10000 / d) := by
 obtain ⟨hv, h0, hd⟩ := fdC_iff.1 h;obtain ⟨⟨d1, d2, n1, n2⟩, hg⟩ := (validB_iff n d).1 hv;have hdv : d ∣ 10000 := Int.dvd_of_emod_eq_zero hd;have hle : d <= 10000 := Int.le_of_dvd (by decide) hdv;obtain ⟨D, hD⟩ := hdv;have e : 10000 / d = D := by rw [hD, Int.mul_ediv_cancel_left _ (by omega)]
 have hr0 := Int.emod_nonneg n (show d ≠ 0 by omega);have hr1 := Int.emod_lt_of_pos n (show 0 < d by omega)
 have hDp : 0 < D := by
  rcases Int.lt_or_le 0 D with hx | hx
  ·exact hx
  ·have := Int.mul_nonneg (show 0 <= d by omega) (show 0 <= -D by omega);rw [Int.mul_neg] at this; omega
 have hm0 : 0 <= (n % d) * D := Int.mul_nonneg hr0 (by omega);have er : (restN n d : Int) = (n % d) * D := by unfold restN; rw [e]; omega
 refine ⟨d1, hle, h0, n2, hg, ⟨D, hD⟩, ?_, ?_, by rw [er, e]⟩
 ·rw [er, hD]; grind
 ·have : (n % d) * D < d * D := Int.mul_lt_mul_of_pos_right hr1 hDp;omega
/-! The point -/
theorem cut46 {a b : List UInt8} (h : allD a = true) : pnt (a ++ 46 :: b) = true /\ ahd (a ++ 46 :: b) = a /\ bhd (a ++ 46 :: b) = b := by
 induction a with
 | nil => simp [pnt, ahd, bhd]
 | cons x l ih =>
  unfold allD at h;rw [List.all_cons, Bool.and_eq_true] at h;have hx : ¬ (x.toNat : Int) = 46 := by have := h.1; simp at this; omega
  obtain ⟨p, q, r⟩ := ih h.2;simp only [List.cons_append, pnt, ahd, bhd];rw [if_neg hx, if_neg hx, p, q, r]; simp
theorem none46 {a : List UInt8} (h : allD a = true) : pnt a = false := by
 induction a with
 | nil => rfl
 | cons x l ih =>
  unfold allD at h;rw [List.all_cons, Bool.and_eq_true] at h;have hx : ¬ (x.toNat : Int) = 46 := by have := h.1; simp at this; omega
  simp only [pnt]; rw [ih h.2]; simpa using hx
def bareL (n d : Int) : List UInt8 := numL (n / d) ++ tailF (restN n d)
theorem numL_pos {q : Int} (h : 0 <= q) : numL q = dl 40 q.toNat 1 := by unfold numL; rw [if_neg (by omega), show q.natAbs = q.toNat by omega]
theorem bare_last {n d : Int} (h : fdC n d = true) : ∃ l c, bareL n d = l ++ [c] /\ 48 <= (c.toNat : Int) /\ (c.toNat : Int) <= 57 /\ (0 < restN n d -> ¬ (c.toNat : Int) = 48) := by
 obtain ⟨d1, d2, n0, n1, hg, hdv, hr, hm, -⟩ := rest_facts h;have hq : 0 <= n / d := Int.ediv_nonneg n0 (by omega);unfold bareL tailF;by_cases hz : restN n d = 0
 ·rw [if_pos hz, List.append_nil, numL_pos hq, dl_step 39 _ 1 (.inr (by decide))];refine ⟨_, _, rfl, ?_⟩;rw [u8_dig (Nat.mod_lt _ (by decide))];omega
 ·rw [if_neg hz];obtain ⟨l, c, e, hc⟩ := dg_last 4 (restN n d) (by omega) hm;have ha := dg_allD 4 (restN n d) hm;rw [e, allD_snoc] at ha;simp at ha;exact ⟨numL (n / d) ++ 46 :: l, c, by rw [e]; simp, by omega, by omega, fun _ => hc⟩
theorem fd_suf {n d x : Int} (h : fdC n d = true) (h2 : 2 <= x) (h4 : x <= 4) : sufI ⟨(fdL n d x).toArray⟩ = x /\ (brS ⟨(fdL n d x).toArray⟩).data.toList = bareL n d /\ 0 < (⟨(fdL n d x).toArray⟩ : ByteArray).size := by
 obtain ⟨l, c, e, c0, c1, -⟩ := bare_last h
 have eq : fdL n d x = l ++ c :: sufL x := by
  have : fdL n d x = bareL n d ++ sufL x := by unfold fdL bareL; simp
  rw [this, e]; simp
 have hsz : (⟨(fdL n d x).toArray⟩ : ByteArray).size = (fdL n d x).length := by rw [<- size_list, mk_list]
 have hlast : ∀ (a : List UInt8) (b : UInt8) (hl : fdL n d x = a ++ [b]) (hp : 0 < (⟨(fdL n d x).toArray⟩ : ByteArray).size), ((⟨(fdL n d x).toArray⟩ : ByteArray)[(⟨(fdL n d x).toArray⟩ : ByteArray).size - 1]'(by omega)) = b /\ ((⟨(fdL n d x).toArray⟩ : ByteArray).extract 0 ((⟨(fdL n d x).toArray⟩ : ByteArray).size - 1)).data.toList = a := by
  intro a b hl hp
  constructor
  ·have h2 := at_list ⟨(fdL n d x).toArray⟩ ((⟨(fdL n d x).toArray⟩ : ByteArray).size - 1) (by omega);rw [mk_list] at h2;have h3 : (fdL n d x)[(⟨(fdL n d x).toArray⟩ : ByteArray).size - 1]? = some b := by rw [hsz, hl]; simp
   exact Option.some.inj (h2.symm.trans h3)
  ·rw [ext_data, mk_list, hsz, hl]; simp
 have hpos : 0 < (⟨(fdL n d x).toArray⟩ : ByteArray).size := by rw [hsz, eq, List.length_append, List.length_cons]; omega
 refine ⟨?_, ?_, hpos⟩
 all_goals
  rcases (show x = 2 \/ x = 3 \/ x = 4 by omega) with hx | hx | hx
  ·have es : sufL x = [] := by unfold sufL; rw [if_neg (by omega), if_neg (by omega)]
   rw [es] at eq;obtain ⟨h1, h2⟩ := hlast l c eq hpos;obtain ⟨s1, s2⟩ := suf_n hpos (by rw [h1]; omega) (by rw [h1]; omega)
   first
    | (rw [s1, hx])
    | (rw [s2, mk_list, e, eq])
  ·have es : sufL x = [100] := by unfold sufL; rw [if_pos hx]
   rw [es] at eq;obtain ⟨h1, h2⟩ := hlast (l ++ [c]) 100 (by rw [eq]; simp) hpos;obtain ⟨s1, s2⟩ := suf_d hpos (by rw [h1]; rfl)
   first
    | (rw [s1, hx])
    | (rw [s2, h2, e])
  ·have es : sufL x = [109] := by unfold sufL; rw [if_neg (by omega), if_pos hx]
   rw [es] at eq;obtain ⟨h1, h2⟩ := hlast (l ++ [c]) 109 (by rw [eq]; simp) hpos;obtain ⟨s1, s2⟩ := suf_m hpos (by rw [h1]; rfl)
   first
    | (rw [s1, hx])
    | (rw [s2, h2, e])
theorem bare_parts {n d : Int} (h : fdC n d = true) : allD (numL (n / d)) = true /\ pnt (bareL n d) = decide (0 < restN n d) /\ ahd (bareL n d) = numL (n / d) /\ bhd (bareL n d) = dg 4 (restN n d) := by
 obtain ⟨d1, d2, n0, n1, hg, hdv, hr, hm, -⟩ := rest_facts h;have hq : 0 <= n / d := Int.ediv_nonneg n0 (by omega);have ha : allD (numL (n / d)) = true := by rw [numL_pos hq]; exact allD_dl _ _ _
 refine ⟨ha, ?_⟩;unfold bareL tailF;by_cases hz : restN n d = 0
 ·rw [if_pos hz, List.append_nil, hz, dg_0];have hp := none46 ha;exact ⟨hp, (bhd_no hp).2, (bhd_no hp).1⟩
 ·rw [if_neg hz];obtain ⟨p, a, b⟩ := cut46 (b := dg 4 (restN n d)) ha;exact ⟨by rw [p]; simp; omega, a, b⟩
theorem fd_back {n d x : Int} (h : fdB n d x = true) : decB (fdT n d x) = true /\ decN (fdT n d x) = n /\ decD (fdT n d x) = d /\ decX (fdT n d x) = x := by
 obtain ⟨hC, x2, x4, hq9⟩ := fdB_iff.1 h;obtain ⟨d1, d2, n0, n1, hg, hdv, hr, hm, hmr⟩ := rest_facts hC;obtain ⟨hs, hb, hpos⟩ := fd_suf hC x2 x4;obtain ⟨ha, hp, hah, hbh⟩ := bare_parts hC;have hq : 0 <= n / d := Int.ediv_nonneg n0 (by omega);rw [fd_yes h];have hl9 : (numL (n / d)).length <= 9 := by rw [numL_pos hq]; exact len_le 40 _ 9 (by decide) (by omega)
 have hl1 : 1 <= (numL (n / d)).length := by
  rw [numL_pos hq]; have := dl_ne (n / d).toNat;have := List.length_pos_iff.2 this; omega
 have hh0 : (decide (2 <= (numL (n / d)).length) && hd0 (numL (n / d))) = false := by
  by_cases h0 : n / d = 0
  ·rw [h0]; rfl
  ·rw [numL_pos hq];obtain ⟨c, r, e, hc⟩ := head_ne 40 (n / d).toNat (by omega) (Nat.lt_of_le_of_lt (show _ <= 1000000000000000000 by omega) (by decide));rw [e]; simp [hd0, hc]
 have hdB : decB ⟨(fdL n d x).toArray⟩ = true := by
  unfold decB frmB lenB;rw [hb, hah, hbh, hp, hh0, ha, dg_allD 4 _ hm];have e1 : decide (1 <= (numL (n / d)).length) = true := by simpa using hl1
  have e2 : decide ((numL (n / d)).length <= 9) = true := by simpa using hl9
  rw [e1, e2];by_cases hz : restN n d = 0
  ·rw [hz]; rfl
  ·have e3 : decide (1 <= (dg 4 (restN n d)).length) = true := by simpa using dg_pos 4 _ (by omega) hm
   have e4 : decide ((dg 4 (restN n d)).length <= 4) = true := by simpa using dg_len 4 _
   rw [e3, e4]; simp
 obtain ⟨eN, eD, eX⟩ := dec_yes hdB;refine ⟨hdB, ?_⟩;rw [eN, eD, eX, hs, hb];have hk := dg_len 4 (restN n d);have hv := dg_val 4 (restN n d) hm;have vb := val_bd _ (dg_allD 4 (restN n d) hm);have vq : val (numL (n / d)) = n / d := by rw [numL_pos hq, dl_val1 _ (by omega)]; omega
 unfold digN digD;rw [hah, hbh, vq];generalize hkk : (dg 4 (restN n d)).length = k at *;generalize val (dg 4 (restN n d)) = v at *;have p1 : 1 <= 10 ^ k := Nat.one_le_pow _ _ (by decide)
 have p2 : 10 ^ k <= 10000 := by
  have := Nat.pow_le_pow_right (n := 10) (by decide) hk;omega
 have hvd : v * d = (n % d) * ((10 ^ k : Nat) : Int) := by
  have e4 : ((10 ^ k : Nat) : Int) * ((10 ^ (4 - k) : Nat) : Int) = 10000 := by
   rw [<- Int.natCast_mul, <- Nat.pow_add, show k + (4 - k) = 4 by omega]; rfl
  have p3 : 0 < ((10 ^ (4 - k) : Nat) : Int) := by have := pow_p (4 - k); omega
  have : ((10 ^ (4 - k) : Nat) : Int) * (v * d) = ((10 ^ (4 - k) : Nat) : Int) * ((n % d) * ((10 ^ k : Nat) : Int)) := by
   rw [<- hv] at hr;generalize ((10 ^ (4 - k) : Nat) : Int) = s at *;generalize ((10 ^ k : Nat) : Int) = t at *;rw [<- e4] at hr
   grind
  exact Int.eq_of_mul_eq_mul_left (by omega) this
 generalize hT : ((10 ^ k : Nat) : Int) = t at *;have hed := Int.mul_ediv_add_emod n d;have m0 : 0 <= n / d * t := Int.mul_nonneg hq (by omega);have m1 : n / d * t <= 999999999 * t := Int.mul_le_mul_of_nonneg_right (by omega) (by omega)
 have hred : Red (n / d * t + v) t n d := by
  have m2 : d * (n / d) <= d * 999999999 := Int.mul_le_mul_of_nonneg_left hq9 (by omega);have m3 := Int.emod_lt_of_pos n (show 0 < d by omega);refine ⟨by omega, n0, d2, by omega, hdv, ?_⟩;have e1 : (n / d * t + v) * d = n / d * t * d + v * d := Int.add_mul _ _ _;rw [e1, hvd];have e2 : n * t = (d * (n / d) + n % d) * t := by rw [hed]
  rw [e2, Int.add_mul]; grind
 have hnot : ∀ p : Nat, 2 <= p -> ¬ (n % (p : Int) = 0 /\ d % (p : Int) = 0) := fun p hp2 ⟨k1, k2⟩ => by
  have e1 : p ∣ n.natAbs := Int.ofNat_dvd_left.1 (Int.dvd_of_emod_eq_zero k1);have e2 : p ∣ d.natAbs := Int.ofNat_dvd_left.1 (Int.dvd_of_emod_eq_zero k2);have := Nat.dvd_gcd e1 e2;rw [hg] at this;have := Nat.le_of_dvd (by decide) this;omega
 obtain ⟨f1, f2⟩ := hred.fin (by omega) (by omega) (by omega) (by omega) (hnot 2 (by decide)) (hnot 5 (by decide));exact ⟨f1, f2, rfl⟩
theorem dec_only {s : ByteArray} {n d x : Int} (hB : decB s = true) (hN : decN s = n) (hD : decD s = d) (hX : decX s = x) : fdB n d x = true := by
 obtain ⟨eN, eD, eX⟩ := dec_yes hB;have hf : frmB (brS s).data.toList = true := hB;obtain ⟨b0, b1, b2, b3⟩ := dig_bd hf;have hfull := hf;unfold frmB at hf;simp only [Bool.and_eq_true] at hf;obtain ⟨hl, ha, hb⟩ := hf;obtain ⟨l1, l2, l3⟩ := len_facts hl;have va := val_bd _ ha;have vb := val_bd _ hb;have hd10 : digD (brS s).data.toList ∣ 10000 := dvd_ten _ l3
 have hlt : digN (brS s).data.toList < 1000000000 * digD (brS s).data.toList := by
  have p9 : ((10 ^ (ahd (brS s).data.toList).length : Nat) : Int) <= 1000000000 := by
   have := Nat.pow_le_pow_right (n := 10) (by decide) l2;omega
  unfold digN digD;generalize hT : ((10 ^ (bhd (brS s).data.toList).length : Nat) : Int) = t at *;have m1 : val (ahd (brS s).data.toList) * t <= 999999999 * t := Int.mul_le_mul_of_nonneg_right (by omega) (by omega);omega
 generalize digN (brS s).data.toList = a at *;generalize digD (brS s).data.toList = b at *
 have e : mkN a b = nN a b /\ mkD a b = nD a b := by
  unfold mkN mkD mkS;rw [if_neg (by omega), if_neg (by omega), if_neg (by omega)];have : (b.natAbs : Int) = b := by omega
  rw [this]; exact ⟨rfl, rfl⟩
 rw [eN, e.1] at hN;rw [eD, e.2] at hD;rw [eX] at hX
 have hok : nOk a b = true := by
  have p1 := rD_pos a b (by omega);have m1 := rD_mul a b;have m2 := rN_mul a b;have gp := gOf_pos a b (by omega)
  have c1 : rD a b <= b := by
   have : 1 * rD a b <= (gOf a b : Int) * rD a b := Int.mul_le_mul_of_nonneg_right (by omega) (by omega);omega
  have c2 : (rN a b).natAbs <= a.natAbs := by
   have e : a.natAbs = gOf a b * (rN a b).natAbs := by
    have := congrArg Int.natAbs m2; rw [Int.natAbs_mul, Int.natAbs_natCast] at this; exact this
   rw [e]; exact Nat.le_mul_of_pos_left _ gp
  unfold nOk; simp; omega
 rcases n_cases a b (by omega) with ⟨_, _, _, hn⟩ | ⟨_, _, hv, he⟩
 ·rw [hok] at hn; cases hn
 ·rw [hN, hD] at hv he;obtain ⟨⟨d1, d2, n1, n2⟩, hg⟩ := (validB_iff n d).1 hv
  have hn0 : 0 <= n := by
   rcases Int.lt_or_le n 0 with hx | hx
   ·have h1 := Int.mul_pos (show 0 < -n by omega) (show 0 < b by omega);have h2 := Int.mul_nonneg (show 0 <= a by omega) (show 0 <= d by omega);rw [Int.neg_mul] at h1; omega
   ·exact hx
  have hdb : d ∣ b := by
   have h1 : d.natAbs ∣ n.natAbs * b.natAbs := by
    rw [<- Int.natAbs_mul, he, Int.natAbs_mul]; exact Nat.dvd_mul_left _ _
   have h2 := Nat.Coprime.dvd_of_dvd_mul_left (show Nat.Coprime d.natAbs n.natAbs by rw [Nat.coprime_comm]; exact hg) h1;exact Int.natAbs_dvd_natAbs.1 h2
  have hd1 : 10000 % d = 0 := Int.emod_eq_zero_of_dvd (Int.dvd_trans hdb hd10)
  have hq : n / d <= 999999999 := by
   have : n * b < 1000000000 * b * d := by rw [he]; exact Int.mul_lt_mul_of_pos_right hlt (by omega)
   have h3 : n < 1000000000 * d := by
    rcases Int.lt_or_le n (1000000000 * d) with hx | hx
    ·exact hx
    ·have := Int.mul_le_mul_of_nonneg_right hx (show 0 <= b by omega);have e5 : 1000000000 * d * b = 1000000000 * b * d := by grind
     omega
   have := Int.ediv_lt_of_lt_mul (by omega) h3;omega
  have hsb := suf_bd s;exact fdB_iff.2 ⟨fdC_iff.2 ⟨hv, hn0, hd1⟩, by omega, by omega, hq⟩
theorem fd_size (n d x : Int) : (fdT n d x).size <= 47 := by
 unfold fdT;split
 ·rename_i h;have hC := (fdB_iff.1 h).1;rw [<- size_list, mk_list]; unfold fdL tailF sufL;have h1 := numL_len (n / d);have h2 := dg_len 4 (restN n d);rw [List.length_append, List.length_append]
  split <;> split <;> (try split) <;> simp <;> omega
 ·decide
/-! The program's loop: k digits are behind, the rest is r. -/
def Pi (n d : Int) (k : Nat) (r : Int) (t : ByteArray) : Prop :=
 fdC n d = true -> ∃ M : Nat, (M : Int) * d = r * ((10 ^ (4 - k) : Nat) : Int) /\ M < 10 ^ (4 - k) /\ t.data.toList ++ (if k = 0 then tailF M else dg (4 - k) M) = bareL n d
theorem pi_start (n d : Int) : Pi n d 0 (n % d) (numS (n / d)) := fun h => by
 obtain ⟨d1, d2, n0, n1, hg, hdv, hr, hm, -⟩ := rest_facts h;refine ⟨restN n d, by rw [hr]; rfl, hm, ?_⟩;rw [if_pos rfl]; unfold numS; rw [mk_list]; rfl
theorem numS_dig {c : Int} (h0 : 0 <= c) (h1 : c < 10) : numS c = ⟨#[UInt8.ofNat (48 + c.toNat)]⟩ := by
 unfold numS;rw [numL_pos h0, dl_step 39 _ 1 (.inr (by decide)), show c.toNat / 10 = 0 by omega, show 1 - 1 = 0 from rfl, dl_stop, show c.toNat % 10 = c.toNat by omega]; rfl
theorem dig_bounds {r d : Int} (r0 : 0 < r) (rd : r < d) : 0 <= r * 10 / d /\ r * 10 / d < 10 /\ 0 <= r * 10 % d /\ r * 10 % d < d := by
 refine ⟨Int.ediv_nonneg (by omega) (by omega), Int.ediv_lt_of_lt_mul (by omega) (by omega), Int.emod_nonneg _ (by omega), Int.emod_lt_of_pos _ (by omega)⟩
theorem pi_step {n d : Int} {k : Nat} {r : Int} {t u : ByteArray} (h : Pi n d k r t) (hk : k < 4) (r0 : 0 < r) (rd : r < d) (hu : u.data.toList = if k = 0 then t.data.toList ++ [46] else t.data.toList) :
  Pi n d (k + 1) (r * 10 % d) (u ++ numS (r * 10 / d)) := fun hC => by
 obtain ⟨M, e1, e2, e3⟩ := h hC;obtain ⟨b0, b1, b2, b3⟩ := dig_bounds r0 rd;obtain ⟨f, hf⟩ : ∃ f, 4 - k = f + 1 := ⟨3 - k, by omega⟩;have hf2 : 4 - (k + 1) = f := by omega
 rw [hf] at e1 e2 e3;rw [hf2];have p := pow_p f
 have hM0 : 0 < M := by
  rcases Nat.eq_zero_or_pos M with h0 | h0
  ·rw [h0] at e1;have := Int.mul_pos r0 (show 0 < ((10 ^ (f + 1) : Nat) : Int) by have := pow_p (f + 1); omega);rw [show ((0 : Nat) : Int) = 0 from rfl, Int.zero_mul] at e1; omega
  ·exact h0
 have e1' : (M : Int) * d = r * 10 * ((10 ^ f : Nat) : Int) := by rw [e1, Nat.pow_succ]; push_cast; grind
 have hed := Int.mul_ediv_add_emod (r * 10) d;have hdm := Nat.div_add_mod M (10 ^ f);have hlt := Nat.mod_lt M p
 have hc : r * 10 / d = ((M / 10 ^ f : Nat) : Int) := by
  have hP : 0 < ((10 ^ f : Nat) : Int) := by omega
  have e5 : ((10 ^ f : Nat) : Int) * ((M / 10 ^ f : Nat) : Int) + ((M % 10 ^ f : Nat) : Int) = M := by rw [<- Int.natCast_mul, <- Int.natCast_add, hdm]
  have hlt' : ((M % 10 ^ f : Nat) : Int) < ((10 ^ f : Nat) : Int) := by omega
  have hge' : 0 <= ((M % 10 ^ f : Nat) : Int) := by omega
  generalize ((10 ^ f : Nat) : Int) = P at *;generalize ((M / 10 ^ f : Nat) : Int) = q at *;generalize ((M % 10 ^ f : Nat) : Int) = s at *
  -- (P q + s) d = 10 r P, 0 <= s < P  ⟹  10 r / d = q
  have k1 : q * d <= r * 10 := by
   rcases Int.lt_or_le (r * 10) (q * d) with hx | hx
   ·have a1 : (r * 10 + 1) * P <= q * d * P := Int.mul_le_mul_of_nonneg_right (by omega) (by omega);have a2 : 0 <= s * d := Int.mul_nonneg hge' (by omega);have a3 : (P * q + s) * d = q * d * P + s * d := by grind
    rw [e5, e1'] at a3;have a4 : (r * 10 + 1) * P = r * 10 * P + P := by grind
    omega
   ·exact hx
  have k2 : r * 10 < (q + 1) * d := by
   rcases Int.lt_or_le (r * 10) ((q + 1) * d) with hx | hx
   ·exact hx
   ·have a1 : (q + 1) * d * P <= r * 10 * P := Int.mul_le_mul_of_nonneg_right hx (by omega);have a2 : s * d < P * d := Int.mul_lt_mul_of_pos_right hlt' (by omega);have a3 : (P * q + s) * d = q * d * P + s * d := by grind
    rw [e5, e1'] at a3;have a4 : (q + 1) * d * P = q * d * P + P * d := by grind
    omega
  apply Int.le_antisymm
  ·have := Int.ediv_lt_of_lt_mul (show 0 < d by omega) k2; omega
  ·exact Int.le_ediv_of_mul_le (by omega) k1
 refine ⟨M % 10 ^ f, ?_, hlt, ?_⟩
 ·have e5 : ((M % 10 ^ f : Nat) : Int) = M - ((10 ^ f : Nat) : Int) * ((M / 10 ^ f : Nat) : Int) := by
   have : ((10 ^ f : Nat) : Int) * ((M / 10 ^ f : Nat) : Int) + ((M % 10 ^ f : Nat) : Int) = M := by rw [<- Int.natCast_mul, <- Int.natCast_add, hdm]
   omega
  rw [e5, <- hc];generalize ((10 ^ f : Nat) : Int) = P at *;generalize r * 10 / d = q at *;have : r * 10 % d = r * 10 - d * q := by omega
  rw [this, Int.sub_mul, e1', Int.sub_mul]; grind
 ·rw [if_neg (by omega), <- e3]
  have hw : (u ++ numS (r * 10 / d)).data.toList = u.data.toList ++ [UInt8.ofNat (48 + M / 10 ^ f)] := by
   rw [numS_dig b0 b1, hc, Int.toNat_natCast]; simp
  rw [hw, hu];by_cases hk0 : k = 0
  ·rw [if_pos hk0, if_pos hk0]; unfold tailF;rw [if_neg (by omega), show (4 : Nat) = f + 1 by omega, dg_s f M hM0]; simp
  ·rw [if_neg hk0, if_neg hk0, dg_s f M hM0]; simp
theorem pi_end {n d : Int} {k : Nat} {t : ByteArray} (h : Pi n d k 0 t) (hd : 0 < d) : fdC n d = true -> t.data.toList = bareL n d := fun hC => by
 obtain ⟨M, e1, e2, e3⟩ := h hC;rw [Int.zero_mul] at e1
 have : M = 0 := by
  rcases Int.mul_eq_zero.1 e1 with h | h
  ·omega
  ·omega
 rw [<- e3, this, dg_0]; simp [tailF]
theorem pi_no {n d : Int} {r : Int} {t : ByteArray} (h : Pi n d 4 r t) (r0 : 0 < r) : fdC n d = false := by
 cases hC : fdC n d
 ·rfl
 ·obtain ⟨M, e1, e2, e3⟩ := h hC;simp at e1 e2;rw [e2] at e1; simp at e1; omega
theorem fdB_no {n d x : Int} (h : fdC n d = false) : fdB n d x = false := by unfold fdB; rw [h]; rfl
theorem fdC_no {n d : Int} (h : ¬ (1 <= d /\ d <= 10000 /\ 0 <= n /\ n <= 1000000000000000)) : fdC n d = false := by
 cases hC : fdC n d
 ·rfl
 ·obtain ⟨d1, d2, n0, n1, -⟩ := rest_facts hC;exact absurd ⟨d1, d2, n0, n1⟩ h
theorem fd_test {n d x : Int} {t u : ByteArray} (h : fdC n d = true -> t.data.toList = bareL n d) (hu : u.data.toList = t.data.toList ++ sufL x) :
  (decB u = true /\ decN u = n /\ decD u = d /\ decX u = x -> fdB n d x = true /\ fdT n d x = u) /\ (¬ (decB u = true /\ decN u = n /\ decD u = d /\ decX u = x) -> fdB n d x = false) := by
 have key : fdB n d x = true -> fdT n d x = u := fun hB => by
  rw [fd_yes hB];apply ba_ext;rw [mk_list, hu, h (fdB_iff.1 hB).1]; unfold fdL bareL; simp
 constructor
 ·rintro ⟨h1, h2, h3, h4⟩;have := dec_only h1 h2 h3 h4;exact ⟨this, key this⟩
 ·intro hn
  cases hB : fdB n d x
  ·rfl
  ·exfalso
   have e := fd_back hB;rw [key hB] at e;exact hn e
/-! The reference's loop: the rest is m < 10 ^ f. -/
def Rj (n d : Int) (f : Nat) (m : Nat) (t : ByteArray) : Prop := t.data.toList ++ dg f m = bareL n d
theorem rj_start0 {n d : Int} (h : restN n d = 0) : Rj n d 4 (restN n d) (numS (n / d)) := by
 unfold Rj bareL tailF numS; rw [mk_list, h, if_pos rfl, dg_0]
theorem rj_start1 {n d : Int} (h : 0 < restN n d) : Rj n d 4 (restN n d) (numS (n / d) ++ ⟨#[46]⟩) := by
 unfold Rj bareL tailF numS; rw [if_neg (by omega)]; simp
theorem rj_step {n d : Int} {f m : Nat} {t u : ByteArray} (h : Rj n d (f + 1) m t) (hm : 0 < m) (hu : u.data.toList = t.data.toList ++ [UInt8.ofNat (48 + m / 10 ^ f)]) : Rj n d f (m % 10 ^ f) u := by
 unfold Rj at *; rw [<- h, dg_s f m hm, hu]; simp
theorem rj_end {n d x : Int} {f : Nat} {t u : ByteArray} (h : Rj n d f 0 t) (hB : fdB n d x = true) (hu : u.data.toList = t.data.toList ++ sufL x) : fdT n d x = u := by
 unfold Rj at h;rw [dg_0, List.append_nil] at h;rw [fd_yes hB]; apply ba_ext; rw [mk_list, hu, h]; unfold fdL bareL; simp
end Go.Proofs.YthmlhheceihcbaaGreatDoor.Txt
namespace Go.Proofs.YthmlhheceihcbaaGreatDoor
set_option maxHeartbeats 16000000
open Go.RowKit Cal Str Tok Frac Txt Tryz
attribute [local go_sem] calmUpon
set_option linter.unusedVariables false
set_option linter.unusedSimpArgs false
def FdRes (n d x : Int) (w : World) (e : Ending) (w' : World) : Prop := e = .returned (.tuple #[.string (fdT n d x), .bool (fdB n d x)]) /\ Rel w w'
theorem fd_ret_no {n d x : Int} {w w' : World} (h : fdB n d x = false) (r : Rel w w') : FdRes n d x w (.returned (.tuple #[.string ⟨#[]⟩, .bool false])) w' := by
 unfold FdRes; rw [fd_no h, h]; exact ⟨rfl, r⟩
theorem fd_ret_yes {n d x : Int} {u : ByteArray} {w w' : World} (h : fdB n d x = true) (hu : fdT n d x = u) (r : Rel w w') : FdRes n d x w (.returned (.tuple #[.string u, .bool true])) w' := by
 unfold FdRes; rw [hu, h]; exact ⟨rfl, r⟩
theorem FormatDecimal_any (n d x : Int) (w : World) (ht : TabW w) (n0 : -9223372036854775808 <= n) (n1 : n <= 9223372036854775807) (d0 : -9223372036854775808 <= d) (d1 : d <= 9223372036854775807) (x0 : -9223372036854775808 <= x) (x1 : x <= 9223372036854775807) :
  Calls prog 47 #[.agg #[.int .i64 n, .int .i64 d], .int .i64 x] w (FdRes n d x w) := by
 by_cases hg : 1 <= d /\ d <= 10000 /\ 0 <= n /\ n <= 1000000000000000
 ·obtain ⟨g1, g2, g3, g4⟩ := hg;have b1 : decide (d < 1) = false := dF (by omega);have b2 : decide (10000 < d) = false := dF (by omega);have b3 : decide (n < 0) = false := dF (by omega);have b4 : decide (1000000000000000 < n) = false := dF (by omega);have dz : (d == 0) = false := by rw [zn]; omega
  have dm : (d == -1) = false := by rw [zn]; omega
  have tq : n.tdiv d = n / d := Int.tdiv_eq_ediv_of_nonneg g3;have tr : n.tmod d = n % d := Int.tmod_eq_emod_of_nonneg g3;have P0 := Hj (pi_start n d);have q0 : 0 <= n / d := Int.ediv_nonneg g3 (by omega)
  have q1 : n / d <= 1000000000000000 := by
   have := Int.ediv_le_self d g3; omega
  have r0 : 0 <= n % d := Int.emod_nonneg _ (by omega);have r1 : n % d < d := Int.emod_lt_of_pos _ (by omega);have ww : IntKind.i64.wrap (n / d) = n / d := IntWalk.i64_in _ ⟨by omega, by omega⟩;have wr : IntKind.i64.wrap (n % d) = n % d := IntWalk.i64_in _ ⟨by omega, by omega⟩;obtain ⟨q, hq⟩ : ∃ q, n / d = q := ⟨_, rfl⟩;obtain ⟨r, hr⟩ : ∃ r, n % d = r := ⟨_, rfl⟩;rw [hq] at tq P0 q0 q1 ww;rw [hr] at tr P0 r0 r1 wr;have zq := numS_size q;have HT := Hj ht;clear hq hr ht;go_enter func47, ntmps47;go_wp2_with fail;refine (itoa_any _ _ (HT.out.rel ((Rel.refl _).alloc _)) (by omega) (by omega)).mono ?_;rintro e w1 ⟨rfl, h1⟩;have kq0 := keep2 h1 (b := w.heap.size) (by first | (simp; done) | (simp; omega) | omega);have kz1 := h1.size;(try simp only [zsa, zsc, zsd] at kz1);have H1 := Hj h1;clear h1;go_wp2_with fail
  go_loopw [6, 7, 8] (fun s r i wx => ∃ (k : Nat) (a : Int) (t : ByteArray), k <= 4 /\ s = .string t /\ r = .int .i64 a /\ i = .int .i64 k /\ 0 <= a /\ a < d /\ t.size <= 42 + 42 * k /\ Hid (Pi n d k a t) /\ Hid (Rel (w.alloc (.cells #[.int .i64 n, .int .i64 d] 54)) wx)) (fun _ _ i _ => 4 - (intOf i).toNat)
  case atStart => exact ⟨0, r, numS q, by omega, rfl, rfl, rfl, r0, r1, by omega, P0, H1⟩
  case round =>
   obtain ⟨k, a, t, hk, rfl, rfl, rfl, a0, a1, htz, hP, hR⟩ := hrel;have hR2 := hR.out;have kq1 := keep2 hR2 (b := w.heap.size) (by first | (simp; done) | (simp; omega) | omega);have kz2 := hR2.size;(try simp only [zsa, zsc, zsd] at kz2);have H2 := Hj hR2;clear hR2;by_cases hz : a = 0
   ·subst hz;have hE := Hj (pi_end hP.out (by omega));clear hP a1
    rcases (show x = 3 \/ x = 4 \/ (¬ x = 3 /\ ¬ x = 4) by omega) with hx | hx | ⟨hx3, hx4⟩
    ·subst hx;obtain ⟨u, hu⟩ : ∃ u : ByteArray, (t ++ ⟨#[100]⟩) = u := ⟨_, rfl⟩;have hT := Hj (fd_test (x := 3) (u := u) hE.out (by rw [<- hu]; simp [sufL]));obtain ⟨N, hN⟩ : ∃ N, decN u = N := ⟨_, rfl⟩;obtain ⟨D, hD⟩ : ∃ D, decD u = D := ⟨_, rfl⟩;obtain ⟨X, hX⟩ : ∃ X, decX u = X := ⟨_, rfl⟩;obtain ⟨B, hBB⟩ : ∃ B, decB u = B := ⟨_, rfl⟩;rw [hN, hD, hX, hBB] at hT
     have zu : u.size <= maxLen := by
      have e1 : (⟨#[100]⟩ : ByteArray).size = 1 := rfl;have e2 : (⟨#[109]⟩ : ByteArray).size = 1 := rfl;rw [<- hu]; unfold maxLen; (try rw [ByteArray.size_append]); omega
     have C : Hid (∀ w, Calls prog 95 #[.string u] w fun e w' => e = .returned (.tuple #[.agg #[.int .i64 N, .int .i64 D], .int .i64 X, .bool B]) /\ Rel w w') := fun w => by
      have := Decimal_any u w zu;unfold DecRes at this; rwa [hN, hD, hX, hBB] at this
     clear hN hD hX hBB hE zu;go_wp2_with fail;refine (C.out _).mono ?_;rintro e w3 ⟨rfl, h3⟩;have kq2 := keep2 h3 (b := w.heap.size) (by first | (simp; done) | (simp; omega) | omega);have kz3 := h3.size;(try simp only [zsa, zsc, zsd] at kz3);have H3 := Hj h3;clear h3;cases B
     ·have hB := Hj (hT.out.2 (fun h => by cases h.1));clear hT;go_wp2;refine bodyPost_ret (v := .tuple #[.string ⟨#[]⟩, .bool false]) ?_ rfl (fd_ret_no hB.out ?_)
      ·simp [results, results47, go_sem]
      ·exact rx3210
     ·by_cases hv : N = n /\ D = d
      ·obtain ⟨rfl, rfl⟩ := hv;by_cases hxx : X = 3
       ·have hB := Hj (hT.out.1 ⟨rfl, rfl, rfl, hxx⟩);subst hxx;clear hT;go_wp2;refine bodyPost_ret (v := .tuple #[.string u, .bool true]) ?_ rfl (fd_ret_yes hB.out.1 hB.out.2 ?_)
        ·simp [results, results47, go_sem]
        ·exact rx3210
       ·have hB := Hj (hT.out.2 (fun h => hxx h.2.2.2));have hxb : (X != 3) = true := by simpa using hxx
        clear hT;go_wp2;refine bodyPost_ret (v := .tuple #[.string ⟨#[]⟩, .bool false]) ?_ rfl (fd_ret_no hB.out ?_)
        ·simp [results, results47, go_sem]
        ·exact rx3210
      ·have hB := Hj (hT.out.2 (fun h => hv ⟨h.2.1, h.2.2.1⟩));clear hT;by_cases hn : N = n
       ·have hd2 : ¬ D = d := fun h => hv ⟨hn, h⟩
        have hnb : (N == n) = true := by simpa using hn
        have hdb : (D == d) = false := by simpa using hd2
        clear hv;go_wp2;refine bodyPost_ret (v := .tuple #[.string ⟨#[]⟩, .bool false]) ?_ rfl (fd_ret_no hB.out ?_)
        ·simp [results, results47, go_sem]
        ·exact rx3210
       ·have hnb : (N == n) = false := by simpa using hn
        clear hv;go_wp2;refine bodyPost_ret (v := .tuple #[.string ⟨#[]⟩, .bool false]) ?_ rfl (fd_ret_no hB.out ?_)
        ·simp [results, results47, go_sem]
        ·exact rx3210
    ·subst hx;obtain ⟨u, hu⟩ : ∃ u : ByteArray, (t ++ ⟨#[109]⟩) = u := ⟨_, rfl⟩;have hT := Hj (fd_test (x := 4) (u := u) hE.out (by rw [<- hu]; simp [sufL]));obtain ⟨N, hN⟩ : ∃ N, decN u = N := ⟨_, rfl⟩;obtain ⟨D, hD⟩ : ∃ D, decD u = D := ⟨_, rfl⟩;obtain ⟨X, hX⟩ : ∃ X, decX u = X := ⟨_, rfl⟩;obtain ⟨B, hBB⟩ : ∃ B, decB u = B := ⟨_, rfl⟩;rw [hN, hD, hX, hBB] at hT
     have zu : u.size <= maxLen := by
      have e1 : (⟨#[100]⟩ : ByteArray).size = 1 := rfl;have e2 : (⟨#[109]⟩ : ByteArray).size = 1 := rfl;rw [<- hu]; unfold maxLen; (try rw [ByteArray.size_append]); omega
     have C : Hid (∀ w, Calls prog 95 #[.string u] w fun e w' => e = .returned (.tuple #[.agg #[.int .i64 N, .int .i64 D], .int .i64 X, .bool B]) /\ Rel w w') := fun w => by
      have := Decimal_any u w zu;unfold DecRes at this; rwa [hN, hD, hX, hBB] at this
     clear hN hD hX hBB hE zu;go_wp2_with fail;refine (C.out _).mono ?_;rintro e w3 ⟨rfl, h3⟩;have kq3 := keep2 h3 (b := w.heap.size) (by first | (simp; done) | (simp; omega) | omega);have kz3 := h3.size;(try simp only [zsa, zsc, zsd] at kz3);have H3 := Hj h3;clear h3;cases B
     ·have hB := Hj (hT.out.2 (fun h => by cases h.1));clear hT;go_wp2;refine bodyPost_ret (v := .tuple #[.string ⟨#[]⟩, .bool false]) ?_ rfl (fd_ret_no hB.out ?_)
      ·simp [results, results47, go_sem]
      ·exact rx3210
     ·by_cases hv : N = n /\ D = d
      ·obtain ⟨rfl, rfl⟩ := hv;by_cases hxx : X = 4
       ·have hB := Hj (hT.out.1 ⟨rfl, rfl, rfl, hxx⟩);subst hxx;clear hT;go_wp2;refine bodyPost_ret (v := .tuple #[.string u, .bool true]) ?_ rfl (fd_ret_yes hB.out.1 hB.out.2 ?_)
        ·simp [results, results47, go_sem]
        ·exact rx3210
       ·have hB := Hj (hT.out.2 (fun h => hxx h.2.2.2));have hxb : (X != 4) = true := by simpa using hxx
        clear hT;go_wp2;refine bodyPost_ret (v := .tuple #[.string ⟨#[]⟩, .bool false]) ?_ rfl (fd_ret_no hB.out ?_)
        ·simp [results, results47, go_sem]
        ·exact rx3210
      ·have hB := Hj (hT.out.2 (fun h => hv ⟨h.2.1, h.2.2.1⟩));clear hT;by_cases hn : N = n
       ·have hd2 : ¬ D = d := fun h => hv ⟨hn, h⟩
        have hnb : (N == n) = true := by simpa using hn
        have hdb : (D == d) = false := by simpa using hd2
        clear hv;go_wp2;refine bodyPost_ret (v := .tuple #[.string ⟨#[]⟩, .bool false]) ?_ rfl (fd_ret_no hB.out ?_)
        ·simp [results, results47, go_sem]
        ·exact rx3210
       ·have hnb : (N == n) = false := by simpa using hn
        clear hv;go_wp2;refine bodyPost_ret (v := .tuple #[.string ⟨#[]⟩, .bool false]) ?_ rfl (fd_ret_no hB.out ?_)
        ·simp [results, results47, go_sem]
        ·exact rx3210
    ·have hx3' : (x == 3) = false := by rw [zn]; exact hx3
     have hx4' : (x == 4) = false := by rw [zn]; exact hx4
     obtain ⟨u, hu⟩ : ∃ u : ByteArray, t = u := ⟨_, rfl⟩;have hT := Hj (fd_test (x := x) (u := u) hE.out (by rw [<- hu]; unfold sufL; rw [if_neg hx3, if_neg hx4]; simp));obtain ⟨N, hN⟩ : ∃ N, decN u = N := ⟨_, rfl⟩;obtain ⟨D, hD⟩ : ∃ D, decD u = D := ⟨_, rfl⟩;obtain ⟨X, hX⟩ : ∃ X, decX u = X := ⟨_, rfl⟩;obtain ⟨B, hBB⟩ : ∃ B, decB u = B := ⟨_, rfl⟩;rw [hN, hD, hX, hBB] at hT
     have zu : u.size <= maxLen := by
      have e1 : (⟨#[100]⟩ : ByteArray).size = 1 := rfl;have e2 : (⟨#[109]⟩ : ByteArray).size = 1 := rfl;rw [<- hu]; unfold maxLen; (try rw [ByteArray.size_append]); omega
     have C : Hid (∀ w, Calls prog 95 #[.string u] w fun e w' => e = .returned (.tuple #[.agg #[.int .i64 N, .int .i64 D], .int .i64 X, .bool B]) /\ Rel w w') := fun w => by
      have := Decimal_any u w zu;unfold DecRes at this; rwa [hN, hD, hX, hBB] at this
     clear hN hD hX hBB hE zu;go_wp2_with fail;refine (C.out _).mono ?_;rintro e w3 ⟨rfl, h3⟩;have kq4 := keep2 h3 (b := w.heap.size) (by first | (simp; done) | (simp; omega) | omega);have kz3 := h3.size;(try simp only [zsa, zsc, zsd] at kz3);have H3 := Hj h3;clear h3;cases B
     ·have hB := Hj (hT.out.2 (fun h => by cases h.1));clear hT;go_wp2;refine bodyPost_ret (v := .tuple #[.string ⟨#[]⟩, .bool false]) ?_ rfl (fd_ret_no hB.out ?_)
      ·simp [results, results47, go_sem]
      ·exact rx3210
     ·by_cases hv : N = n /\ D = d
      ·obtain ⟨rfl, rfl⟩ := hv;by_cases hxx : X = x
       ·have hB := Hj (hT.out.1 ⟨rfl, rfl, rfl, hxx⟩);subst hxx;clear hT;go_wp2;refine bodyPost_ret (v := .tuple #[.string u, .bool true]) ?_ rfl (fd_ret_yes hB.out.1 hB.out.2 ?_)
        ·simp [results, results47, go_sem]
        ·exact rx3210
       ·have hB := Hj (hT.out.2 (fun h => hxx h.2.2.2));have hxb : (X != x) = true := by simpa using hxx
        clear hT;go_wp2;refine bodyPost_ret (v := .tuple #[.string ⟨#[]⟩, .bool false]) ?_ rfl (fd_ret_no hB.out ?_)
        ·simp [results, results47, go_sem]
        ·exact rx3210
      ·have hB := Hj (hT.out.2 (fun h => hv ⟨h.2.1, h.2.2.1⟩));clear hT;by_cases hn : N = n
       ·have hd2 : ¬ D = d := fun h => hv ⟨hn, h⟩
        have hnb : (N == n) = true := by simpa using hn
        have hdb : (D == d) = false := by simpa using hd2
        clear hv;go_wp2;refine bodyPost_ret (v := .tuple #[.string ⟨#[]⟩, .bool false]) ?_ rfl (fd_ret_no hB.out ?_)
        ·simp [results, results47, go_sem]
        ·exact rx3210
       ·have hnb : (N == n) = false := by simpa using hn
        clear hv;go_wp2;refine bodyPost_ret (v := .tuple #[.string ⟨#[]⟩, .bool false]) ?_ rfl (fd_ret_no hB.out ?_)
        ·simp [results, results47, go_sem]
        ·exact rx3210
   ·have ha : 0 < a := by omega
    have ba : decide (0 < a) = true := decide_eq_true ha;obtain ⟨c0, c1, m0, m1⟩ := dig_bounds ha a1;have tq2 : (a * 10).tdiv d = a * 10 / d := Int.tdiv_eq_ediv_of_nonneg (by omega);have tr2 : (a * 10).tmod d = a * 10 % d := Int.tmod_eq_emod_of_nonneg (by omega);have w10 : IntKind.i64.wrap (a * 10) = a * 10 := IntWalk.i64_in _ ⟨by omega, by omega⟩;have ww2 : IntKind.i64.wrap (a * 10 / d) = a * 10 / d := IntWalk.i64_in _ ⟨by omega, by omega⟩;have wr2 : IntKind.i64.wrap (a * 10 % d) = a * 10 % d := IntWalk.i64_in _ ⟨by omega, by omega⟩
    have HW : Hid (Rel w wr) := by
     show Rel _ _
     exact rx210
    by_cases h4 : k = 4
    ·subst h4;have hB := Hj (fdB_no (x := x) (pi_no hP.out ha));clear hP;go_wp2;refine bodyPost_ret (v := .tuple #[.string ⟨#[]⟩, .bool false]) ?_ rfl (fd_ret_no hB.out ?_)
     ·simp [results, results47, go_sem]
     ·exact HW.out
    ·have k4 : ((k : Int) == 4) = false := by rw [zn]; omega
     have hk3 : k < 4 := by omega
     by_cases hk0 : k = 0
     ·subst hk0;have P2 := Hj (fun (u : ByteArray) hu => pi_step (u := u) hP.out (by decide) ha a1 hu);clear hP;obtain ⟨b, hb⟩ : ∃ b, a * 10 % d = b := ⟨_, rfl⟩;obtain ⟨c, hc⟩ : ∃ c, a * 10 / d = c := ⟨_, rfl⟩;rw [hb] at m0 m1 tr2 wr2 P2;rw [hc] at c0 c1 tq2 ww2 P2;clear hb hc;have zc := numS_size c;have z46 : (t ++ ⟨#[46]⟩ : ByteArray).size = t.size + 1 := ByteArray.size_append;have zs : ((t ++ ⟨#[46]⟩) ++ numS c).size = (t ++ ⟨#[46]⟩ : ByteArray).size + (numS c).size := ByteArray.size_append;have P3 := Hj (P2.out (t ++ ⟨#[46]⟩) (by simp));clear P2;go_wp2_with fail;refine (itoa_any _ _ (HT.out.rel HW.out) (by omega) (by omega)).mono ?_;rintro e w3 ⟨rfl, h3⟩;have kq5 := keep2 h3 (b := w.heap.size) (by first | (simp; done) | (simp; omega) | omega);have kz3 := h3.size;(try simp only [zsa, zsc, zsd] at kz3);have H3 := Hj h3;clear h3;go_wp2
      go_roundw
      case rel => exact ⟨1, b, _, by omega, rfl, rfl, rfl, m0, m1, by rw [zs, z46]; omega, P3, H2.out.trans H3.out⟩
      case measure => simp [intOf]
     ·have k0 : ((k : Int) == 0) = false := by rw [zn]; omega
      have P2 := Hj (pi_step (u := t) hP.out hk3 ha a1 (by rw [if_neg hk0]));clear hP;obtain ⟨b, hb⟩ : ∃ b, a * 10 % d = b := ⟨_, rfl⟩;obtain ⟨c, hc⟩ : ∃ c, a * 10 / d = c := ⟨_, rfl⟩;rw [hb] at m0 m1 tr2 wr2 P2;rw [hc] at c0 c1 tq2 ww2 P2;clear hb hc;have zc := numS_size c;have zs : (t ++ numS c).size = t.size + (numS c).size := ByteArray.size_append;go_wp2_with fail;refine (itoa_any _ _ (HT.out.rel HW.out) (by omega) (by omega)).mono ?_;rintro e w3 ⟨rfl, h3⟩;have kq6 := keep2 h3 (b := w.heap.size) (by first | (simp; done) | (simp; omega) | omega);have kz3 := h3.size;(try simp only [zsa, zsc, zsd] at kz3);have H3 := Hj h3;clear h3;go_wp2
      go_roundw
      case rel => exact ⟨k + 1, b, _, by omega, rfl, rfl, by go_num, m0, m1, by rw [zs]; omega, P2, H2.out.trans H3.out⟩
      case measure => simp [intOf]; omega
 ·have hB := Hj (fdB_no (x := x) (fdC_no hg))
  rcases (show d < 1 \/ (1 <= d /\ 10000 < d) \/ (1 <= d /\ d <= 10000 /\ n < 0) \/ (1 <= d /\ d <= 10000 /\ 0 <= n /\ 1000000000000000 < n) by omega) with h | ⟨h, h2⟩ | ⟨h, h2, h3⟩ | ⟨h, h2, h3, h4⟩
  ·have b1 : decide (d < 1) = true := decide_eq_true h;clear hg;go_enter func47, ntmps47;go_wp2;refine bodyPost_ret (v := .tuple #[.string ⟨#[]⟩, .bool false]) ?_ rfl (fd_ret_no hB.out ?_)
   ·simp [results, results47, go_sem]
   ·exact rx0
  ·have b1 : decide (d < 1) = false := dF (by omega);have b2 : decide (10000 < d) = true := decide_eq_true h2;clear hg;go_enter func47, ntmps47;go_wp2;refine bodyPost_ret (v := .tuple #[.string ⟨#[]⟩, .bool false]) ?_ rfl (fd_ret_no hB.out ?_)
   ·simp [results, results47, go_sem]
   ·exact rx0
  ·have b1 : decide (d < 1) = false := dF (by omega);have b2 : decide (10000 < d) = false := dF (by omega);have b3 : decide (n < 0) = true := decide_eq_true h3;clear hg;go_enter func47, ntmps47;go_wp2;refine bodyPost_ret (v := .tuple #[.string ⟨#[]⟩, .bool false]) ?_ rfl (fd_ret_no hB.out ?_)
   ·simp [results, results47, go_sem]
   ·exact rx0
  ·have b1 : decide (d < 1) = false := dF (by omega);have b2 : decide (10000 < d) = false := dF (by omega);have b3 : decide (n < 0) = false := dF (by omega);have b4 : decide (1000000000000000 < n) = true := decide_eq_true h4;clear hg;go_enter func47, ntmps47;go_wp2;refine bodyPost_ret (v := .tuple #[.string ⟨#[]⟩, .bool false]) ?_ rfl (fd_ret_no hB.out ?_)
   ·simp [results, results47, go_sem]
   ·exact rx0
theorem valid_num {q : Int} (h0 : 0 <= q) (h1 : q <= 1000000000000000) : validB q 1 = true := by
 unfold validB; simp; omega
theorem rFormatDecimal_any (n d x : Int) (w : World) (n0 : -9223372036854775808 <= n) (n1 : n <= 9223372036854775807) (d0 : -9223372036854775808 <= d) (d1 : d <= 9223372036854775807) (x0 : -9223372036854775808 <= x) (x1 : x <= 9223372036854775807) :
  Calls prog 17 #[.agg #[.int .i64 n, .int .i64 d], .int .i64 x] w (FdRes n d x w) := by
 have V := Hj fun w => rvalid_any n d w n0 n1 d0 d1
 unfold BRes at V
 cases hv : validB n d
 ·have hB := Hj (fdB_no (x := x) (show fdC n d = false by unfold fdC; rw [hv]; rfl));rw [hv] at V;clear hv;go_enter func17, ntmps17;go_wp2_with fail;refine (V.out _).mono ?_;rintro e w1 ⟨rfl, h1⟩;have kq0 := keep2 h1 (b := w.heap.size) (by first | (simp; done) | (simp; omega) | omega);have kz1 := h1.size;(try simp only [zsa, zsc, zsd] at kz1);have H1 := Hj h1;clear h1;go_wp2;refine bodyPost_ret (v := .tuple #[.string ⟨#[]⟩, .bool false]) ?_ rfl (fd_ret_no hB.out ?_)
  ·simp [results, results17, go_sem]
  ·exact rx10
 ·have hw := (validB_iff n d).1 hv;obtain ⟨⟨g1, g2, g3, g4⟩, hg⟩ := hw;rw [hv] at V
  have hCn : Hid (∀ (h : ¬ (0 <= n /\ 10000 % d = 0 /\ 2 <= x /\ x <= 4 /\ n / d <= 999999999)), fdB n d x = false) := fun h => by
   cases hB : fdB n d x
   ·rfl
   ·obtain ⟨hC, a, b, c⟩ := fdB_iff.1 hB;obtain ⟨_, e, f⟩ := fdC_iff.1 hC;exact absurd ⟨e, f, a, b, c⟩ h
  have dz : (d == 0) = false := by rw [zn]; omega
  have dne : ¬ d = 0 := by omega
  have dm : (d == -1) = false := by rw [zn]; omega
  by_cases hn : n < 0
  ·have hB := Hj (hCn.out (fun h => by omega));have bn : decide (n < 0) = true := decide_eq_true hn;clear hv hg hCn;go_enter func17, ntmps17;go_wp2_with fail;refine (V.out _).mono ?_;rintro e w1 ⟨rfl, h1⟩;have kq1 := keep2 h1 (b := w.heap.size) (by first | (simp; done) | (simp; omega) | omega);have kz1 := h1.size;(try simp only [zsa, zsc, zsd] at kz1);have H1 := Hj h1;clear h1;go_wp2;refine bodyPost_ret (v := .tuple #[.string ⟨#[]⟩, .bool false]) ?_ rfl (fd_ret_no hB.out ?_)
   ·simp [results, results17, go_sem]
   ·exact rx10
  ·have bn : decide (n < 0) = false := decide_eq_false hn;have tm : (10000 : Int).tmod d = 10000 % d := Int.tmod_eq_emod_of_nonneg (by omega);have m0 : 0 <= 10000 % d := Int.emod_nonneg _ (by omega);have m1 : 10000 % d < d := Int.emod_lt_of_pos _ (by omega);have wm : IntKind.i64.wrap (10000 % d) = 10000 % d := IntWalk.i64_in _ ⟨by omega, by omega⟩;have hsame : 10000 % d = 10000 % d := rfl;obtain ⟨M, hM⟩ : ∃ M, 10000 % d = M := ⟨_, rfl⟩;by_cases hz : M = 0
   ·have bz : (M != 0) = false := by rw [hz]; rfl
    by_cases h2 : x < 2
    ·have hB := Hj (hCn.out (fun h => by omega));have b2 : decide (x < 2) = true := decide_eq_true h2;rw [hM] at tm m0 m1 wm;clear hv hg hCn hM hz hsame;go_enter func17, ntmps17;go_wp2_with fail;refine (V.out _).mono ?_;rintro e w1 ⟨rfl, h1⟩;have kq2 := keep2 h1 (b := w.heap.size) (by first | (simp; done) | (simp; omega) | omega);have kz1 := h1.size;(try simp only [zsa, zsc, zsd] at kz1);have H1 := Hj h1;clear h1;go_wp2;refine bodyPost_ret (v := .tuple #[.string ⟨#[]⟩, .bool false]) ?_ rfl (fd_ret_no hB.out ?_)
     ·simp [results, results17, go_sem]
     ·exact rx10
    ·have b2 : decide (x < 2) = false := decide_eq_false h2;by_cases h4 : 4 < x
     ·have hB := Hj (hCn.out (fun h => by omega));have b4 : decide (4 < x) = true := decide_eq_true h4;rw [hM] at tm m0 m1 wm;clear hv hg hCn hM hz hsame;go_enter func17, ntmps17;go_wp2_with fail;refine (V.out _).mono ?_;rintro e w1 ⟨rfl, h1⟩;have kq3 := keep2 h1 (b := w.heap.size) (by first | (simp; done) | (simp; omega) | omega);have kz1 := h1.size;(try simp only [zsa, zsc, zsd] at kz1);have H1 := Hj h1;clear h1;go_wp2;refine bodyPost_ret (v := .tuple #[.string ⟨#[]⟩, .bool false]) ?_ rfl (fd_ret_no hB.out ?_)
      ·simp [results, results17, go_sem]
      ·exact rx10
     ·have b4 : decide (4 < x) = false := decide_eq_false h4;have hC : fdC n d = true := fdC_iff.2 ⟨hv, by omega, by omega⟩;have tq : n.tdiv d = n / d := Int.tdiv_eq_ediv_of_nonneg (by omega);have q0 : 0 <= n / d := Int.ediv_nonneg (by omega) (by omega)
      have q1 : n / d <= 1000000000000000 := by
       have := Int.ediv_le_self d (show 0 <= n by omega); omega
      have wq : IntKind.i64.wrap (n / d) = n / d := IntWalk.i64_in _ ⟨by omega, by omega⟩;by_cases hq9 : 999999999 < n / d
      ·have hB := Hj (hCn.out (fun h => by omega));obtain ⟨q, hq⟩ : ∃ q, n / d = q := ⟨_, rfl⟩;rw [hq] at tq q0 q1 wq hq9;have b9 : decide (999999999 < q) = true := decide_eq_true hq9;rw [hM] at tm m0 m1 wm;clear hv hg hCn hM hz hsame hC hq;go_enter func17, ntmps17;go_wp2_with fail;refine (V.out _).mono ?_;rintro e w1 ⟨rfl, h1⟩;have kq4 := keep2 h1 (b := w.heap.size) (by first | (simp; done) | (simp; omega) | omega);have kz1 := h1.size;(try simp only [zsa, zsc, zsd] at kz1);have H1 := Hj h1;clear h1;go_wp2;refine bodyPost_ret (v := .tuple #[.string ⟨#[]⟩, .bool false]) ?_ rfl (fd_ret_no hB.out ?_)
       ·simp [results, results17, go_sem]
       ·exact rx10
      ·obtain ⟨-, hd4, -, -, -, hdv, hr, hmlt, hmr⟩ := rest_facts hC;have hB := Hj (fdB_iff.2 ⟨hC, by omega, by omega, by omega⟩ : fdB n d x = true);have r0 : 0 <= n % d := Int.emod_nonneg _ (by omega);have r1 : n % d < d := Int.emod_lt_of_pos _ (by omega);have hed := Int.mul_ediv_add_emod n d;have td : (10000 : Int).tdiv d = 10000 / d := Int.tdiv_eq_ediv_of_nonneg (by omega);have D0 : 0 <= 10000 / d := Int.ediv_nonneg (by omega) (by omega);have D1 : 10000 / d <= 10000 := Int.ediv_le_self d (by omega);have wD : IntKind.i64.wrap (10000 / d) = 10000 / d := IntWalk.i64_in _ ⟨by omega, by omega⟩;have S0 := fun h => Hj (rj_start0 (n := n) (d := d) h)
       have S1 := fun h => Hj (rj_start1 (n := n) (d := d) h)
       have hE := Hj (fun (f : Nat) (t u : ByteArray) (h : Rj n d f 0 t) hu => rj_end (x := x) (u := u) h hB.out hu);have hz1 : Hid (fmtS (n / d) 1 = numS (n / d)) := fmt_1 (valid_num q0 q1) rfl;obtain ⟨q, hq⟩ : ∃ q, n / d = q := ⟨_, rfl⟩;obtain ⟨r, hrr⟩ : ∃ r, n % d = r := ⟨_, rfl⟩;obtain ⟨D, hD⟩ : ∃ D, 10000 / d = D := ⟨_, rfl⟩;obtain ⟨m, hm⟩ : ∃ m, restN n d = m := ⟨_, rfl⟩;rw [hq] at tq q0 q1 wq hq9 S0 S1 hz1 hed;rw [hrr] at r0 r1 hmr hed;rw [hD] at td D0 D1 wD hmr;rw [hm] at hmlt hmr S0 S1;rw [hM] at tm m0 m1 wm;have hqd : q * d = n - r := by rw [Int.mul_comm]; omega
       have wqd : IntKind.i64.wrap (q * d) = q * d := IntWalk.i64_in _ ⟨by omega, by omega⟩
       have wsub : IntKind.i64.wrap (n - q * d) = r := by
        rw [hqd, show n - (n - r) = r by omega]; exact IntWalk.i64_in _ ⟨by omega, by omega⟩
       have wmul : IntKind.i64.wrap (r * D) = (m : Int) := by rw [<- hmr]; exact IntWalk.i64_in _ ⟨by omega, by omega⟩
       have b9 : decide (999999999 < q) = false := decide_eq_false hq9;have FM := Hj fun w => rFormat_any q 1 w (by omega) (by omega) (by omega) (by omega)
       unfold StrRes at FM;rw [hz1.out] at FM;have zq := numS_size q;have hx3 : x = 2 \/ x = 3 \/ x = 4 := by omega
       have HX := Hj hx3;have HS0 := Hj S0;have HS1 := Hj S1;clear hv hg hCn hM hz hsame hC hq hrr hD hm hdv hr hmr hed hqd hz1 S0 S1 hx3;go_enter func17, ntmps17;go_wp2_with fail;refine (V.out _).mono ?_;rintro e w1 ⟨rfl, h1⟩;have kq5 := keep2 h1 (b := w.heap.size) (by first | (simp; done) | (simp; omega) | omega);have kz1 := h1.size;(try simp only [zsa, zsc, zsd] at kz1);have H1 := Hj h1;clear h1;go_wp2_with fail;refine (FM.out _).mono ?_;rintro e w2 ⟨rfl, h2⟩;have kq6 := keep2 h2 (b := w.heap.size) (by first | (simp; done) | (simp; omega) | omega);have kz2 := h2.size;(try simp only [zsa, zsc, zsd] at kz2);have H2 := Hj h2;clear h2;go_wp2_with fail;refine wp_region_calm (fun _ w' => w'.cell? { block := w.heap.size, off := 0 } = some (.int .i64 n) /\ w'.cell? { block := w.heap.size, off := 1 } = some (.int .i64 d)) (fun _ => false) [0, 1, 2, 3, 4, 5, 6, 7, 8, 9, 10, 11] 0 (by kernel_rfl) (by kernel_rfl) ?hst ?hS0 (fun w0 h0 => ?_)
       case hst => exact fun _ _ _ h r => ⟨r.cell h.1, r.cell h.2⟩
       case hS0 => exact ⟨by go_simp, by go_simp⟩
       iterate 12
        refine wcg ?_;apply ei
        ·intro M w hM hS;have hc := hS.1;have hc' := hS.2;unfold calmAt;go_simp;exact ⟨rfl, Rel.refl _⟩
       refine wpAnyR_end (by kernel_rfl) (fun w3 h3' => ?_);(try simp only [Act.put, zla, zlb, zlc]);have h3 := h0.trans h3';clear h0 h3';have kq7 := keep2 h3 (b := w.heap.size) (by first | (simp; done) | (simp; omega) | omega);have kz3 := h3.size;(try simp only [zsa, zsc, zsd] at kz3);have H3 := Hj h3;clear h3
       have R3 : Hid (Rel w w3) := by
        show Rel _ _
        exact rx3210
       obtain ⟨s, hs0, hs1⟩ : ∃ s : ByteArray, (m = 0 -> numS q = s) /\ (0 < m -> numS q ++ ⟨#[46]⟩ = s) := by
        by_cases h : m = 0
        ·exact ⟨_, fun _ => rfl, fun h' => by omega⟩
        ·exact ⟨_, fun h' => absurd h' h, fun _ => rfl⟩
       have hJ : Hid (Rj n d 4 m s) := by
        by_cases h : m = 0
        ·rw [<- hs0 h]; exact (HS0.out h).out
        ·rw [<- hs1 (by omega)]; exact (HS1.out (by omega)).out
       have hss : s.size <= 42 := by
        by_cases h : m = 0
        ·rw [<- hs0 h]; omega
        ·rw [<- hs1 (by omega), ByteArray.size_append];have : (⟨#[46]⟩ : ByteArray).size = 1 := rfl;omega
       clear HS0 HS1;go_upto_if 54 with (fail)
       go_cut [7] (fun s7 wx => s7 = .string s /\ w3 = wx)
       case first =>
        by_cases h : m = 0
        ·have e := Hj (hs0 h);clear hs0 hs1;subst h;go_wp2
         go_meet
         case rel => exact ⟨by rw [e.out], rfl⟩
        ·have bm : decide (0 < (m : Int)) = true := dT (by omega);have e := Hj (hs1 (by omega));have hmp : 0 < m := by omega
         clear h hs0 hs1;go_wp2
         go_meet
         case rel => exact ⟨by rw [e.out], rfl⟩
       case rest =>
        obtain ⟨rfl, rfl⟩ := hcut;clear hs0 hs1;go_wp2_with fail
        go_loopw [7, 8, 9] (fun sv rv kv wx => ∃ (f M' : Nat) (s' : ByteArray), f <= 4 /\ sv = .string s' /\ rv = .int .i64 M' /\ kv = .int .i64 ((10 ^ f / 10 : Nat) : Int) /\ M' < 10 ^ f /\ s'.size <= 46 - f /\ Hid (Rj n d f M' s') /\ Hid (Rel w wx)) (fun _ _ r _ => (intOf r).toNat)
        case atStart => exact ⟨4, m, s, by omega, rfl, rfl, rfl, hmlt, hss, hJ, R3⟩
        case round =>
         obtain ⟨f, M', s', hf, rfl, rfl, rfl, hmf, hsz, hJ, hR⟩ := hrel;by_cases hM0' : M' = 0
         ·subst hM0';have hE2 := Hj (fun u hu => hE.out f s' u hJ.out hu);clear hJ hmf
          rcases HX.out with rfl | rfl | rfl
          ·have T := Hj (hE2.out (s' ++ ⟨#[]⟩) (by simp [sufL]));clear hE2 hE;go_wp2;refine bodyPost_ret (v := .tuple #[.string (s' ++ ⟨#[]⟩), .bool true]) ?_ rfl (fd_ret_yes hB.out T.out ?_)
           ·simp [results, results17, go_sem]
           ·refine hR.out.trans ?_;exact rx0
          ·have T := Hj (hE2.out (s' ++ ⟨#[100]⟩) (by simp [sufL]));clear hE2 hE;go_wp2;refine bodyPost_ret (v := .tuple #[.string (s' ++ ⟨#[100]⟩), .bool true]) ?_ rfl (fd_ret_yes hB.out T.out ?_)
           ·simp [results, results17, go_sem]
           ·refine hR.out.trans ?_;exact rx0
          ·have T := Hj (hE2.out (s' ++ ⟨#[109]⟩) (by simp [sufL]));clear hE2 hE;go_wp2;refine bodyPost_ret (v := .tuple #[.string (s' ++ ⟨#[109]⟩), .bool true]) ?_ rfl (fd_ret_yes hB.out T.out ?_)
           ·simp [results, results17, go_sem]
           ·refine hR.out.trans ?_;exact rx0
         have hM0 : 0 < M' := by omega
         have bM : decide (0 < (M' : Int)) = true := dT (by omega);clear hM0'
         rcases (show f = 4 \/ f = 3 \/ f = 2 \/ f = 1 \/ f = 0 by omega) with rfl | rfl | rfl | rfl | rfl
         ·have hmf2 : M' < 10000 := by simpa using hmf
          have c9 : M' / 1000 < 10 := by omega
          have hJ2 := Hj (fun (u : ByteArray) hu => rj_step (f := 3) (u := u) hJ.out hM0 hu);have hcut := Hj (digit_cut (M' / 1000) c9);have e1 : ((M' : Nat) : Int).tdiv 1000 = ((M' / 1000 : Nat) : Int) := by rw [Int.tdiv_eq_ediv_of_nonneg (by omega)]; rfl
          have e2 : ((M' : Nat) : Int).tmod 1000 = ((M' % 1000 : Nat) : Int) := by rw [Int.tmod_eq_emod_of_nonneg (by omega)]; rfl
          have e3 : ((10 ^ 4 / 10 : Nat) : Int) = 1000 := by decide
          have m9 : M' % 1000 < 1000 := Nat.mod_lt _ (by decide);obtain ⟨c, hc⟩ : ∃ c, M' / 1000 = c := ⟨_, rfl⟩;obtain ⟨b, hb⟩ : ∃ b, M' % 1000 = b := ⟨_, rfl⟩;rw [hc] at e1 c9 hcut;rw [hb] at e2 m9
          have J3 : Hid (∀ u : ByteArray, u.data.toList = s'.data.toList ++ [UInt8.ofNat (48 + c)] -> Rj n d 3 b u) := fun u hu => by
           have := hJ2.out u (by rw [hu, <- hc])
           rwa [show M' % 10 ^ 3 = b from hb] at this
          clear hJ hJ2 hc hb hmf;have w1c : IntKind.i64.wrap ((c : Int) + 1) = (c : Int) + 1 := IntWalk.i64_in _ ⟨by omega, by omega⟩;have n1c : ((c : Int) + 1).toNat = c + 1 := by omega
          have n2c : (0 : Int) <= (c : Int) + 1 := by omega
          have n3c : (c : Int) + 1 <= 10 := by omega
          have n4c : (c : Int) <= (c : Int) + 1 := by omega
          have n5c : (c : Int) <= 10 := by omega
          have wcc : IntKind.i64.wrap (c : Int) = (c : Int) := IntWalk.i64_in _ ⟨by omega, by omega⟩;have zcc : ¬ (9223372036854775807 < s'.size + (min (c + 1) 10 - c)) := by omega
          have zz : (s' ++ (⟨#[UInt8.ofNat (48 + c)]⟩ : ByteArray)).size = s'.size + 1 := ByteArray.size_append;rw [e3];go_wp2_with fail;refine wp_region_calm (fun _ _ => True) (fun _ => false) [0, 1, 2, 3, 4, 5, 6, 7, 8, 9, 10] 0 (by kernel_rfl) (by kernel_rfl) (fun _ _ _ _ _ => trivial) trivial (fun w0 h0 => ?_)
          iterate 11
           refine wcg ?_;apply ei
           ·intro M w hM hS;unfold calmAt;go_simp;exact ⟨rfl, Rel.refl _⟩
          refine wpAnyR_end (by kernel_rfl) (fun w5 h5' => ?_);(try simp only [Act.put, zla, zlb, zlc]);have h5 := h0.trans h5';clear h0 h5';have kz5 := h5.size;(try simp only [zsa, zsc, zsd] at kz5);have H5 := Hj h5;clear h5;go_wp2;rw [hcut.out]
          go_roundw
          case rel => exact ⟨3, b, _, by omega, rfl, rfl, rfl, m9, by rw [zz]; omega, J3.out _ (by simp), hR.out.trans H5.out⟩
          case measure => simp [intOf]
         ·have hmf2 : M' < 1000 := by simpa using hmf
          have c9 : M' / 100 < 10 := by omega
          have hJ2 := Hj (fun (u : ByteArray) hu => rj_step (f := 2) (u := u) hJ.out hM0 hu);have hcut := Hj (digit_cut (M' / 100) c9);have e1 : ((M' : Nat) : Int).tdiv 100 = ((M' / 100 : Nat) : Int) := by rw [Int.tdiv_eq_ediv_of_nonneg (by omega)]; rfl
          have e2 : ((M' : Nat) : Int).tmod 100 = ((M' % 100 : Nat) : Int) := by rw [Int.tmod_eq_emod_of_nonneg (by omega)]; rfl
          have e3 : ((10 ^ 3 / 10 : Nat) : Int) = 100 := by decide
          have m9 : M' % 100 < 100 := Nat.mod_lt _ (by decide);obtain ⟨c, hc⟩ : ∃ c, M' / 100 = c := ⟨_, rfl⟩;obtain ⟨b, hb⟩ : ∃ b, M' % 100 = b := ⟨_, rfl⟩;rw [hc] at e1 c9 hcut;rw [hb] at e2 m9
          have J3 : Hid (∀ u : ByteArray, u.data.toList = s'.data.toList ++ [UInt8.ofNat (48 + c)] -> Rj n d 2 b u) := fun u hu => by
           have := hJ2.out u (by rw [hu, <- hc])
           rwa [show M' % 10 ^ 2 = b from hb] at this
          clear hJ hJ2 hc hb hmf;have w1c : IntKind.i64.wrap ((c : Int) + 1) = (c : Int) + 1 := IntWalk.i64_in _ ⟨by omega, by omega⟩;have n1c : ((c : Int) + 1).toNat = c + 1 := by omega
          have n2c : (0 : Int) <= (c : Int) + 1 := by omega
          have n3c : (c : Int) + 1 <= 10 := by omega
          have n4c : (c : Int) <= (c : Int) + 1 := by omega
          have n5c : (c : Int) <= 10 := by omega
          have wcc : IntKind.i64.wrap (c : Int) = (c : Int) := IntWalk.i64_in _ ⟨by omega, by omega⟩;have zcc : ¬ (9223372036854775807 < s'.size + (min (c + 1) 10 - c)) := by omega
          have zz : (s' ++ (⟨#[UInt8.ofNat (48 + c)]⟩ : ByteArray)).size = s'.size + 1 := ByteArray.size_append;rw [e3];go_wp2_with fail;refine wp_region_calm (fun _ _ => True) (fun _ => false) [0, 1, 2, 3, 4, 5, 6, 7, 8, 9, 10] 0 (by kernel_rfl) (by kernel_rfl) (fun _ _ _ _ _ => trivial) trivial (fun w0 h0 => ?_)
          iterate 11
           refine wcg ?_;apply ei
           ·intro M w hM hS;unfold calmAt;go_simp;exact ⟨rfl, Rel.refl _⟩
          refine wpAnyR_end (by kernel_rfl) (fun w5 h5' => ?_);(try simp only [Act.put, zla, zlb, zlc]);have h5 := h0.trans h5';clear h0 h5';have kz5 := h5.size;(try simp only [zsa, zsc, zsd] at kz5);have H5 := Hj h5;clear h5;go_wp2;rw [hcut.out]
          go_roundw
          case rel => exact ⟨2, b, _, by omega, rfl, rfl, rfl, m9, by rw [zz]; omega, J3.out _ (by simp), hR.out.trans H5.out⟩
          case measure => simp [intOf]
         ·have hmf2 : M' < 100 := by simpa using hmf
          have c9 : M' / 10 < 10 := by omega
          have hJ2 := Hj (fun (u : ByteArray) hu => rj_step (f := 1) (u := u) hJ.out hM0 hu);have hcut := Hj (digit_cut (M' / 10) c9);have e1 : ((M' : Nat) : Int).tdiv 10 = ((M' / 10 : Nat) : Int) := by rw [Int.tdiv_eq_ediv_of_nonneg (by omega)]; rfl
          have e2 : ((M' : Nat) : Int).tmod 10 = ((M' % 10 : Nat) : Int) := by rw [Int.tmod_eq_emod_of_nonneg (by omega)]; rfl
          have e3 : ((10 ^ 2 / 10 : Nat) : Int) = 10 := by decide
          have m9 : M' % 10 < 10 := Nat.mod_lt _ (by decide);obtain ⟨c, hc⟩ : ∃ c, M' / 10 = c := ⟨_, rfl⟩;obtain ⟨b, hb⟩ : ∃ b, M' % 10 = b := ⟨_, rfl⟩;rw [hc] at e1 c9 hcut;rw [hb] at e2 m9
          have J3 : Hid (∀ u : ByteArray, u.data.toList = s'.data.toList ++ [UInt8.ofNat (48 + c)] -> Rj n d 1 b u) := fun u hu => by
           have := hJ2.out u (by rw [hu, <- hc])
           rwa [show M' % 10 ^ 1 = b from hb] at this
          clear hJ hJ2 hc hb hmf;have w1c : IntKind.i64.wrap ((c : Int) + 1) = (c : Int) + 1 := IntWalk.i64_in _ ⟨by omega, by omega⟩;have n1c : ((c : Int) + 1).toNat = c + 1 := by omega
          have n2c : (0 : Int) <= (c : Int) + 1 := by omega
          have n3c : (c : Int) + 1 <= 10 := by omega
          have n4c : (c : Int) <= (c : Int) + 1 := by omega
          have n5c : (c : Int) <= 10 := by omega
          have wcc : IntKind.i64.wrap (c : Int) = (c : Int) := IntWalk.i64_in _ ⟨by omega, by omega⟩;have zcc : ¬ (9223372036854775807 < s'.size + (min (c + 1) 10 - c)) := by omega
          have zz : (s' ++ (⟨#[UInt8.ofNat (48 + c)]⟩ : ByteArray)).size = s'.size + 1 := ByteArray.size_append;rw [e3];go_wp2_with fail;refine wp_region_calm (fun _ _ => True) (fun _ => false) [0, 1, 2, 3, 4, 5, 6, 7, 8, 9, 10] 0 (by kernel_rfl) (by kernel_rfl) (fun _ _ _ _ _ => trivial) trivial (fun w0 h0 => ?_)
          iterate 11
           refine wcg ?_;apply ei
           ·intro M w hM hS;unfold calmAt;go_simp;exact ⟨rfl, Rel.refl _⟩
          refine wpAnyR_end (by kernel_rfl) (fun w5 h5' => ?_);(try simp only [Act.put, zla, zlb, zlc]);have h5 := h0.trans h5';clear h0 h5';have kz5 := h5.size;(try simp only [zsa, zsc, zsd] at kz5);have H5 := Hj h5;clear h5;go_wp2;rw [hcut.out]
          go_roundw
          case rel => exact ⟨1, b, _, by omega, rfl, rfl, rfl, m9, by rw [zz]; omega, J3.out _ (by simp), hR.out.trans H5.out⟩
          case measure => simp [intOf]
         ·have hmf2 : M' < 10 := by simpa using hmf
          have c9 : M' / 1 < 10 := by omega
          have hJ2 := Hj (fun (u : ByteArray) hu => rj_step (f := 0) (u := u) hJ.out hM0 hu);have hcut := Hj (digit_cut (M' / 1) c9);have e1 : ((M' : Nat) : Int).tdiv 1 = ((M' / 1 : Nat) : Int) := by rw [Int.tdiv_eq_ediv_of_nonneg (by omega)]; rfl
          have e2 : ((M' : Nat) : Int).tmod 1 = ((M' % 1 : Nat) : Int) := by rw [Int.tmod_eq_emod_of_nonneg (by omega)]; rfl
          have e3 : ((10 ^ 1 / 10 : Nat) : Int) = 1 := by decide
          have m9 : M' % 1 < 1 := Nat.mod_lt _ (by decide);obtain ⟨c, hc⟩ : ∃ c, M' / 1 = c := ⟨_, rfl⟩;obtain ⟨b, hb⟩ : ∃ b, M' % 1 = b := ⟨_, rfl⟩;rw [hc] at e1 c9 hcut;rw [hb] at e2 m9
          have J3 : Hid (∀ u : ByteArray, u.data.toList = s'.data.toList ++ [UInt8.ofNat (48 + c)] -> Rj n d 0 b u) := fun u hu => by
           have := hJ2.out u (by rw [hu, <- hc])
           rwa [show M' % 10 ^ 0 = b from hb] at this
          clear hJ hJ2 hc hb hmf;have w1c : IntKind.i64.wrap ((c : Int) + 1) = (c : Int) + 1 := IntWalk.i64_in _ ⟨by omega, by omega⟩;have n1c : ((c : Int) + 1).toNat = c + 1 := by omega
          have n2c : (0 : Int) <= (c : Int) + 1 := by omega
          have n3c : (c : Int) + 1 <= 10 := by omega
          have n4c : (c : Int) <= (c : Int) + 1 := by omega
          have n5c : (c : Int) <= 10 := by omega
          have wcc : IntKind.i64.wrap (c : Int) = (c : Int) := IntWalk.i64_in _ ⟨by omega, by omega⟩;have zcc : ¬ (9223372036854775807 < s'.size + (min (c + 1) 10 - c)) := by omega
          have zz : (s' ++ (⟨#[UInt8.ofNat (48 + c)]⟩ : ByteArray)).size = s'.size + 1 := ByteArray.size_append;rw [e3];go_wp2_with fail;refine wp_region_calm (fun _ _ => True) (fun _ => false) [0, 1, 2, 3, 4, 5, 6, 7, 8, 9, 10] 0 (by kernel_rfl) (by kernel_rfl) (fun _ _ _ _ _ => trivial) trivial (fun w0 h0 => ?_)
          iterate 11
           refine wcg ?_;apply ei
           ·intro M w hM hS;unfold calmAt;go_simp;exact ⟨rfl, Rel.refl _⟩
          refine wpAnyR_end (by kernel_rfl) (fun w5 h5' => ?_);(try simp only [Act.put, zla, zlb, zlc]);have h5 := h0.trans h5';clear h0 h5';have kz5 := h5.size;(try simp only [zsa, zsc, zsd] at kz5);have H5 := Hj h5;clear h5;go_wp2;rw [hcut.out]
          go_roundw
          case rel => exact ⟨0, b, _, by omega, rfl, rfl, rfl, m9, by rw [zz]; omega, J3.out _ (by simp), hR.out.trans H5.out⟩
          case measure => simp [intOf]
         ·simp at hmf; omega
   ·have hB := Hj (hCn.out (fun h => by omega));have bz : (M != 0) = true := by simpa using hz
    rw [hM] at tm m0 m1 wm;clear hv hg hCn hM hz hsame;go_enter func17, ntmps17;go_wp2_with fail;refine (V.out _).mono ?_;rintro e w1 ⟨rfl, h1⟩;have kq8 := keep2 h1 (b := w.heap.size) (by first | (simp; done) | (simp; omega) | omega);have kz1 := h1.size;(try simp only [zsa, zsc, zsd] at kz1);have H1 := Hj h1;clear h1;go_wp2;refine bodyPost_ret (v := .tuple #[.string ⟨#[]⟩, .bool false]) ?_ rfl (fd_ret_no hB.out ?_)
    ·simp [results, results17, go_sem]
    ·exact rx10
end Go.Proofs.YthmlhheceihcbaaGreatDoor
namespace Go.Proofs.YthmlhheceihcbaaGreatDoor.Tree
set_option maxHeartbeats 16000000
open Str Frac Tok Txt
set_option linter.unusedVariables false
inductive Ex where
 | no
 | mk (op a b d : Int) (s : ByteArray) (n : Nat) (kid : Nat -> Ex)
def Ex.op : Ex -> Int
 | .no => 0
 | .mk op _ _ _ _ _ _ => op
def Ex.va : Ex -> Int
 | .no => 0
 | .mk _ a _ _ _ _ _ => a
def Ex.vb : Ex -> Int
 | .no => 0
 | .mk _ _ b _ _ _ _ => b
def Ex.dm : Ex -> Int
 | .no => 0
 | .mk _ _ _ d _ _ _ => d
def Ex.nm : Ex -> ByteArray
 | .no => ⟨#[]⟩
 | .mk _ _ _ _ s _ _ => s
def Ex.cnt : Ex -> Nat
 | .no => 0
 | .mk _ _ _ _ _ n _ => n
def mxK (f : Nat -> Int) : Nat -> Int
 | 0 => 0
 | k + 1 => max (mxK f k) (f k)
def smK (f : Nat -> Int) : Nat -> Int
 | 0 => 0
 | k + 1 => smK f k + f k
def alK (f : Nat -> Bool) : Nat -> Bool
 | 0 => true
 | k + 1 => alK f k && f k
theorem alK_lt {f : Nat -> Bool} {n : Nat} (h : alK f n = true) : ∀ i, i < n -> f i = true := by
 induction n with
 | zero => intro i hi; omega
 | succ n ih =>
  simp only [alK, Bool.and_eq_true] at h;intro i hi;by_cases e : i = n
  ·subst e; exact h.2
  ·exact ih h.1 i (by omega)
theorem alK_of {f : Nat -> Bool} {n : Nat} (h : ∀ i, i < n -> f i = true) : alK f n = true := by
 induction n with
 | zero => rfl
 | succ n ih => simp only [alK]; rw [ih (fun i hi => h i (by omega)), h n (by omega)]; rfl
theorem alK_no {f : Nat -> Bool} {n k : Nat} (hk : k < n) (h : f k = false) : alK f n = false := by
 cases hA : alK f n
 ·rfl
 ·rw [alK_lt hA k hk] at h; cases h
def Ex.depth : Ex -> Int
 | .no => 1
 | .mk _ _ _ _ _ n kid => mxK (fun i => (kid i).depth) n + 1
def Ex.size : Ex -> Int
 | .no => 1
 | .mk _ _ _ _ _ n kid => smK (fun i => (kid i).size) n + 1
theorem mxK_bd {f : Nat -> Int} {B : Int} {n : Nat} (h0 : 0 <= B) (h : ∀ i, i < n -> 0 <= f i /\ f i <= B) : 0 <= mxK f n /\ mxK f n <= B := by
 induction n with
 | zero => simp [mxK]; omega
 | succ n ih =>
  have := ih (fun i hi => h i (by omega));have := h n (by omega);simp only [mxK]; omega
theorem smK_bd {f : Nat -> Int} {n : Nat} (h : ∀ i, i < n -> 0 <= f i) : 0 <= smK f n /\ ∀ i, i < n -> smK f i + f i <= smK f n := by
 induction n with
 | zero => exact ⟨by simp [smK], fun i hi => by omega⟩
 | succ n ih =>
  obtain ⟨h1, h2⟩ := ih (fun i hi => h i (by omega));have h3 := h n (by omega);refine ⟨by simp only [smK]; omega, fun i hi => ?_⟩;by_cases e : i = n
  ·subst e; simp only [smK]; omega
  ·have := h2 i (by omega);simp only [smK]; omega
theorem size_pos (t : Ex) : 1 <= t.size := by
 induction t with
 | no => simp [Ex.size]
 | mk op a b d s n kid ih =>
  simp only [Ex.size];have := (smK_bd (f := fun i => (kid i).size) (n := n) (fun i _ => by have := ih i; omega)).1;omega
theorem depth_bd (t : Ex) : 1 <= t.depth /\ t.depth <= t.size := by
 induction t with
 | no => simp [Ex.depth, Ex.size]
 | mk op a b d s n kid ih =>
  simp only [Ex.depth, Ex.size];have hs := smK_bd (f := fun i => (kid i).size) (n := n) (fun i _ => by have := size_pos (kid i); omega)
  have hm := mxK_bd (f := fun i => (kid i).depth) (B := smK (fun i => (kid i).size) n) (n := n) hs.1 (fun i hi => by
   have h1 := ih i;have h2 := hs.2 i hi;have h3 := (smK_bd (f := fun i => (kid i).size) (n := i) (fun i _ => by have := size_pos (kid i); omega)).1
   omega)
  omega
theorem kid_size {op a b d : Int} {s : ByteArray} {n : Nat} {kid : Nat -> Ex} {i : Nat} (hi : i < n) : (kid i).size < (Ex.mk op a b d s n kid).size /\ smK (fun i => (kid i).size) i + (kid i).size < (Ex.mk op a b d s n kid).size /\ 0 <= smK (fun i => (kid i).size) i := by
 have hs := smK_bd (f := fun i => (kid i).size) (n := n) (fun i _ => by have := size_pos (kid i); omega);have h2 := hs.2 i hi;have h3 := (smK_bd (f := fun i => (kid i).size) (n := i) (fun i _ => by have := size_pos (kid i); omega)).1;simp only [Ex.size];omega
theorem smK_le {f : Nat -> Int} {n i : Nat} (h : ∀ i, 0 <= f i) (hi : i <= n) : smK f i <= smK f n := by
 induction n with
 | zero => rw [show i = 0 by omega]; omega
 | succ n ih =>
  by_cases e : i = n + 1
  ·rw [e]; omega
  ·have := ih (by omega);have := h n;simp only [smK]; omega
/-! Words, keywords, names -/
def kws : List (List UInt8) := [[97, 110, 100], [98, 101, 115, 116], [98, 121], [99, 114, 101, 100, 105, 116], [99, 117, 114, 114, 101, 110, 99, 121], [101, 108, 115, 101], [102, 108, 111, 111, 114], [102, 114, 111, 109], [103, 114, 97, 110, 116], [105, 102], [105, 110, 100, 101, 120], [108, 101, 116], [108, 105, 109, 105, 116], [109, 97, 120], [109, 105, 110], [110, 111, 116], [111, 114], [112, 97, 121], [114, 101, 100, 117, 99, 101], [114, 111, 117, 110, 100], [115, 116, 97, 116, 117, 116, 101], [116, 104, 101, 110]]
def kwB (s : ByteArray) : Bool := kws.any fun l => s.data.toList == l
def namB (s : ByteArray) : Bool := wordB s && !kwB s
def arI (op : Int) : Int := if 1 <= op /\ op <= 3 then 0 else if 4 <= op /\ op <= 6 then 1 else if 7 <= op /\ op <= 20 then 2 else if op = 21 then 3 else -1
def emS (s : ByteArray) : Bool := s.data.toList == []
def nodB (op a b d : Int) (s : ByteArray) (n : Nat) : Bool := ((n : Int) == arI op) && (if op = 1 then fdB a b d && emS s else if op = 2 then namB s && (a == 0 && b == 0 && d == 0) else if op = 3 then (b == 1 && decide (1 <= a) && decide (a <= 45)) && (d == 0 && emS s) else (a == 0 && b == 0) && (d == 0 && emS s))
def Ex.form : Ex -> Bool
 | .no => false
 | .mk op a b d s n kid => nodB op a b d s n && alK (fun i => (kid i).form) n
def Ex.valid (t : Ex) : Bool := decide (t.depth <= 10) && (decide (t.size <= 60) && t.form)
/-! Dimensions -/
def inN : List (List UInt8) := [[97, 103, 101], [121, 101, 97, 114], [99, 104, 105, 108, 100, 114, 101, 110]]
def inD : List (List UInt8) := [[105, 110, 115, 117, 114, 101, 100], [119, 111, 114, 107, 101, 100], [118, 111, 108, 117, 110, 116, 97, 114, 121], [115, 101, 114, 118, 105, 99, 101], [101, 113, 117, 97, 116, 101, 100], [114, 97, 105, 115, 105, 110, 103], [114, 101, 115, 105, 100, 101, 110, 116]]
def inM : List (List UInt8) := [[98, 97, 115, 101]]
def inpI (s : ByteArray) : Int := if inN.any (fun l => s.data.toList == l) = true then 2 else if inD.any (fun l => s.data.toList == l) = true then 3 else if inM.any (fun l => s.data.toList == l) = true then 4 else 0
/-! Small facts for the walks. -/
theorem depth_mk (op a b d : Int) (s : ByteArray) (n : Nat) (kid : Nat -> Ex) : (Ex.mk op a b d s n kid).depth = mxK (fun i => (kid i).depth) n + 1 := rfl
theorem size_mk (op a b d : Int) (s : ByteArray) (n : Nat) (kid : Nat -> Ex) : (Ex.mk op a b d s n kid).size = smK (fun i => (kid i).size) n + 1 := rfl
theorem form_mk (op a b d : Int) (s : ByteArray) (n : Nat) (kid : Nat -> Ex) : (Ex.mk op a b d s n kid).form = (nodB op a b d s n && alK (fun i => (kid i).form) n) := rfl
theorem nod_ar {op a b d : Int} {s : ByteArray} {n : Nat} (h : nodB op a b d s n = true) : (n : Int) = arI op := by
 unfold nodB at h;simp only [Bool.and_eq_true, beq_iff_eq] at h;exact h.1
theorem nod_lit {a b d : Int} {s : ByteArray} {n : Nat} (h : nodB 1 a b d s n = true) : fdB a b d = true /\ emS s = true := by
 unfold nodB at h;simp only [Bool.and_eq_true] at h;simpa using h.2
end Go.Proofs.YthmlhheceihcbaaGreatDoor.Tree

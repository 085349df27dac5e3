/- Lemmas, each as it is printed; no conditions but those printed. -/
import Derived.Test.YthmlhheceihcbaaGreatDoorKB19
import Derived.Test.YthmlhheceihcbaaGreatDoorKB10
namespace Go.Proofs.YthmlhheceihcbaaGreatDoor.Tree
set_option maxHeartbeats 16000000
open Str Frac Tok Txt
set_option linter.unusedVariables false
set_option linter.unusedSimpArgs false
def levI (op : Int) : Int := if op = 21 then 0 else if op = 18 then 1 else if op = 17 then 2 else if op = 5 then 3 else if 11 <= op /\ op <= 16 then 4 else if op = 7 \/ op = 8 then 5 else if op = 9 \/ op = 10 then 6 else 7
theorem lev_bd (op : Int) : 0 <= levI op /\ levI op <= 7 := by
 unfold levI
 repeat' split
 all_goals omega
def sgS (op : Int) : ByteArray := if op = 7 then ⟨#[43]⟩ else if op = 8 then ⟨#[45]⟩ else if op = 9 then ⟨#[42]⟩ else if op = 10 then ⟨#[47]⟩ else if op = 11 then ⟨#[60]⟩ else if op = 12 then ⟨#[60, 61]⟩ else if op = 13 then ⟨#[61]⟩ else if op = 14 then ⟨#[60, 62]⟩ else if op = 15 then ⟨#[62]⟩ else if op = 16 then ⟨#[62, 61]⟩ else if op = 17 then ⟨#[97, 110, 100]⟩ else ⟨#[111, 114]⟩
theorem sg_size (op : Int) : (sgS op).size <= 3 := by
 unfold sgS
 repeat' split
 all_goals decide
theorem szA (l : List UInt8) : (⟨l.toArray⟩ : ByteArray).size = l.length := by simp [ByteArray.size]
def parS (b : Bool) (s : ByteArray) : ByteArray := if b = true then (⟨#[40]⟩ ++ s) ++ ⟨#[41]⟩ else s
theorem par_size (b : Bool) (s : ByteArray) : (parS b s).size <= s.size + 2 := by
 unfold parS;split
 ·simp only [ByteArray.size_append, szA, List.length]; omega
 ·omega
def ndS (op a b d : Int) (s : ByteArray) (p : Nat -> Int -> ByteArray) : ByteArray :=
 if op = 1 then fdT a b d else if op = 2 then s else if op = 3 then (⟨#[98, 101, 115, 116, 40]⟩ ++ numS a) ++ ⟨#[41]⟩
 else if op = 4 then ⟨#[45]⟩ ++ p 0 7 else if op = 5 then ⟨#[110, 111, 116, 32]⟩ ++ p 0 3
 else if op = 6 then (⟨#[102, 108, 111, 111, 114, 40]⟩ ++ p 0 0) ++ ⟨#[41]⟩
 else if op = 19 then (((⟨#[109, 105, 110, 40]⟩ ++ p 0 0) ++ ⟨#[44, 32]⟩) ++ p 1 0) ++ ⟨#[41]⟩
 else if op = 20 then (((⟨#[109, 97, 120, 40]⟩ ++ p 0 0) ++ ⟨#[44, 32]⟩) ++ p 1 0) ++ ⟨#[41]⟩
 else if op = 21 then ((((⟨#[105, 102, 32]⟩ ++ p 0 0) ++ ⟨#[32, 116, 104, 101, 110, 32]⟩) ++ p 1 0) ++ ⟨#[32, 101, 108, 115, 101, 32]⟩) ++ p 2 0
 else (((p 0 (if levI op = 4 then 5 else levI op) ++ ⟨#[32]⟩) ++ sgS op) ++ ⟨#[32]⟩) ++ p 1 (levI op + 1)
def Ex.bare : Ex -> ByteArray
 | .no => ⟨#[]⟩
 | .mk op a b d s n kid => ndS op a b d s fun i l => parS (decide (levI (kid i).op < l)) (kid i).bare
def Ex.put (t : Ex) (l : Int) : ByteArray := parS (decide (levI t.op < l)) t.bare
theorem bare_mk (op a b d : Int) (s : ByteArray) (n : Nat) (kid : Nat -> Ex) : (Ex.mk op a b d s n kid).bare = ndS op a b d s fun i l => (kid i).put l := rfl
theorem alK_all {f : Nat -> Bool} {n : Nat} (h : alK f n = true) : ∀ i, i < n -> f i = true := by
 induction n with
 | zero => intro i hi; omega
 | succ n ih =>
  simp only [alK, Bool.and_eq_true] at h;intro i hi;by_cases e : i = n
  ·rw [e]; exact h.2
  ·exact ih h.1 i (by omega)
theorem form_of {op a b d : Int} {s : ByteArray} {n : Nat} {kid : Nat -> Ex} (h : (Ex.mk op a b d s n kid).form = true) : nodB op a b d s n = true /\ ∀ i, i < n -> (kid i).form = true := by
 rw [form_mk, Bool.and_eq_true] at h;exact ⟨h.1, alK_all h.2⟩
theorem op_of {op a b d : Int} {s : ByteArray} {n : Nat} (h : nodB op a b d s n = true) : 1 <= op /\ op <= 21 := by
 have := nod_ar h;unfold arI at this
 split at this
 ·omega
 ·split at this
  ·omega
  ·split at this
   ·omega
   ·split at this <;> omega
theorem bare_size (t : Ex) : t.form = true -> (t.bare.size : Int) + 2 <= 70 * t.size := by
 induction t with
 | no => intro h; simp [Ex.form] at h
 | mk op a b d s n kid ih =>
  intro h;obtain ⟨h1, h2⟩ := form_of h;obtain ⟨o1, o2⟩ := op_of h1;have ha := nod_ar h1
  have P : ∀ i l, i < n -> (((kid i).put l).size : Int) <= 70 * (kid i).size := fun i l hi => by
   have := ih i (h2 i hi);have q := par_size (decide (levI (kid i).op < l)) (kid i).bare;show ((parS _ _).size : Int) <= _
   omega
  rw [bare_mk, size_mk];unfold ndS;have f1 := fd_size a b d;have f3 := numS_size a;have f4 := sg_size op;by_cases e1 : op = 1
  ·rw [if_pos e1]; subst e1;obtain rfl : n = 0 := by simp [arI] at ha; omega
   simp only [smK]; omega
  rw [if_neg e1];by_cases e2 : op = 2
  ·rw [if_pos e2]; subst e2;obtain rfl : n = 0 := by simp [arI] at ha; omega
   have hs : s.size <= 12 := by
    unfold nodB at h1;simp [namB, wordB] at h1;omega
   simp only [smK]; omega
  rw [if_neg e2];by_cases e3 : op = 3
  ·rw [if_pos e3]; subst e3;obtain rfl : n = 0 := by simp [arI] at ha; omega
   simp only [smK, ByteArray.size_append, szA, List.length]; omega
  rw [if_neg e3];by_cases e4 : op = 4
  ·rw [if_pos e4]; subst e4;obtain rfl : n = 1 := by simp [arI] at ha; omega
   have p0 := P 0 7 (by omega);simp only [smK, ByteArray.size_append, szA, List.length]; omega
  rw [if_neg e4];by_cases e5 : op = 5
  ·rw [if_pos e5]; subst e5;obtain rfl : n = 1 := by simp [arI] at ha; omega
   have p0 := P 0 3 (by omega);simp only [smK, ByteArray.size_append, szA, List.length]; omega
  rw [if_neg e5];by_cases e6 : op = 6
  ·rw [if_pos e6]; subst e6;obtain rfl : n = 1 := by simp [arI] at ha; omega
   have p0 := P 0 0 (by omega);simp only [smK, ByteArray.size_append, szA, List.length]; omega
  rw [if_neg e6];by_cases e19 : op = 19
  ·rw [if_pos e19]; subst e19;obtain rfl : n = 2 := by simp [arI] at ha; omega
   have p0 := P 0 0 (by omega);have p1 := P 1 0 (by omega);simp only [smK, ByteArray.size_append, szA, List.length]; omega
  rw [if_neg e19];by_cases e20 : op = 20
  ·rw [if_pos e20]; subst e20;obtain rfl : n = 2 := by simp [arI] at ha; omega
   have p0 := P 0 0 (by omega);have p1 := P 1 0 (by omega);simp only [smK, ByteArray.size_append, szA, List.length]; omega
  rw [if_neg e20];by_cases e21 : op = 21
  ·rw [if_pos e21]; subst e21;obtain rfl : n = 3 := by simp [arI] at ha; omega
   have p0 := P 0 0 (by omega);have p1 := P 1 0 (by omega);have p2 := P 2 0 (by omega);simp only [smK, ByteArray.size_append, szA, List.length]; omega
  rw [if_neg e21]
  obtain rfl : n = 2 := by
   unfold arI at ha;rw [if_neg (by omega), if_neg (by omega), if_pos (by omega)] at ha;omega
  have p0 := P 0 (if levI op = 4 then 5 else levI op) (by omega);have p1 := P 1 (levI op + 1) (by omega);simp only [smK, ByteArray.size_append, szA, List.length]; omega
theorem put_size {t : Ex} (h : t.form = true) (hz : t.size <= 60) (l : Int) : (t.put l).size <= 4200 := by
 have := bare_size t h;have q := par_size (decide (levI t.op < l)) t.bare;show (parS _ _).size <= _
 omega
theorem fmt_one {a : Int} (h0 : 1 <= a) (h1 : a <= 45) : fmtS a 1 = numS a := by
 obtain ⟨n, rfl⟩ : ∃ n : Nat, a = n := ⟨a.toNat, by omega⟩;have : ∀ n : Nat, n < 46 -> 1 <= n -> fmtS (n : Int) 1 = numS (n : Int) := by decide +kernel
 exact this n (by omega) (by omega)
end Go.Proofs.YthmlhheceihcbaaGreatDoor.Tree
namespace Go.Proofs.YthmlhheceihcbaaGreatDoor
set_option maxHeartbeats 16000000
open Go.RowKit Cal Str Tok Frac Txt Tree Go.Proofs.Tryz
set_option linter.unusedVariables false
set_option linter.unusedSimpArgs false
theorem level_any (op : Int) (w : World) (h0 : 1 <= op) (h1 : op <= 21) : Calls prog 96 #[.int .i64 op] w fun e w' => e = .returned (.int .i64 (levI op)) /\ w = w' := by
 rcases (show op = 1 \/ op = 2 \/ op = 3 \/ op = 4 \/ op = 5 \/ op = 6 \/ op = 7 \/ op = 8 \/ op = 9 \/ op = 10 \/ op = 11 \/ op = 12 \/ op = 13 \/ op = 14 \/ op = 15 \/ op = 16 \/ op = 17 \/ op = 18 \/ op = 19 \/ op = 20 \/ op = 21 by omega) with rfl | rfl | rfl | rfl | rfl | rfl | rfl | rfl | rfl | rfl | rfl | rfl | rfl | rfl | rfl | rfl | rfl | rfl | rfl | rfl | rfl
 all_goals
  go_enter func96, ntmps96;go_wp2;go_ret;exact ⟨rfl, rfl⟩
theorem rlevel_any (op : Int) (w : World) (h0 : 1 <= op) (h1 : op <= 21) : Calls prog 61 #[.int .i64 op] w fun e w' => e = .returned (.int .i64 (levI op)) /\ w = w' := by
 rcases (show op = 1 \/ op = 2 \/ op = 3 \/ op = 4 \/ op = 5 \/ op = 6 \/ op = 7 \/ op = 8 \/ op = 9 \/ op = 10 \/ op = 11 \/ op = 12 \/ op = 13 \/ op = 14 \/ op = 15 \/ op = 16 \/ op = 17 \/ op = 18 \/ op = 19 \/ op = 20 \/ op = 21 by omega) with rfl | rfl | rfl | rfl | rfl | rfl | rfl | rfl | rfl | rfl | rfl | rfl | rfl | rfl | rfl | rfl | rfl | rfl | rfl | rfl | rfl
 all_goals
  go_enter func61, ntmps61;go_wp2;go_ret;exact ⟨rfl, rfl⟩
theorem rsign_any (op : Int) (w : World) (h0 : 7 <= op) (h1 : op <= 18) : Calls prog 106 #[.int .i64 op] w fun e w' => e = .returned (.string (sgS op)) /\ w = w' := by
 rcases (show op = 7 \/ op = 8 \/ op = 9 \/ op = 10 \/ op = 11 \/ op = 12 \/ op = 13 \/ op = 14 \/ op = 15 \/ op = 16 \/ op = 17 \/ op = 18 by omega) with rfl | rfl | rfl | rfl | rfl | rfl | rfl | rfl | rfl | rfl | rfl | rfl
 all_goals
  go_enter func106, ntmps106;go_wp2;go_ret;exact ⟨rfl, rfl⟩
end Go.Proofs.YthmlhheceihcbaaGreatDoor
namespace Go.Proofs.YthmlhheceihcbaaGreatDoor
set_option maxHeartbeats 16000000
open Go.RowKit Cal Go.Proofs.Tryz
theorem ValidDay_any (d : Int) (w : World) :
  Calls prog 100 #[.int .i64 d] w fun e w' => e = .returned (.bool (vdayB d)) /\ w = w' := by
 go_enter func100, ntmps100;go_wp2
 all_goals (go_ret; refine ⟨ret_b ?_, rfl⟩; rw [Bool.eq_iff_iff]; simp [vdayB]; try omega)
theorem results_tmp4 {fn : Func} {t u v x : Tmp} (h : fn.results = #[.tmp t, .tmp u, .tmp v, .tmp x]) (tmps : Array Value) (P : Program) (w : World) :
  (results fn tmps).run P w = .ok (.tuple #[tmps.getD t undef, tmps.getD u undef, tmps.getD v undef, tmps.getD x undef]) w := by simp [results, h]
theorem ret_ii {k l : IntKind} {a b c d : Int} (h : a = b) (h' : c = d) : Ending.returned (.tuple #[.int k a, .int l c]) = .returned (.tuple #[.int k b, .int l d]) := by rw [h, h']
theorem monthAt_any (d : Int) (w : World) (h : vdayB d = true) :
  Calls prog 104 #[.int .i64 d] w fun e w' => e = .returned (.tuple #[.int .i64 (monOf d), .int .i64 (d - msum (monOf d))]) /\ w = w' := by
 have hd := (vdayB_iff d).1 h;have hmon := Hj (monOf_eq d);clear h;go_enter func104, ntmps104;go_wp2
 go_loop [0, 4] (fun t i => ∃ k : Nat, k < 2400 /\ i = .int .i64 k /\ t = .int .i64 (d - msum k) /\ msum k <= d) (fun _ i => (2400 - intOf i).toNat)
 case atStart => exact ⟨0, by omega, rfl, by simp [msum], by simp [msum]; omega⟩
 case round =>
  obtain ⟨k, hk, rfl, rfl, hle⟩ := hrel;have b3 := msum_bd k;have b4 := nlen_bd k;by_cases hlt : d - msum k < nlen k
  ·go_wp2_with (go_at_call 141; refine (rlength_any _ _ _ (by omega) (by omega) (by omega) (by omega)).mono ?_; rw [nlen_cast k]; rintro e w1 ⟨rfl, rfl⟩)
   go_ret2
   have e := hmon.out k hk hle (by omega);exact ⟨ret_ii (by rw [e]) (by rw [e]), rfl⟩
  ·have hk2 : k + 1 < 2400 := by
    rcases Nat.lt_or_ge (k + 1) 2400 with h | h
    ·exact h
    ·have e := msum_end;rw [show 2400 = k + 1 by omega, msum] at e;omega
   go_wp2_with (go_at_call 141; refine (rlength_any _ _ _ (by omega) (by omega) (by omega) (by omega)).mono ?_; rw [nlen_cast k]; rintro e w1 ⟨rfl, rfl⟩)
   go_round
   case rel => exact ⟨k + 1, hk2, by go_num, by simp only [msum]; go_num, by simp only [msum]; omega⟩
   case measure => simp [intOf]; omega
theorem ret_iiib {a b c a' b' c' : Int} {p p' : Bool} (h1 : a = a') (h2 : b = b') (h3 : c = c') (h4 : p = p') :
  Ending.returned (.tuple #[.int .i64 a, .int .i64 b, .int .i64 c, .bool p]) = .returned (.tuple #[.int .i64 a', .int .i64 b', .int .i64 c', .bool p']) := by rw [h1, h2, h3, h4]
theorem RDate_any (d : Int) (w : World) :
  Calls prog 54 #[.int .i64 d] w fun e w' => e = .returned (.tuple #[.int .i64 (dY d), .int .i64 (dM d), .int .i64 (dD d), .bool (vdayB d)]) /\ w = w' := by
 cases h : vdayB d
 ·go_enter func54, ntmps54
  go_wp2_with (go_at_call 100; refine (ValidDay_any _ _).mono ?_; rintro e w1 ⟨rfl, rfl⟩)
  refine bodyPost_ret (results_tmp4 rfl _ _ _) rfl ?_;exact ⟨ret_iiib (dY_no h).symm (dM_no h).symm (dD_no h).symm rfl, rfl⟩
 ·have hs := monOf_spec d h;have b := msum_bd (monOf d);have hd := (vdayB_iff d).1 h;go_enter func54, ntmps54
  go_wp2_with (first | (go_at_call 100; refine (ValidDay_any _ _).mono ?_; rintro e w1 ⟨rfl, rfl⟩) | (go_at_call 104; refine (monthAt_any _ _ h).mono ?_; rintro e w1 ⟨rfl, rfl⟩))
  refine bodyPost_ret (results_tmp4 rfl _ _ _) rfl ?_;exact ⟨ret_iiib (by rw [dY_yes h]; simp) (by rw [dM_yes h]; simp) (by rw [dD_yes h]) rfl, rfl⟩
open Go.RowKit Cal Str
theorem ret_s {a b : ByteArray} (h : a = b) : Ending.returned (.string a) = .returned (.string b) := by rw [h]
noncomputable def fmtD (d : Int) : ByteArray := if vdayB d = true then dgt (dY d) 4 ++ ⟨#[45]⟩ ++ dgt (dM d) 2 ++ ⟨#[45]⟩ ++ dgt (dD d) 2 else ⟨#[]⟩
theorem fmtD_no {d : Int} (h : vdayB d = false) : fmtD d = ⟨#[]⟩ := by unfold fmtD; rw [if_neg (by simp [h])]
theorem fmtD_yes {d : Int} (h : vdayB d = true) : fmtD d = dgt (dY d) 4 ++ ⟨#[45]⟩ ++ dgt (dM d) 2 ++ ⟨#[45]⟩ ++ dgt (dD d) 2 := by unfold fmtD; rw [if_pos h]
theorem FormatDay_any (d : Int) (w : World) :
  Calls prog 15 #[.int .i64 d] w fun e w' => e = .returned (.string (fmtD d)) /\ w = w' := by
 cases h : vdayB d
 ·have hfin := Hj (fmtD_no h);go_enter func15, ntmps15
  go_wp2_with (go_at_call 54; refine (RDate_any _ _).mono ?_; rintro e w1 ⟨rfl, rfl⟩)
  go_ret;exact ⟨ret_s hfin.out.symm, rfl⟩
 ·have hfin := Hj (fmtD_yes h);obtain ⟨y0, y1, m0, m1, d0, d1⟩ := date_bd h;have d2 := mlen_bd (dY d) (dM d);have s1 := dgt_size (dY d) 4;have s2 := dgt_size (dM d) 2;have s3 := dgt_size (dD d) 2;go_enter func15, ntmps15
  go_wp2_with (first | (go_at_call 54; refine (RDate_any _ _).mono ?_; rintro e w1 ⟨rfl, rfl⟩) | (go_at_call 55; refine (rdigits_any _ _ _ (by omega) (by omega) (by omega) (by omega)).mono ?_; rintro e w1 ⟨rfl, rfl⟩))
  go_ret;exact ⟨ret_s hfin.out.symm, rfl⟩
end Go.Proofs.YthmlhheceihcbaaGreatDoor
namespace Go.Proofs.YthmlhheceihcbaaGreatDoor
set_option maxHeartbeats 16000000
open Cal Str Tok Frac Txt Tree
set_option linter.unusedVariables false
set_option linter.unusedSimpArgs false
noncomputable def wdT (l : List (List UInt8 × Int)) (n : Int) : ByteArray := ⟨(nmI l n).toArray⟩
theorem nmI_le {l : List (List UInt8 × Int)} (h : ∀ p ∈ l, p.1.length <= 12) (z : Int) : (nmI l z).length <= 12 := by
 induction l with
 | nil => simp [nmI]
 | cons p l ih =>
  unfold nmI;split
  ·exact h p (by simp)
  ·exact ih fun q hq => h q (by simp [hq])
theorem wd_size {l : List (List UInt8 × Int)} (h : ∀ p ∈ l, p.1.length <= 12) (z : Int) : (wdT l z).size <= 12 := by unfold wdT; rw [szA]; exact nmI_le h z
theorem fmtD_size' (d : Int) : (fmtD d).size <= 122 := by
 unfold fmtD;have := dgt_size (dY d) 4;have := dgt_size (dM d) 2;have := dgt_size (dD d) 2;split
 ·simp only [ByteArray.size_append, szA, List.length]; omega
 ·decide
noncomputable def crT (s : ByteArray) (p : Int × Int) : ByteArray :=
 (if 0 < p.2 then (s ++ (⟨#[32, 32, 32, 32, 99, 114, 101, 100, 105, 116, 32]⟩ ++ wdT kndL p.1)) ++ (⟨#[32, 108, 105, 109, 105, 116, 32]⟩ ++ fmtS p.2 1) else s ++ (⟨#[32, 32, 32, 32, 99, 114, 101, 100, 105, 116, 32]⟩ ++ wdT kndL p.1)) ++ ⟨#[59, 10]⟩
noncomputable def seT (s : ByteArray) (p : Int × Int × Int) : ByteArray :=
 s ++ ((((⟨#[32, 32, 32, 32, 105, 110, 100, 101, 120, 32]⟩ ++ fmtS p.1 1) ++ ⟨#[32]⟩) ++ fdT p.2.1 p.2.2 2) ++ ⟨#[59, 10]⟩)
noncomputable def leT (s : ByteArray) (p : ByteArray × (Ex × Go.Value)) : ByteArray :=
 s ++ ((((⟨#[32, 32, 32, 32, 108, 101, 116, 32]⟩ ++ p.1) ++ ⟨#[32, 61, 32]⟩) ++ p.2.1.put 0) ++ ⟨#[59, 10]⟩)
noncomputable def grT (s : ByteArray) (p : Int × (Ex × Go.Value) × (Ex × Go.Value)) : ByteArray :=
 s ++ ((((((⟨#[32, 32, 32, 32, 103, 114, 97, 110, 116, 32]⟩ ++ wdT benL p.1) ++ ⟨#[32, 105, 102, 32]⟩) ++ p.2.1.1.put 0) ++ ⟨#[32, 112, 97, 121, 32]⟩) ++ p.2.2.1.put 0) ++ ⟨#[59, 10]⟩)
noncomputable def reT (s : ByteArray) (p : Int × (Ex × Go.Value)) : ByteArray :=
 s ++ ((((⟨#[32, 32, 32, 32, 114, 101, 100, 117, 99, 101, 32]⟩ ++ wdT benL p.1) ++ ⟨#[32, 98, 121, 32]⟩) ++ p.2.1.put 0) ++ ⟨#[59, 10]⟩)
noncomputable def hdT (s : ByteArray) (m : VerM) : ByteArray :=
 s ++ ((((((⟨#[32, 32, 102, 114, 111, 109, 32, 64]⟩ ++ fmtD m.frm) ++ ⟨#[32, 123, 10, 32, 32, 32, 32, 114, 111, 117, 110, 100, 32]⟩) ++ wdT modL m.mode) ++ ⟨#[32]⟩) ++ fmtS m.unit 1) ++ ⟨#[59, 10]⟩)
noncomputable def verT (s : ByteArray) (m : VerM) : ByteArray := (m.re.foldl reT (m.gr.foldl grT (m.le.foldl leT (m.se.foldl seT (m.cr.foldl crT (hdT s m)))))) ++ ⟨#[32, 32, 125, 10]⟩
noncomputable def staT (s : StaM) : ByteArray :=
 s.vs.foldl verT ((((⟨#[115, 116, 97, 116, 117, 116, 101, 32]⟩ ++ s.nm) ++ ⟨#[32, 99, 117, 114, 114, 101, 110, 99, 121, 32]⟩) ++ fmtS s.cur 1) ++ ⟨#[32, 123, 10]⟩) ++ ⟨#[125, 10]⟩
theorem take_fold {α : Type} {f : ByteArray -> α -> ByteArray} {L : List α} {k : Nat} {p : α} (hp : L[k]? = some p) (s : ByteArray) : (L.take (k + 1)).foldl f s = f ((L.take k).foldl f s) p := by
 obtain ⟨hk, rfl⟩ := List.getElem?_eq_some_iff.1 hp;rw [List.take_succ_eq_append_getElem hk, List.foldl_append]; rfl
end Go.Proofs.YthmlhheceihcbaaGreatDoor
namespace Go.Proofs.YthmlhheceihcbaaGreatDoor
set_option maxHeartbeats 16000000
open Go.RowKit Cal Str Tok Frac Txt Tree Go.Proofs.Tryz
attribute [local go_sem] calmUpon
set_option linter.unusedVariables false
set_option linter.unusedSimpArgs false
def PuK (w : World) (g off i : Nat) (p : Nat -> Int -> ByteArray) : Prop :=
 ∃ (o a b d : Int) (s : ByteArray) (x : Value), Six w g (off + i * 6) o a b d s x /\ (∀ l, (p i l).size <= 4200) /\
  ∀ w' l, Rel w w' -> Calls prog 18 #[.agg #[.int .i64 o, .int .i64 a, .int .i64 b, .int .i64 d, .string s, x], .int .i64 l] w' (StrRes (p i l) w')
theorem PuK.at {w X : World} {g off i : Nat} {p : Nat -> Int -> ByteArray} (h : PuK w g off i p) (l : Int) (j : Nat) (R : Rel w X) (hj : off + i * 6 = j := by rfl) :
  ∃ (o a b d : Int) (s : ByteArray) (x : Value) (P : ByteArray), p i l = P /\ P.size <= 4200 /\ X.cell? ⟨g, j, none⟩ = some (.int .i64 o) /\ X.cell? ⟨g, j + 1, none⟩ = some (.int .i64 a) /\ X.cell? ⟨g, j + 2, none⟩ = some (.int .i64 b) /\ X.cell? ⟨g, j + 3, none⟩ = some (.int .i64 d) /\ X.cell? ⟨g, j + 4, none⟩ = some (.string s) /\ X.cell? ⟨g, j + 5, none⟩ = some x /\
   Hid (∀ w', Rel X w' -> Calls prog 18 #[.agg #[.int .i64 o, .int .i64 a, .int .i64 b, .int .i64 d, .string s, x], .int .i64 l] w' (fun e w1 => e = .returned (.string P) /\ Rel w' w1)) := by
 subst hj;obtain ⟨o, a, b, d, s, x, q, z, c⟩ := h;exact ⟨o, a, b, d, s, x, _, rfl, z l, R.cell q.c0, R.cell q.c1, R.cell q.c2, R.cell q.c3, R.cell q.c4, R.cell q.c5, Hj fun w' r => c w' l (R.trans r)⟩
theorem nv {n : Nat} (k : Nat) (h : n <= 100000) (hk : k <= 100000 := by decide) : ¬ 9223372036854775807 < k + n := by omega
set_option maxRecDepth 20000 in
theorem nd_any (op a b d : Int) (s : ByteArray) (g off n cap : Nat) (p : Nat -> Int -> ByteArray) (w : World) (h4 : 4 <= op) (h21 : op <= 21) (hn : (n : Int) = arI op) (K : ∀ i, i < n -> PuK w g off i p) :
  Calls prog 60 #[.agg #[.int .i64 op, .int .i64 a, .int .i64 b, .int .i64 d, .string s, .slice (some ⟨g, off, none⟩) n cap]] w (StrRes (ndS op a b d s p) w) := by
 have LV := Hj fun w => rlevel_any op w (by omega) h21
 obtain ⟨X, hX⟩ : ∃ X, w.alloc (.cells #[.int .i64 op, .int .i64 a, .int .i64 b, .int .i64 d, .string s, .slice (some ⟨g, off, none⟩) n cap] 59) = X := ⟨_, rfl⟩;have BT := BoxAt.new (w := w) (g := w.heap.size) rfl (.int .i64 op) (.int .i64 a) (.int .i64 b) (.int .i64 d) (.string s) (.slice (some ⟨g, off, none⟩) n cap) 59;have RX := Hj ((Rel.refl w).alloc (.cells #[.int .i64 op, .int .i64 a, .int .i64 b, .int .i64 d, .string s, .slice (some ⟨g, off, none⟩) n cap] 59));rw [hX] at BT RX;obtain ⟨bl, b0, b1, b2, b3, b4, b5, -, -, -, -, -, -⟩ := BT;have fin : Hid (∀ {R : ByteArray} {W : World}, ndS op a b d s p = R -> Rel X W -> Ending.returned (.string R) = .returned (.string (ndS op a b d s p)) /\ Rel w W) := fun e r => ⟨by rw [e], RX.out.trans r⟩
 unfold StrRes;by_cases hb : 7 <= op /\ op <= 18
 ·obtain rfl : n = 2 := by
   unfold arI at hn;rw [if_neg (by omega), if_neg (by omega), if_pos (by omega)] at hn;omega
  obtain ⟨L, hL⟩ : ∃ L, levI op = L := ⟨_, rfl⟩;have hv := lev_bd op;rw [hL] at LV hv;have SG := Hj fun w => rsign_any op w hb.1 hb.2
  have C3 := SG;have zs := sg_size op;have wp : IntKind.i64.wrap (L + 1) = L + 1 := IntWalk.i64_in _ ⟨by omega, by omega⟩;have nn : ∀ k, k < 7 \/ 18 < k -> (op == k) = false := fun k h => by rw [zn]; omega
  have n1 := nn 1 (by decide);have n2 := nn 2 (by decide);have n3 := nn 3 (by decide);have n4 := nn 4 (by decide);have n5 := nn 5 (by decide);have n6 := nn 6 (by decide);have n19 := nn 19 (by decide);have n20 := nn 20 (by decide);have n21 := nn 21 (by decide);obtain ⟨o1, a1, d1, c1, s1, x1, P1, e1, z1, k10, k11, k12, k13, k14, k15, C1⟩ := (K 1 (by decide)).at (L + 1) (off + 6) RX.out;have Q := fun l => (K 0 (by decide)).at l off RX.out
  have e : ∀ {P}, p 0 (if L = 4 then 5 else L) = P -> ndS op a b d s p = (((P ++ ⟨#[32]⟩) ++ sgS op) ++ ⟨#[32]⟩) ++ P1 := fun h => by
   unfold ndS;rw [if_neg (by omega), if_neg (by omega), if_neg (by omega), if_neg (by omega), if_neg (by omega), if_neg (by omega), if_neg (by omega), if_neg (by omega), if_neg (by omega), hL, h, e1]
  have fin' := Hj fun (P : ByteArray) h (W : World) r => fin.out (W := W) (e (P := P) h) r
  obtain ⟨SS, hSS⟩ : ∃ SS, sgS op = SS := ⟨_, rfl⟩;rw [hSS] at SG C3 zs fin';obtain ⟨RR, hRR⟩ : ∃ R, ndS op a b d s p = R := ⟨_, rfl⟩;rw [hRR] at fin' |-;clear e fin hRR hSS SG e1 hn nn hL K RX;by_cases hl : L = 4
  subst hl;rw [show (4 : Int) + 1 = 5 from rfl] at C1 wp;have G := fun P h W r => fin'.out P h W r
  replace Q := Q 5
  rotate_left
  have q4 : (L == 4) = false := by rw [zn]; exact hl
  have G := fun P (h : p 0 L = P) W r => fin'.out P (by rw [if_neg hl]; exact h) W r
  replace Q := Q L
  rotate_left
  all_goals
   obtain ⟨o0, a0, d0, c0, s0, x0, P0, e0, z0, k00, k01, k02, k03, k04, k05, C0⟩ := Q;have F := Hj (G P0 e0);have w2 : ¬ 9223372036854775807 < P0.size + 1 := by omega
   have w3 : ¬ 9223372036854775807 < P0.size + 1 + SS.size := by omega
   have w4 : ¬ 9223372036854775807 < P0.size + 1 + SS.size + 1 := by omega
   have w5 : ¬ 9223372036854775807 < P0.size + 1 + SS.size + 1 + P1.size := by omega
   clear G fin' e0;go_enter func60, ntmps60;go_wp2_with fail;refine (LV.out _).mono ?_;rintro e w1 ⟨rfl, rfl⟩;go_wp2_with fail;refine wrd (fun w1 h1 => ?_);go_wp2;go_ret;exact F.out _ h1
 ·rcases (show (op = 4 \/ op = 5 \/ op = 6) \/ (op = 19 \/ op = 20) \/ op = 21 by omega) with h | h | rfl
  ·have Q := fun h l => (K 0 h).at l off RX.out
   rcases h with rfl | rfl | rfl
   replace Q := fun h => Q h 7
   rotate_left
   replace Q := fun h => Q h 3
   rotate_left
   replace Q := fun h => Q h 0
   rotate_left
   all_goals
    obtain rfl : n = 1 := by simp [arI] at hn; omega
    obtain ⟨o0, a0, d0, c0, s0, x0, P0, e0, z0, k00, k01, k02, k03, k04, k05, C0⟩ := Q (by decide);have w1 := nv 1 (Nat.le_trans z0 (by decide));have w4 := nv 4 (Nat.le_trans z0 (by decide));have w6 := nv 6 (Nat.le_trans z0 (by decide));have w7 : ¬ 9223372036854775807 < 6 + P0.size + 1 := by omega
    have E0 := Hj e0;clear Q K hn e0;go_enter func60, ntmps60;go_wp2_with fail;refine (LV.out _).mono ?_;rintro e w1 ⟨rfl, rfl⟩;go_wp2_with fail;refine (C0.out _ (Rel.refl _)).mono ?_;rintro e w1 ⟨rfl, h1⟩;go_wp2;go_ret;exact fin.out (by simp [ndS, E0.out]) h1
  ·obtain rfl : n = 2 := by rcases h with rfl | rfl <;> (simp [arI] at hn; omega)
   obtain ⟨o0, a0, d0, c0, s0, x0, P0, e0, z0, k00, k01, k02, k03, k04, k05, C0⟩ := (K 0 (by decide)).at 0 off RX.out;obtain ⟨o1, a1, d1, c1, s1, x1, P1, e1, z1, k10, k11, k12, k13, k14, k15, C1⟩ := (K 1 (by decide)).at 0 (off + 6) RX.out;have w4 := nv 4 (Nat.le_trans z0 (by decide));have w5 : ¬ 9223372036854775807 < 4 + P0.size + 2 := by omega
   have w6 : ¬ 9223372036854775807 < 4 + P0.size + 2 + P1.size := by omega
   have w7 : ¬ 9223372036854775807 < 4 + P0.size + 2 + P1.size + 1 := by omega
   have E0 := Hj e0;have E1 := Hj e1;clear K hn e0 e1
   rcases h with rfl | rfl
   all_goals
    go_enter func60, ntmps60;go_wp2_with fail;refine (LV.out _).mono ?_;rintro e w1 ⟨rfl, rfl⟩;go_wp2_with fail;refine wrd (fun w1 h1 => ?_);go_wp2;go_ret;exact fin.out (by simp [ndS, E0.out, E1.out]) h1
  ·obtain rfl : n = 3 := by simp [arI] at hn; omega
   obtain ⟨o0, a0, d0, c0, s0, x0, P0, e0, z0, k00, k01, k02, k03, k04, k05, C0⟩ := (K 0 (by decide)).at 0 off RX.out;obtain ⟨o1, a1, d1, c1, s1, x1, P1, e1, z1, k10, k11, k12, k13, k14, k15, C1⟩ := (K 1 (by decide)).at 0 (off + 6) RX.out;obtain ⟨o2, a2, d2, c2, s2, x2, P2, e2, z2, k20, k21, k22, k23, k24, k25, C2⟩ := (K 2 (by decide)).at 0 (off + 12) RX.out;have w3 := nv 3 (Nat.le_trans z0 (by decide));have w5 : ¬ 9223372036854775807 < 3 + P0.size + 6 := by omega
   have w6 : ¬ 9223372036854775807 < 3 + P0.size + 6 + P1.size := by omega
   have w7 : ¬ 9223372036854775807 < 3 + P0.size + 6 + P1.size + 6 := by omega
   have w8 : ¬ 9223372036854775807 < 3 + P0.size + 6 + P1.size + 6 + P2.size := by omega
   have E0 := Hj e0;have E1 := Hj e1;have E2 := Hj e2;clear K hn e0 e1 e2;go_enter func60, ntmps60;go_wp2_with fail;refine (LV.out _).mono ?_;rintro e w1 ⟨rfl, rfl⟩;go_wp2_with fail;refine wrd (fun w1 h1 => ?_);go_wp2;go_ret;exact fin.out (by simp [ndS, E0.out, E1.out, E2.out]) h1
set_option maxRecDepth 20000 in
theorem lf_any (op a b d : Int) (s : ByteArray) (ad : Option Addr) (n cap : Nat) (p : Nat -> Int -> ByteArray) (w : World) (hb : I64s op a b d s) (h0 : 1 <= op) (h3 : op <= 3) (ha : op = 3 -> (1 <= a /\ a <= 45) /\ b = 1) :
  Calls prog 60 #[.agg #[.int .i64 op, .int .i64 a, .int .i64 b, .int .i64 d, .string s, .slice ad n cap]] w (StrRes (ndS op a b d s p) w) := by
 have LV := Hj fun w => rlevel_any op w (by omega) (by omega)
 have fin : Hid (∀ {R : ByteArray} {W : World}, ndS op a b d s p = R -> Rel w W -> StrRes (ndS op a b d s p) w (.returned (.string R)) W) := fun e r => ⟨by rw [e], r⟩
 have R0 := fun (o : Obj) => (Rel.refl w).alloc o
 rcases (show op = 1 \/ op = 2 \/ op = 3 by omega) with rfl | rfl | rfl
 ·obtain ⟨o0, o1, a0, a1, b0, b1, d0, d1, s1⟩ := hb;have F := Hj fun w => rFormatDecimal_any a b d w a0 a1 b0 b1 d0 d1
  unfold FdRes at F;go_enter func60, ntmps60;go_wp2_with fail;refine (LV.out _).mono ?_;rintro e w1 ⟨rfl, rfl⟩;go_wp2_with fail;refine (F.out _).mono ?_;rintro e w4 ⟨rfl, h4⟩;go_wp2;go_ret;exact fin.out (by simp [ndS]) ((R0 _).trans h4)
 ·go_enter func60, ntmps60;go_wp2_with fail;refine (LV.out _).mono ?_;rintro e w1 ⟨rfl, rfl⟩;go_wp2;go_ret;exact fin.out (by simp [ndS]) (R0 _)
 ·obtain ⟨hA, rfl⟩ := ha rfl;have F := Hj fun w => rFormat_any a 1 w (by omega) (by omega) (by omega) (by omega)
  rw [fmt_one hA.1 hA.2] at F;have z := numS_size a;obtain ⟨T, hT⟩ : ∃ T, numS a = T := ⟨_, rfl⟩;rw [hT] at F z;have HT := Hj hT;have w2 : ¬ 9223372036854775807 < 5 + T.size := by omega
  have w3 : ¬ 9223372036854775807 < 5 + T.size + 1 := by omega
  unfold StrRes at F;clear hT;go_enter func60, ntmps60;go_wp2_with fail;refine (LV.out _).mono ?_;rintro e w1 ⟨rfl, rfl⟩;go_wp2_with fail;refine (F.out _).mono ?_;rintro e w4 ⟨rfl, h4⟩;go_wp2;go_ret;exact fin.out (by simp [ndS, HT.out]) ((R0 _).trans h4)
set_option maxRecDepth 20000 in
theorem pu_of (op a b d : Int) (s : ByteArray) (ad : Option Addr) (n cap : Nat) (req : Int) (T : ByteArray) (w : World) (h0 : 1 <= op) (h1 : op <= 21) (hz : T.size <= 4200)
  (C : Hid (∀ w', Rel w w' -> Calls prog 60 #[.agg #[.int .i64 op, .int .i64 a, .int .i64 b, .int .i64 d, .string s, .slice ad n cap]] w' (StrRes T w'))) :
  Calls prog 18 #[.agg #[.int .i64 op, .int .i64 a, .int .i64 b, .int .i64 d, .string s, .slice ad n cap], .int .i64 req] w (StrRes (parS (decide (levI op < req)) T) w) := by
 have w2 := nv 1 (Nat.le_trans hz (by decide));have w3 : ¬ 9223372036854775807 < 1 + T.size + 1 := by omega
 have LV := Hj fun w => rlevel_any op w h0 h1
 have R0 := Hj ((Rel.refl w).alloc (.cells #[.int .i64 op, .int .i64 a, .int .i64 b, .int .i64 d, .string s, .slice ad n cap] 59));unfold StrRes at C |-
 cases hB : decide (levI op < req)
 all_goals
  go_enter func18, ntmps18;go_wp2_with fail;refine (C.out _ R0.out).mono ?_;rintro e w1 ⟨rfl, h1⟩;have rc := rci h1;go_wp2_with fail;refine (LV.out _).mono ?_;rintro e w2 ⟨rfl, rfl⟩;go_wp2;go_ret;exact ⟨by simp [parS], R0.out.trans h1⟩
def PutOk (t : Ex) : Prop := ∀ (x : Value) (w : World) (L : Int), ExKids t w x -> Calls prog 18 #[.agg #[.int .i64 t.op, .int .i64 t.va, .int .i64 t.vb, .int .i64 t.dm, .string t.nm, x], .int .i64 L] w (StrRes (t.put L) w)
theorem put_all (t : Ex) : t.form = true -> t.size <= 60 -> PutOk t := by
  induction t with
  | no => intro h; simp [Ex.form] at h
  | mk op a b d s n kid ih =>
    intro hF hz x w L hK;obtain ⟨h1, h2⟩ := form_of hF;obtain ⟨o1, o2⟩ := op_of h1;have hn := nod_ar h1;have hs := bare_size _ hF;obtain ⟨hb, hn', ad, cap, rfl, hk⟩ := hK;refine pu_of op a b d s ad n cap L _ w o1 o2 (by omega) (Hj fun w' r => ?_);rw [bare_mk];by_cases h4 : 4 <= op
    · obtain ⟨g, off, rfl, hg, hc⟩ := hk (by unfold arI at hn; repeat' split at hn
                                             all_goals omega)
      refine nd_any op a b d s g off n cap _ w' h4 o2 hn fun i hi => ?_
      obtain ⟨xi, q1, q2⟩ := hc i hi;have hzi : (kid i).size <= 60 := by have := (kid_size (op := op) (a := a) (b := b) (d := d) (s := s) (kid := kid) hi).1; omega
      exact ⟨_, _, _, _, _, xi, six_rel q1 r hg, fun l => put_size (h2 i hi) hzi l, fun w'' l r' => ih i (h2 i hi) hzi xi w'' l (kids_rel q2 (r.trans r'))⟩
    · refine lf_any op a b d s ad n cap _ w' hb o1 (by omega) fun e => ?_
      subst e;unfold nodB at h1;simp at h1;omega
end Go.Proofs.YthmlhheceihcbaaGreatDoor

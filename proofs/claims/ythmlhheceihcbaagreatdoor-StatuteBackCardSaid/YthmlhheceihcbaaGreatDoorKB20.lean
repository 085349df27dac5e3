/- Lemmas, each as it is printed; no conditions but those printed. -/
import Derived.Test.YthmlhheceihcbaaGreatDoorKB19
namespace Go.Proofs.YthmlhheceihcbaaGreatDoor
set_option maxHeartbeats 16000000
open Go.RowKit Cal Str Tok Frac Txt Tree Go.Proofs.Tryz
attribute [local go_sem] calmUpon
set_option linter.unusedVariables false
set_option linter.unusedSimpArgs false
theorem vday_any (z : Int) (w : World) : Calls prog 118 #[.int .i64 z] w (BRes (bwB 0 73048 z) w) := by
 unfold BRes;by_cases h1 : 0 <= z
 ·have e1 : decide ((0 : Int) <= z) = true := decide_eq_true h1;by_cases h2 : z <= 73048
  ·have e2 : decide (z <= (73048 : Int)) = true := decide_eq_true h2;have fin : Hid (bwB 0 73048 z = true) := by show _ = _; unfold bwB; rw [e1, e2]; rfl
   go_enter func118, ntmps118;go_wp2;go_ret;exact ⟨ret_b2 fin.out.symm, rx0⟩
  ·have e2 : decide (z <= (73048 : Int)) = false := decide_eq_false h2;have fin : Hid (bwB 0 73048 z = false) := by show _ = _; unfold bwB; rw [e1, e2]; rfl
   go_enter func118, ntmps118;go_wp2;go_ret;exact ⟨ret_b2 fin.out.symm, rx0⟩
 ·have e1 : decide ((0 : Int) <= z) = false := decide_eq_false h1;have fin : Hid (bwB 0 73048 z = false) := by show _ = _; unfold bwB; rw [e1]; rfl
  go_enter func118, ntmps118;go_wp2;go_ret;exact ⟨ret_b2 fin.out.symm, rx0⟩
theorem rvday_any (z : Int) (w : World) : Calls prog 100 #[.int .i64 z] w (BRes (bwB 0 73048 z) w) := by
 unfold BRes;by_cases h1 : 0 <= z
 ·have e1 : decide ((0 : Int) <= z) = true := decide_eq_true h1;by_cases h2 : z <= 73048
  ·have e2 : decide (z <= (73048 : Int)) = true := decide_eq_true h2;have fin : Hid (bwB 0 73048 z = true) := by show _ = _; unfold bwB; rw [e1, e2]; rfl
   go_enter func100, ntmps100;go_wp2;go_ret;exact ⟨ret_b2 fin.out.symm, rx0⟩
  ·have e2 : decide (z <= (73048 : Int)) = false := decide_eq_false h2;have fin : Hid (bwB 0 73048 z = false) := by show _ = _; unfold bwB; rw [e1, e2]; rfl
   go_enter func100, ntmps100;go_wp2;go_ret;exact ⟨ret_b2 fin.out.symm, rx0⟩
 ·have e1 : decide ((0 : Int) <= z) = false := decide_eq_false h1;have fin : Hid (bwB 0 73048 z = false) := by show _ = _; unfold bwB; rw [e1]; rfl
  go_enter func100, ntmps100;go_wp2;go_ret;exact ⟨ret_b2 fin.out.symm, rx0⟩
theorem vyear_any (z : Int) (w : World) : Calls prog 153 #[.int .i64 z] w (BRes (bwB 1900 2099 z) w) := by
 unfold BRes;by_cases h1 : 1900 <= z
 ·have e1 : decide ((1900 : Int) <= z) = true := decide_eq_true h1;by_cases h2 : z <= 2099
  ·have e2 : decide (z <= (2099 : Int)) = true := decide_eq_true h2;have fin : Hid (bwB 1900 2099 z = true) := by show _ = _; unfold bwB; rw [e1, e2]; rfl
   go_enter func153, ntmps153;go_wp2;go_ret;exact ⟨ret_b2 fin.out.symm, rx0⟩
  ·have e2 : decide (z <= (2099 : Int)) = false := decide_eq_false h2;have fin : Hid (bwB 1900 2099 z = false) := by show _ = _; unfold bwB; rw [e1, e2]; rfl
   go_enter func153, ntmps153;go_wp2;go_ret;exact ⟨ret_b2 fin.out.symm, rx0⟩
 ·have e1 : decide ((1900 : Int) <= z) = false := decide_eq_false h1;have fin : Hid (bwB 1900 2099 z = false) := by show _ = _; unfold bwB; rw [e1]; rfl
  go_enter func153, ntmps153;go_wp2;go_ret;exact ⟨ret_b2 fin.out.symm, rx0⟩
theorem rround_any (a b : Int) (w : World) : Calls prog 101 #[.agg #[.int .i64 a, .int .i64 b]] w (BRes (bwB 1 4 a && bwB 1 100000 b) w) := by
 unfold BRes;by_cases h0 : 1 <= a
 ·have e0 : decide ((1 : Int) <= a) = true := decide_eq_true h0;by_cases h1 : a <= 4
  ·have e1 : decide (a <= (4 : Int)) = true := decide_eq_true h1;by_cases h2 : 1 <= b
   ·have e2 : decide ((1 : Int) <= b) = true := decide_eq_true h2;by_cases h3 : b <= 100000
    ·have e3 : decide (b <= (100000 : Int)) = true := decide_eq_true h3;have fin : Hid ((bwB 1 4 a && bwB 1 100000 b) = true) := by show _ = _; unfold bwB; rw [e0, e1, e2, e3]; simp
     go_enter func101, ntmps101;go_wp2;go_ret;exact ⟨ret_b2 fin.out.symm, rx0⟩
    ·have e3 : decide (b <= (100000 : Int)) = false := decide_eq_false h3;have fin : Hid ((bwB 1 4 a && bwB 1 100000 b) = false) := by show _ = _; unfold bwB; rw [e0, e1, e2, e3]; simp
     go_enter func101, ntmps101;go_wp2;go_ret;exact ⟨ret_b2 fin.out.symm, rx0⟩
   ·have e2 : decide ((1 : Int) <= b) = false := decide_eq_false h2;have fin : Hid ((bwB 1 4 a && bwB 1 100000 b) = false) := by show _ = _; unfold bwB; rw [e0, e1, e2]; simp
    go_enter func101, ntmps101;go_wp2;go_ret;exact ⟨ret_b2 fin.out.symm, rx0⟩
  ·have e1 : decide (a <= (4 : Int)) = false := decide_eq_false h1;have fin : Hid ((bwB 1 4 a && bwB 1 100000 b) = false) := by show _ = _; unfold bwB; rw [e0, e1]; simp
   go_enter func101, ntmps101;go_wp2;go_ret;exact ⟨ret_b2 fin.out.symm, rx0⟩
 ·have e0 : decide ((1 : Int) <= a) = false := decide_eq_false h0;have fin : Hid ((bwB 1 4 a && bwB 1 100000 b) = false) := by show _ = _; unfold bwB; rw [e0]; simp
  go_enter func101, ntmps101;go_wp2;go_ret;exact ⟨ret_b2 fin.out.symm, rx0⟩
theorem vindex_any (y a b : Int) (w : World) (ht : TabW w) (a0 : -9223372036854775808 <= a) (a1 : a <= 9223372036854775807) (b0 : -9223372036854775808 <= b) (b1 : b <= 9223372036854775807) :
  Calls prog 119 #[.agg #[.int .i64 y, .int .i64 a, .int .i64 b]] w (BRes (seV (y, a, b)) w) := by
 have F := Hj fun w' (r : Rel w w') => FormatDecimal_any a b 2 w' (ht.rel r) a0 a1 b0 b1 (by decide) (by decide)
 have Y := Hj fun w' => vyear_any y w'
 unfold FdRes at F;unfold BRes at Y |-;obtain ⟨T, hT⟩ : ∃ T, fdT a b 2 = T := ⟨_, rfl⟩;obtain ⟨B, hB⟩ : ∃ B, fdB a b 2 = B := ⟨_, rfl⟩;obtain ⟨C, hC⟩ : ∃ C, bwB 1900 2099 y = C := ⟨_, rfl⟩;rw [hT, hB] at F;rw [hC] at Y;have HS : Hid (seV (y, a, b) = (C && (B && decide (1 <= a)))) := by show _ = _; unfold seV; simp only; rw [hC, hB]
 obtain ⟨V, hV⟩ : ∃ V, seV (y, a, b) = V := ⟨_, rfl⟩;rw [hV] at HS |-;clear hT hB hC hV ht;go_enter func119, ntmps119;go_wp2_with fail;refine (F.out _ ((Rel.refl _).alloc _)).mono ?_;rintro e w1 ⟨rfl, h1⟩;have kq0 := keep3 h1 (b := w.heap.size) (by first | (simp; done) | (simp; omega) | omega);have kz1 := h1.size;(try simp only [zsa, zsc, zsd] at kz1);have H1 := Hj h1;clear h1;cases B
 ·have fin : Hid (V = false) := by show _ = _; rw [HS.out]; simp
  go_wp2;go_ret;exact ⟨ret_b2 fin.out.symm, rx10⟩
 ·by_cases h0 : 0 < a
  ·have e0 : decide (0 < a) = true := decide_eq_true h0;have e1 : decide (1 <= a) = true := dT (by omega);have fin : Hid (V = C) := by show _ = _; rw [HS.out, e1]; simp
   go_wp2_with fail;refine (Y.out _).mono ?_;rintro e w2 ⟨rfl, h2⟩;have R2 := Hj h2;clear h2;go_wp2;go_ret;exact ⟨ret_b2 fin.out.symm, by (show Rel _ _; refine Rel.trans ?_ R2.out; exact rx10)⟩
  ·have e0 : decide (0 < a) = false := decide_eq_false h0;have e1 : decide (1 <= a) = false := dF (by omega);have fin : Hid (V = false) := by show _ = _; rw [HS.out, e1]; simp
   go_wp2;go_ret;exact ⟨ret_b2 fin.out.symm, rx10⟩
set_option maxRecDepth 20000 in
theorem rKind_any (s : ByteArray) (w : World) : Calls prog 56 #[.string s] w fun e w' => e = .returned (.int .i64 (tabI kndL s)) /\ w = w' := by
 by_cases h0 : s = ⟨#[118, 111, 108, 117, 110, 116, 97, 114, 121]⟩
 ·subst h0;rw [show tabI kndL ⟨#[118, 111, 108, 117, 110, 116, 97, 114, 121]⟩ = 6 by kernel_rfl];go_enter func56, ntmps56;go_wp2;go_ret;exact ⟨rfl, rfl⟩
 by_cases h1 : s = ⟨#[115, 101, 114, 118, 105, 99, 101]⟩
 ·subst h1;rw [show tabI kndL ⟨#[115, 101, 114, 118, 105, 99, 101]⟩ = 9 by kernel_rfl];go_enter func56, ntmps56;go_wp2;go_ret;exact ⟨rfl, rfl⟩
 by_cases h2 : s = ⟨#[117, 110, 101, 109, 112, 108, 111, 121, 101, 100]⟩
 ·subst h2;rw [show tabI kndL ⟨#[117, 110, 101, 109, 112, 108, 111, 121, 101, 100]⟩ = 7 by kernel_rfl];go_enter func56, ntmps56;go_wp2;go_ret;exact ⟨rfl, rfl⟩
 by_cases h3 : s = ⟨#[115, 105, 99, 107]⟩
 ·subst h3;rw [show tabI kndL ⟨#[115, 105, 99, 107]⟩ = 8 by kernel_rfl];go_enter func56, ntmps56;go_wp2;go_ret;exact ⟨rfl, rfl⟩
 by_cases h4 : s = ⟨#[99, 104, 105, 108, 100]⟩
 ·subst h4;rw [show tabI kndL ⟨#[99, 104, 105, 108, 100]⟩ = 10 by kernel_rfl];go_enter func56, ntmps56;go_wp2;go_ret;exact ⟨rfl, rfl⟩
 by_cases h5 : s = ⟨#[114, 101, 115, 105, 100, 101, 110, 99, 101]⟩
 ·subst h5;rw [show tabI kndL ⟨#[114, 101, 115, 105, 100, 101, 110, 99, 101]⟩ = 5 by kernel_rfl];go_enter func56, ntmps56;go_wp2;go_ret;exact ⟨rfl, rfl⟩
 have n0 : (s.toList == [118, 111, 108, 117, 110, 116, 97, 114, 121]) = false := str_ne h0;have m0 := n0;rw [Lib.toList_data] at m0;have n1 : (s.toList == [115, 101, 114, 118, 105, 99, 101]) = false := str_ne h1;have m1 := n1;rw [Lib.toList_data] at m1;have n2 : (s.toList == [117, 110, 101, 109, 112, 108, 111, 121, 101, 100]) = false := str_ne h2;have m2 := n2;rw [Lib.toList_data] at m2;have n3 : (s.toList == [115, 105, 99, 107]) = false := str_ne h3;have m3 := n3;rw [Lib.toList_data] at m3;have n4 : (s.toList == [99, 104, 105, 108, 100]) = false := str_ne h4;have m4 := n4;rw [Lib.toList_data] at m4;have n5 : (s.toList == [114, 101, 115, 105, 100, 101, 110, 99, 101]) = false := str_ne h5;have m5 := n5;rw [Lib.toList_data] at m5;have hz : tabI kndL s = 0 := by unfold kndL; simp only [tabI, m0, m1, m2, m3, m4, m5]; rfl
 rw [hz];clear hz h0 m0 h1 m1 h2 m2 h3 m3 h4 m4 h5 m5;go_enter func56, ntmps56;go_wp2;go_ret;exact ⟨rfl, rfl⟩
set_option maxRecDepth 20000 in
theorem rBenefit_any (s : ByteArray) (w : World) : Calls prog 57 #[.string s] w fun e w' => e = .returned (.int .i64 (tabI benL s)) /\ w = w' := by
 by_cases h0 : s = ⟨#[111, 108, 100]⟩
 ·subst h0;rw [show tabI benL ⟨#[111, 108, 100]⟩ = 1 by kernel_rfl];go_enter func57, ntmps57;go_wp2;go_ret;exact ⟨rfl, rfl⟩
 by_cases h1 : s = ⟨#[100, 105, 115, 97, 98, 105, 108, 105, 116, 121]⟩
 ·subst h1;rw [show tabI benL ⟨#[100, 105, 115, 97, 98, 105, 108, 105, 116, 121]⟩ = 2 by kernel_rfl];go_enter func57, ntmps57;go_wp2;go_ret;exact ⟨rfl, rfl⟩
 by_cases h2 : s = ⟨#[115, 117, 114, 118, 105, 118, 111, 114]⟩
 ·subst h2;rw [show tabI benL ⟨#[115, 117, 114, 118, 105, 118, 111, 114]⟩ = 3 by kernel_rfl];go_enter func57, ntmps57;go_wp2;go_ret;exact ⟨rfl, rfl⟩
 by_cases h3 : s = ⟨#[102, 97, 109, 105, 108, 121]⟩
 ·subst h3;rw [show tabI benL ⟨#[102, 97, 109, 105, 108, 121]⟩ = 4 by kernel_rfl];go_enter func57, ntmps57;go_wp2;go_ret;exact ⟨rfl, rfl⟩
 by_cases h4 : s = ⟨#[115, 105, 99, 107, 110, 101, 115, 115]⟩
 ·subst h4;rw [show tabI benL ⟨#[115, 105, 99, 107, 110, 101, 115, 115]⟩ = 5 by kernel_rfl];go_enter func57, ntmps57;go_wp2;go_ret;exact ⟨rfl, rfl⟩
 have n0 : (s.toList == [111, 108, 100]) = false := str_ne h0;have m0 := n0;rw [Lib.toList_data] at m0;have n1 : (s.toList == [100, 105, 115, 97, 98, 105, 108, 105, 116, 121]) = false := str_ne h1;have m1 := n1;rw [Lib.toList_data] at m1;have n2 : (s.toList == [115, 117, 114, 118, 105, 118, 111, 114]) = false := str_ne h2;have m2 := n2;rw [Lib.toList_data] at m2;have n3 : (s.toList == [102, 97, 109, 105, 108, 121]) = false := str_ne h3;have m3 := n3;rw [Lib.toList_data] at m3;have n4 : (s.toList == [115, 105, 99, 107, 110, 101, 115, 115]) = false := str_ne h4;have m4 := n4;rw [Lib.toList_data] at m4;have hz : tabI benL s = 0 := by unfold benL; simp only [tabI, m0, m1, m2, m3, m4]; rfl
 rw [hz];clear hz h0 m0 h1 m1 h2 m2 h3 m3 h4 m4;go_enter func57, ntmps57;go_wp2;go_ret;exact ⟨rfl, rfl⟩
set_option maxRecDepth 20000 in
theorem rMode_any (s : ByteArray) (w : World) : Calls prog 58 #[.string s] w fun e w' => e = .returned (.int .i64 (tabI modL s)) /\ w = w' := by
 by_cases h0 : s = ⟨#[100, 111, 119, 110]⟩
 ·subst h0;rw [show tabI modL ⟨#[100, 111, 119, 110]⟩ = 1 by kernel_rfl];go_enter func58, ntmps58;go_wp2;go_ret;exact ⟨rfl, rfl⟩
 by_cases h1 : s = ⟨#[117, 112]⟩
 ·subst h1;rw [show tabI modL ⟨#[117, 112]⟩ = 2 by kernel_rfl];go_enter func58, ntmps58;go_wp2;go_ret;exact ⟨rfl, rfl⟩
 by_cases h2 : s = ⟨#[104, 97, 108, 102]⟩
 ·subst h2;rw [show tabI modL ⟨#[104, 97, 108, 102]⟩ = 3 by kernel_rfl];go_enter func58, ntmps58;go_wp2;go_ret;exact ⟨rfl, rfl⟩
 by_cases h3 : s = ⟨#[101, 118, 101, 110]⟩
 ·subst h3;rw [show tabI modL ⟨#[101, 118, 101, 110]⟩ = 4 by kernel_rfl];go_enter func58, ntmps58;go_wp2;go_ret;exact ⟨rfl, rfl⟩
 have n0 : (s.toList == [100, 111, 119, 110]) = false := str_ne h0;have m0 := n0;rw [Lib.toList_data] at m0;have n1 : (s.toList == [117, 112]) = false := str_ne h1;have m1 := n1;rw [Lib.toList_data] at m1;have n2 : (s.toList == [104, 97, 108, 102]) = false := str_ne h2;have m2 := n2;rw [Lib.toList_data] at m2;have n3 : (s.toList == [101, 118, 101, 110]) = false := str_ne h3;have m3 := n3;rw [Lib.toList_data] at m3;have hz : tabI modL s = 0 := by unfold modL; simp only [tabI, m0, m1, m2, m3]; rfl
 rw [hz];clear hz h0 m0 h1 m1 h2 m2 h3 m3;go_enter func58, ntmps58;go_wp2;go_ret;exact ⟨rfl, rfl⟩
def wds : List (List UInt8) := [[118, 111, 108, 117, 110, 116, 97, 114, 121], [115, 101, 114, 118, 105, 99, 101], [117, 110, 101, 109, 112, 108, 111, 121, 101, 100], [115, 105, 99, 107], [99, 104, 105, 108, 100], [114, 101, 115, 105, 100, 101, 110, 99, 101], [111, 108, 100], [100, 105, 115, 97, 98, 105, 108, 105, 116, 121], [115, 117, 114, 118, 105, 118, 111, 114], [102, 97, 109, 105, 108, 121], [115, 105, 99, 107, 110, 101, 115, 115], [100, 111, 119, 110], [117, 112], [104, 97, 108, 102], [101, 118, 101, 110]]
def wd (j : Nat) : List UInt8 := wds.getD j []
theorem wd_hit_kndL {j : Nat} {n : Int} (hj : j < 15) (hn : 0 < n) (h : tabI kndL ⟨(wd j).toArray⟩ = n) : nmI kndL n = wd j := by
 subst h
 rcases (show j = 0 \/ j = 1 \/ j = 2 \/ j = 3 \/ j = 4 \/ j = 5 \/ j = 6 \/ j = 7 \/ j = 8 \/ j = 9 \/ j = 10 \/ j = 11 \/ j = 12 \/ j = 13 \/ j = 14 by omega) with rfl | rfl | rfl | rfl | rfl | rfl | rfl | rfl | rfl | rfl | rfl | rfl | rfl | rfl | rfl <;> first | (exact absurd (show (0 : Int) < 0 from hn) (by decide)) | kernel_rfl
theorem wd_no_kndL {n : Int} (h : ∀ j, j < 15 -> ¬ tabI kndL ⟨(wd j).toArray⟩ = n) : nmI kndL n = [] := by
 refine nmI_no (fun i p hp => ?_);have hi : i < 6 := (List.getElem?_eq_some_iff.1 hp).1;have q := h (0 + i) (by omega)
 rcases (show i = 0 \/ i = 1 \/ i = 2 \/ i = 3 \/ i = 4 \/ i = 5 by omega) with rfl | rfl | rfl | rfl | rfl | rfl <;> (cases hp; exact fun e => q (Eq.trans (by kernel_rfl) e))
theorem wd_hit_benL {j : Nat} {n : Int} (hj : j < 15) (hn : 0 < n) (h : tabI benL ⟨(wd j).toArray⟩ = n) : nmI benL n = wd j := by
 subst h
 rcases (show j = 0 \/ j = 1 \/ j = 2 \/ j = 3 \/ j = 4 \/ j = 5 \/ j = 6 \/ j = 7 \/ j = 8 \/ j = 9 \/ j = 10 \/ j = 11 \/ j = 12 \/ j = 13 \/ j = 14 by omega) with rfl | rfl | rfl | rfl | rfl | rfl | rfl | rfl | rfl | rfl | rfl | rfl | rfl | rfl | rfl <;> first | (exact absurd (show (0 : Int) < 0 from hn) (by decide)) | kernel_rfl
theorem wd_no_benL {n : Int} (h : ∀ j, j < 15 -> ¬ tabI benL ⟨(wd j).toArray⟩ = n) : nmI benL n = [] := by
 refine nmI_no (fun i p hp => ?_);have hi : i < 5 := (List.getElem?_eq_some_iff.1 hp).1;have q := h (6 + i) (by omega)
 rcases (show i = 0 \/ i = 1 \/ i = 2 \/ i = 3 \/ i = 4 by omega) with rfl | rfl | rfl | rfl | rfl <;> (cases hp; exact fun e => q (Eq.trans (by kernel_rfl) e))
theorem wd_hit_modL {j : Nat} {n : Int} (hj : j < 15) (hn : 0 < n) (h : tabI modL ⟨(wd j).toArray⟩ = n) : nmI modL n = wd j := by
 subst h
 rcases (show j = 0 \/ j = 1 \/ j = 2 \/ j = 3 \/ j = 4 \/ j = 5 \/ j = 6 \/ j = 7 \/ j = 8 \/ j = 9 \/ j = 10 \/ j = 11 \/ j = 12 \/ j = 13 \/ j = 14 by omega) with rfl | rfl | rfl | rfl | rfl | rfl | rfl | rfl | rfl | rfl | rfl | rfl | rfl | rfl | rfl <;> first | (exact absurd (show (0 : Int) < 0 from hn) (by decide)) | kernel_rfl
theorem wd_no_modL {n : Int} (h : ∀ j, j < 15 -> ¬ tabI modL ⟨(wd j).toArray⟩ = n) : nmI modL n = [] := by
 refine nmI_no (fun i p hp => ?_);have hi : i < 4 := (List.getElem?_eq_some_iff.1 hp).1;have q := h (11 + i) (by omega)
 rcases (show i = 0 \/ i = 1 \/ i = 2 \/ i = 3 by omega) with rfl | rfl | rfl | rfl <;> (cases hp; exact fun e => q (Eq.trans (by kernel_rfl) e))
def WdAt (W : World) (g : Nat) : Prop := g < W.heap.size /\ ∀ j, j < 15 -> W.cell? ⟨g, j, none⟩ = some (.string ⟨(wd j).toArray⟩)
theorem WdAt.rel {W X : World} {g : Nat} (h : WdAt W g) (r : Rel W X) : WdAt X g := ⟨r.lt h.1, fun j hj => r.cell (h.2 j hj)⟩
theorem rword_all (N : Int) (l : List (List UInt8 × Int)) (hN : N = 1 /\ l = kndL \/ N = 2 /\ l = benL \/ N = 3 /\ l = modL) (n : Int) (w : World) : Calls prog 16 #[.int .i64 n, .int .i64 N] w fun e w' => e = .returned (.string ⟨(nmI l n).toArray⟩) /\ Rel w w' := by
 have HIT : Hid (∀ j, j < 15 -> 0 < n -> tabI l ⟨(wd j).toArray⟩ = n -> nmI l n = wd j) := by
  rcases hN with ⟨-, rfl⟩ | ⟨-, rfl⟩ | ⟨-, rfl⟩
  ·exact fun j a b c => wd_hit_kndL a b c
  ·exact fun j a b c => wd_hit_benL a b c
  ·exact fun j a b c => wd_hit_modL a b c
 have NO : Hid ((∀ j, j < 15 -> ¬ tabI l ⟨(wd j).toArray⟩ = n) -> nmI l n = []) := by
  rcases hN with ⟨-, rfl⟩ | ⟨-, rfl⟩ | ⟨-, rfl⟩
  ·exact wd_no_kndL
  ·exact wd_no_benL
  ·exact wd_no_modL
 have NG : Hid (¬ 0 < n -> nmI l n = []) := by
  rcases hN with ⟨-, rfl⟩ | ⟨-, rfl⟩ | ⟨-, rfl⟩
  ·exact (fun hn => nmI_no (fun i p hp => by have : p ∈ kndL := List.mem_of_getElem? hp; simp [kndL] at this; rcases this with rfl | rfl | rfl | rfl | rfl | rfl <;> (simp only []; omega)))
  ·exact (fun hn => nmI_no (fun i p hp => by have : p ∈ benL := List.mem_of_getElem? hp; simp [benL] at this; rcases this with rfl | rfl | rfl | rfl | rfl <;> (simp only []; omega)))
  ·exact (fun hn => nmI_no (fun i p hp => by have : p ∈ modL := List.mem_of_getElem? hp; simp [modL] at this; rcases this with rfl | rfl | rfl | rfl <;> (simp only []; omega)))
 have B := Blk.new w 9 #[.string ⟨#[118, 111, 108, 117, 110, 116, 97, 114, 121]⟩, .string ⟨#[115, 101, 114, 118, 105, 99, 101]⟩, .string ⟨#[117, 110, 101, 109, 112, 108, 111, 121, 101, 100]⟩, .string ⟨#[115, 105, 99, 107]⟩, .string ⟨#[99, 104, 105, 108, 100]⟩, .string ⟨#[114, 101, 115, 105, 100, 101, 110, 99, 101]⟩, .string ⟨#[111, 108, 100]⟩, .string ⟨#[100, 105, 115, 97, 98, 105, 108, 105, 116, 121]⟩, .string ⟨#[115, 117, 114, 118, 105, 118, 111, 114]⟩, .string ⟨#[102, 97, 109, 105, 108, 121]⟩, .string ⟨#[115, 105, 99, 107, 110, 101, 115, 115]⟩, .string ⟨#[100, 111, 119, 110]⟩, .string ⟨#[117, 112]⟩, .string ⟨#[104, 97, 108, 102]⟩, .string ⟨#[101, 118, 101, 110]⟩];have RB := Hj ((Rel.refl w).alloc (.cells #[.string ⟨#[118, 111, 108, 117, 110, 116, 97, 114, 121]⟩, .string ⟨#[115, 101, 114, 118, 105, 99, 101]⟩, .string ⟨#[117, 110, 101, 109, 112, 108, 111, 121, 101, 100]⟩, .string ⟨#[115, 105, 99, 107]⟩, .string ⟨#[99, 104, 105, 108, 100]⟩, .string ⟨#[114, 101, 115, 105, 100, 101, 110, 99, 101]⟩, .string ⟨#[111, 108, 100]⟩, .string ⟨#[100, 105, 115, 97, 98, 105, 108, 105, 116, 121]⟩, .string ⟨#[115, 117, 114, 118, 105, 118, 111, 114]⟩, .string ⟨#[102, 97, 109, 105, 108, 121]⟩, .string ⟨#[115, 105, 99, 107, 110, 101, 115, 115]⟩, .string ⟨#[100, 111, 119, 110]⟩, .string ⟨#[117, 112]⟩, .string ⟨#[104, 97, 108, 102]⟩, .string ⟨#[101, 118, 101, 110]⟩] 9))
 have T0 := Hj (show WdAt (w.alloc (.cells #[.string ⟨#[118, 111, 108, 117, 110, 116, 97, 114, 121]⟩, .string ⟨#[115, 101, 114, 118, 105, 99, 101]⟩, .string ⟨#[117, 110, 101, 109, 112, 108, 111, 121, 101, 100]⟩, .string ⟨#[115, 105, 99, 107]⟩, .string ⟨#[99, 104, 105, 108, 100]⟩, .string ⟨#[114, 101, 115, 105, 100, 101, 110, 99, 101]⟩, .string ⟨#[111, 108, 100]⟩, .string ⟨#[100, 105, 115, 97, 98, 105, 108, 105, 116, 121]⟩, .string ⟨#[115, 117, 114, 118, 105, 118, 111, 114]⟩, .string ⟨#[102, 97, 109, 105, 108, 121]⟩, .string ⟨#[115, 105, 99, 107, 110, 101, 115, 115]⟩, .string ⟨#[100, 111, 119, 110]⟩, .string ⟨#[117, 112]⟩, .string ⟨#[104, 97, 108, 102]⟩, .string ⟨#[101, 118, 101, 110]⟩] 9)) w.heap.size from ⟨B.lt, fun j hj => by
  rcases (show j = 0 \/ j = 1 \/ j = 2 \/ j = 3 \/ j = 4 \/ j = 5 \/ j = 6 \/ j = 7 \/ j = 8 \/ j = 9 \/ j = 10 \/ j = 11 \/ j = 12 \/ j = 13 \/ j = 14 by omega) with rfl | rfl | rfl | rfl | rfl | rfl | rfl | rfl | rfl | rfl | rfl | rfl | rfl | rfl | rfl <;> exact B.c rfl⟩)
 have hg : w.heap.size < (w.alloc (.cells #[.string ⟨#[118, 111, 108, 117, 110, 116, 97, 114, 121]⟩, .string ⟨#[115, 101, 114, 118, 105, 99, 101]⟩, .string ⟨#[117, 110, 101, 109, 112, 108, 111, 121, 101, 100]⟩, .string ⟨#[115, 105, 99, 107]⟩, .string ⟨#[99, 104, 105, 108, 100]⟩, .string ⟨#[114, 101, 115, 105, 100, 101, 110, 99, 101]⟩, .string ⟨#[111, 108, 100]⟩, .string ⟨#[100, 105, 115, 97, 98, 105, 108, 105, 116, 121]⟩, .string ⟨#[115, 117, 114, 118, 105, 118, 111, 114]⟩, .string ⟨#[102, 97, 109, 105, 108, 121]⟩, .string ⟨#[115, 105, 99, 107, 110, 101, 115, 115]⟩, .string ⟨#[100, 111, 119, 110]⟩, .string ⟨#[117, 112]⟩, .string ⟨#[104, 97, 108, 102]⟩, .string ⟨#[101, 118, 101, 110]⟩] 9)).heap.size := B.lt;clear B
 rcases hN with ⟨rfl, hl⟩ | ⟨rfl, hl⟩ | ⟨rfl, hl⟩
 have CC := Hj rKind_any
 rotate_left
 have CC := Hj rBenefit_any
 rotate_left
 have CC := Hj rMode_any
 rotate_left
 all_goals
  rw [<- hl] at CC;clear hl;by_cases hn : 0 < n
  ·have hn' : decide (0 < n) = true := decide_eq_true hn;go_enter func16, ntmps16;go_wp2_with fail
   go_loopw [6] (fun i wx => ∃ j : Nat, j <= 15 /\ i = .int .i64 j /\ Hid (∀ q, q < j -> ¬ tabI l ⟨(wd q).toArray⟩ = n) /\ Hid (Rel w wx /\ WdAt wx w.heap.size)) (fun i _ => 15 - (intOf i).toNat)
   case atStart => exact ⟨0, by omega, rfl, (fun q hq => by omega), RB.out, T0.out⟩
   case round =>
    obtain ⟨j, hk, rfl, hA, hR⟩ := hrel;by_cases hlt : j < 15
    ·have c0 := hR.out.2.2 j hlt;have C := Hj (CC.out ⟨(wd j).toArray⟩ wr);by_cases hy : tabI l ⟨(wd j).toArray⟩ = n
     ·have fin : Hid (nmI l n = wd j) := HIT.out j hlt hn hy;rw [hy] at C;clear hy;generalize wd j = x at *;go_wp2_with fail;refine C.out.mono ?_;rintro e w1 ⟨rfl, rfl⟩;go_wp2;go_ret;exact ⟨by rw [fin.out]; rfl, hR.out.1⟩
     ·have fin : Hid (∀ q, q < j + 1 -> ¬ tabI l ⟨(wd q).toArray⟩ = n) := fun q hq => by
       rcases Nat.lt_or_ge q j with h | h
       ·exact hA.out q h
       ·obtain rfl : q = j := by omega
        exact hy
      obtain ⟨z, hz⟩ : ∃ z, tabI l ⟨(wd j).toArray⟩ = z := ⟨_, rfl⟩;rw [hz] at C hy;have ey : (z == n) = false := by rw [zn]; exact hy
      clear hz hy;generalize wd j = x at *;go_wp2_with fail;refine C.out.mono ?_;rintro e w1 ⟨rfl, rfl⟩;go_wp2
      go_roundw
      case rel => exact ⟨j + 1, by omega, by go_num, fin, hR.out⟩
      case measure => simp [intOf]; omega
    ·obtain rfl : j = 15 := by omega
     have fin : Hid (nmI l n = []) := NO.out hA.out;go_wp2;go_ret;exact ⟨by rw [fin.out]; rfl, hR.out.1⟩
  ·have hn' : decide (0 < n) = false := decide_eq_false hn;have fin : Hid (nmI l n = []) := NG.out hn;go_enter func16, ntmps16;go_wp2_with fail
   go_loopw [6] (fun i wx => i = .int .i64 0 /\ Hid (Rel w wx)) (fun i _ => 0)
   case atStart => exact ⟨rfl, RB.out⟩
   case round =>
    obtain ⟨rfl, hR⟩ := hrel;go_wp2;go_ret;exact ⟨by rw [fin.out]; rfl, hR.out⟩
theorem rword1_any (n : Int) (w : World) : Calls prog 16 #[.int .i64 n, .int .i64 1] w fun e w' => e = .returned (.string ⟨(nmI kndL n).toArray⟩) /\ Rel w w' := rword_all 1 _ (.inl ⟨rfl, rfl⟩) n w
theorem rword2_any (n : Int) (w : World) : Calls prog 16 #[.int .i64 n, .int .i64 2] w fun e w' => e = .returned (.string ⟨(nmI benL n).toArray⟩) /\ Rel w w' := rword_all 2 _ (.inr (.inl ⟨rfl, rfl⟩)) n w
theorem rword3_any (n : Int) (w : World) : Calls prog 16 #[.int .i64 n, .int .i64 3] w fun e w' => e = .returned (.string ⟨(nmI modL n).toArray⟩) /\ Rel w w' := rword_all 3 _ (.inr (.inr ⟨rfl, rfl⟩)) n w
end Go.Proofs.YthmlhheceihcbaaGreatDoor

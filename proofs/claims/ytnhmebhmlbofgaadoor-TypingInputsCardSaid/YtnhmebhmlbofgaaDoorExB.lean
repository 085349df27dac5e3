/- Contracts of arity, Args, keyword, isName, IsName and Input on both sides. No conditions but those printed. -/
import Derived.Test.YtnhmebhmlbofgaaDoorExA
import Derived.Test.YtnhmebhmlbofgaaDoorTokA
namespace Go.Proofs.YtnhmebhmlbofgaaDoor
open Go.RowKit Cal Str Tok Frac Txt Tree
attribute [local go_sem] calmUpon
set_option linter.unusedVariables false
set_option linter.unusedSimpArgs false

set_option maxHeartbeats 4000000 in
theorem arity_any (op : Int) (w : World) : Calls Tryd.prog 64 #[.int .i64 op] w fun e w' => e = .returned (.int .i64 (arI op)) ∧ w = w' := by
  rcases (show op = 1 ∨ op = 2 ∨ op = 3 ∨ op = 4 ∨ op = 5 ∨ op = 6 ∨ op = 21 ∨ (7 ≤ op ∧ op ≤ 20) ∨ op < 1 ∨ 21 < op by omega) with rfl | rfl | rfl | rfl | rfl | rfl | rfl | ⟨h, h2⟩ | h | h
  · go_enter Tryd.func64, Tryd.ntmps64
    go_wp2
    go_ret
    exact ⟨rfl, rfl⟩
  · go_enter Tryd.func64, Tryd.ntmps64
    go_wp2
    go_ret
    exact ⟨rfl, rfl⟩
  · go_enter Tryd.func64, Tryd.ntmps64
    go_wp2
    go_ret
    exact ⟨rfl, rfl⟩
  · go_enter Tryd.func64, Tryd.ntmps64
    go_wp2
    go_ret
    exact ⟨rfl, rfl⟩
  · go_enter Tryd.func64, Tryd.ntmps64
    go_wp2
    go_ret
    exact ⟨rfl, rfl⟩
  · go_enter Tryd.func64, Tryd.ntmps64
    go_wp2
    go_ret
    exact ⟨rfl, rfl⟩
  · go_enter Tryd.func64, Tryd.ntmps64
    go_wp2
    go_ret
    exact ⟨rfl, rfl⟩
  · have e1 : (op == 1) = false := by rw [beq_eq_false_iff_ne]; omega
    have e2 : (op == 2) = false := by rw [beq_eq_false_iff_ne]; omega
    have e3 : (op == 3) = false := by rw [beq_eq_false_iff_ne]; omega
    have e4 : (op == 4) = false := by rw [beq_eq_false_iff_ne]; omega
    have e5 : (op == 5) = false := by rw [beq_eq_false_iff_ne]; omega
    have e6 : (op == 6) = false := by rw [beq_eq_false_iff_ne]; omega
    have e21 : (op == 21) = false := by rw [beq_eq_false_iff_ne]; omega
    have l0 : decide (1 ≤ op) = true := decide_eq_true (by omega)
    have u0 : decide (op ≤ 3) = false := decide_eq_false (by omega)
    have l1 : decide (4 ≤ op) = true := decide_eq_true (by omega)
    have u1 : decide (op ≤ 6) = false := decide_eq_false (by omega)
    have l2 : decide (7 ≤ op) = true := decide_eq_true (by omega)
    have u2 : decide (op ≤ 20) = true := decide_eq_true (by omega)
    have ea : arI op = 2 := by
      unfold arI; repeat' split
      all_goals omega
    rw [ea]
    clear ea
    go_enter Tryd.func64, Tryd.ntmps64
    go_wp2
    go_ret
    exact ⟨rfl, rfl⟩
  · have e1 : (op == 1) = false := by rw [beq_eq_false_iff_ne]; omega
    have e2 : (op == 2) = false := by rw [beq_eq_false_iff_ne]; omega
    have e3 : (op == 3) = false := by rw [beq_eq_false_iff_ne]; omega
    have e4 : (op == 4) = false := by rw [beq_eq_false_iff_ne]; omega
    have e5 : (op == 5) = false := by rw [beq_eq_false_iff_ne]; omega
    have e6 : (op == 6) = false := by rw [beq_eq_false_iff_ne]; omega
    have e21 : (op == 21) = false := by rw [beq_eq_false_iff_ne]; omega
    have l0 : decide (1 ≤ op) = false := decide_eq_false (by omega)
    have u0 : decide (op ≤ 3) = true := decide_eq_true (by omega)
    have l1 : decide (4 ≤ op) = false := decide_eq_false (by omega)
    have u1 : decide (op ≤ 6) = true := decide_eq_true (by omega)
    have l2 : decide (7 ≤ op) = false := decide_eq_false (by omega)
    have u2 : decide (op ≤ 20) = true := decide_eq_true (by omega)
    have ea : arI op = -1 := by
      unfold arI; repeat' split
      all_goals omega
    rw [ea]
    clear ea
    go_enter Tryd.func64, Tryd.ntmps64
    go_wp2
    go_ret
    exact ⟨rfl, rfl⟩
  · have e1 : (op == 1) = false := by rw [beq_eq_false_iff_ne]; omega
    have e2 : (op == 2) = false := by rw [beq_eq_false_iff_ne]; omega
    have e3 : (op == 3) = false := by rw [beq_eq_false_iff_ne]; omega
    have e4 : (op == 4) = false := by rw [beq_eq_false_iff_ne]; omega
    have e5 : (op == 5) = false := by rw [beq_eq_false_iff_ne]; omega
    have e6 : (op == 6) = false := by rw [beq_eq_false_iff_ne]; omega
    have e21 : (op == 21) = false := by rw [beq_eq_false_iff_ne]; omega
    have l0 : decide (1 ≤ op) = true := decide_eq_true (by omega)
    have u0 : decide (op ≤ 3) = false := decide_eq_false (by omega)
    have l1 : decide (4 ≤ op) = true := decide_eq_true (by omega)
    have u1 : decide (op ≤ 6) = false := decide_eq_false (by omega)
    have l2 : decide (7 ≤ op) = true := decide_eq_true (by omega)
    have u2 : decide (op ≤ 20) = false := decide_eq_false (by omega)
    have ea : arI op = -1 := by
      unfold arI; repeat' split
      all_goals omega
    rw [ea]
    clear ea
    go_enter Tryd.func64, Tryd.ntmps64
    go_wp2
    go_ret
    exact ⟨rfl, rfl⟩

set_option maxHeartbeats 4000000 in
theorem Args_any (op : Int) (w : World) : Calls Tryd.prog 17 #[.int .i64 op] w fun e w' => e = .returned (.int .i64 (arI op)) ∧ w = w' := by
  rcases (show op = 1 ∨ op = 2 ∨ op = 3 ∨ op = 4 ∨ op = 5 ∨ op = 6 ∨ op = 21 ∨ (7 ≤ op ∧ op ≤ 20) ∨ op < 1 ∨ 21 < op by omega) with rfl | rfl | rfl | rfl | rfl | rfl | rfl | ⟨h, h2⟩ | h | h
  · go_enter Tryd.func17, Tryd.ntmps17
    go_wp2
    go_ret
    exact ⟨rfl, rfl⟩
  · go_enter Tryd.func17, Tryd.ntmps17
    go_wp2
    go_ret
    exact ⟨rfl, rfl⟩
  · go_enter Tryd.func17, Tryd.ntmps17
    go_wp2
    go_ret
    exact ⟨rfl, rfl⟩
  · go_enter Tryd.func17, Tryd.ntmps17
    go_wp2
    go_ret
    exact ⟨rfl, rfl⟩
  · go_enter Tryd.func17, Tryd.ntmps17
    go_wp2
    go_ret
    exact ⟨rfl, rfl⟩
  · go_enter Tryd.func17, Tryd.ntmps17
    go_wp2
    go_ret
    exact ⟨rfl, rfl⟩
  · go_enter Tryd.func17, Tryd.ntmps17
    go_wp2
    go_ret
    exact ⟨rfl, rfl⟩
  · have e1 : (op == 1) = false := by rw [beq_eq_false_iff_ne]; omega
    have e2 : (op == 2) = false := by rw [beq_eq_false_iff_ne]; omega
    have e3 : (op == 3) = false := by rw [beq_eq_false_iff_ne]; omega
    have e4 : (op == 4) = false := by rw [beq_eq_false_iff_ne]; omega
    have e5 : (op == 5) = false := by rw [beq_eq_false_iff_ne]; omega
    have e6 : (op == 6) = false := by rw [beq_eq_false_iff_ne]; omega
    have e21 : (op == 21) = false := by rw [beq_eq_false_iff_ne]; omega
    have l0 : decide (1 ≤ op) = true := decide_eq_true (by omega)
    have u0 : decide (op ≤ 3) = false := decide_eq_false (by omega)
    have l1 : decide (4 ≤ op) = true := decide_eq_true (by omega)
    have u1 : decide (op ≤ 6) = false := decide_eq_false (by omega)
    have l2 : decide (7 ≤ op) = true := decide_eq_true (by omega)
    have u2 : decide (op ≤ 20) = true := decide_eq_true (by omega)
    have ea : arI op = 2 := by
      unfold arI; repeat' split
      all_goals omega
    rw [ea]
    clear ea
    go_enter Tryd.func17, Tryd.ntmps17
    go_wp2
    go_ret
    exact ⟨rfl, rfl⟩
  · have e1 : (op == 1) = false := by rw [beq_eq_false_iff_ne]; omega
    have e2 : (op == 2) = false := by rw [beq_eq_false_iff_ne]; omega
    have e3 : (op == 3) = false := by rw [beq_eq_false_iff_ne]; omega
    have e4 : (op == 4) = false := by rw [beq_eq_false_iff_ne]; omega
    have e5 : (op == 5) = false := by rw [beq_eq_false_iff_ne]; omega
    have e6 : (op == 6) = false := by rw [beq_eq_false_iff_ne]; omega
    have e21 : (op == 21) = false := by rw [beq_eq_false_iff_ne]; omega
    have l0 : decide (1 ≤ op) = false := decide_eq_false (by omega)
    have u0 : decide (op ≤ 3) = true := decide_eq_true (by omega)
    have l1 : decide (4 ≤ op) = false := decide_eq_false (by omega)
    have u1 : decide (op ≤ 6) = true := decide_eq_true (by omega)
    have l2 : decide (7 ≤ op) = false := decide_eq_false (by omega)
    have u2 : decide (op ≤ 20) = true := decide_eq_true (by omega)
    have ea : arI op = -1 := by
      unfold arI; repeat' split
      all_goals omega
    rw [ea]
    clear ea
    go_enter Tryd.func17, Tryd.ntmps17
    go_wp2
    go_ret
    exact ⟨rfl, rfl⟩
  · have e1 : (op == 1) = false := by rw [beq_eq_false_iff_ne]; omega
    have e2 : (op == 2) = false := by rw [beq_eq_false_iff_ne]; omega
    have e3 : (op == 3) = false := by rw [beq_eq_false_iff_ne]; omega
    have e4 : (op == 4) = false := by rw [beq_eq_false_iff_ne]; omega
    have e5 : (op == 5) = false := by rw [beq_eq_false_iff_ne]; omega
    have e6 : (op == 6) = false := by rw [beq_eq_false_iff_ne]; omega
    have e21 : (op == 21) = false := by rw [beq_eq_false_iff_ne]; omega
    have l0 : decide (1 ≤ op) = true := decide_eq_true (by omega)
    have u0 : decide (op ≤ 3) = false := decide_eq_false (by omega)
    have l1 : decide (4 ≤ op) = true := decide_eq_true (by omega)
    have u1 : decide (op ≤ 6) = false := decide_eq_false (by omega)
    have l2 : decide (7 ≤ op) = true := decide_eq_true (by omega)
    have u2 : decide (op ≤ 20) = false := decide_eq_false (by omega)
    have ea : arI op = -1 := by
      unfold arI; repeat' split
      all_goals omega
    rw [ea]
    clear ea
    go_enter Tryd.func17, Tryd.ntmps17
    go_wp2
    go_ret
    exact ⟨rfl, rfl⟩

theorem str_ne {s : ByteArray} {l : List UInt8} (h : ¬ s = ⟨l.toArray⟩) : (s.toList == l) = false := by
  cases hx : (s.toList == l)
  · rfl
  · rw [beq_iff_eq] at hx
    exact absurd (by apply ba_ext; rw [mk_list, ← hx, Lib.toList_data]) h

set_option maxRecDepth 20000 in
set_option maxHeartbeats 8000000 in
theorem keyword_any (s : ByteArray) (w : World) : Calls Tryd.prog 75 #[.string s] w fun e w' => e = .returned (.bool (kwB s)) ∧ w = w' := by
  by_cases h0 : s = ⟨#[97, 110, 100]⟩
  · subst h0
    rw [show kwB ⟨#[97, 110, 100]⟩ = true by kernel_rfl]
    go_enter Tryd.func75, Tryd.ntmps75
    go_wp2
    go_ret
    exact ⟨rfl, rfl⟩
  by_cases h1 : s = ⟨#[98, 101, 115, 116]⟩
  · subst h1
    rw [show kwB ⟨#[98, 101, 115, 116]⟩ = true by kernel_rfl]
    go_enter Tryd.func75, Tryd.ntmps75
    go_wp2
    go_ret
    exact ⟨rfl, rfl⟩
  by_cases h2 : s = ⟨#[98, 121]⟩
  · subst h2
    rw [show kwB ⟨#[98, 121]⟩ = true by kernel_rfl]
    go_enter Tryd.func75, Tryd.ntmps75
    go_wp2
    go_ret
    exact ⟨rfl, rfl⟩
  by_cases h3 : s = ⟨#[99, 114, 101, 100, 105, 116]⟩
  · subst h3
    rw [show kwB ⟨#[99, 114, 101, 100, 105, 116]⟩ = true by kernel_rfl]
    go_enter Tryd.func75, Tryd.ntmps75
    go_wp2
    go_ret
    exact ⟨rfl, rfl⟩
  by_cases h4 : s = ⟨#[99, 117, 114, 114, 101, 110, 99, 121]⟩
  · subst h4
    rw [show kwB ⟨#[99, 117, 114, 114, 101, 110, 99, 121]⟩ = true by kernel_rfl]
    go_enter Tryd.func75, Tryd.ntmps75
    go_wp2
    go_ret
    exact ⟨rfl, rfl⟩
  by_cases h5 : s = ⟨#[101, 108, 115, 101]⟩
  · subst h5
    rw [show kwB ⟨#[101, 108, 115, 101]⟩ = true by kernel_rfl]
    go_enter Tryd.func75, Tryd.ntmps75
    go_wp2
    go_ret
    exact ⟨rfl, rfl⟩
  by_cases h6 : s = ⟨#[102, 108, 111, 111, 114]⟩
  · subst h6
    rw [show kwB ⟨#[102, 108, 111, 111, 114]⟩ = true by kernel_rfl]
    go_enter Tryd.func75, Tryd.ntmps75
    go_wp2
    go_ret
    exact ⟨rfl, rfl⟩
  by_cases h7 : s = ⟨#[102, 114, 111, 109]⟩
  · subst h7
    rw [show kwB ⟨#[102, 114, 111, 109]⟩ = true by kernel_rfl]
    go_enter Tryd.func75, Tryd.ntmps75
    go_wp2
    go_ret
    exact ⟨rfl, rfl⟩
  by_cases h8 : s = ⟨#[103, 114, 97, 110, 116]⟩
  · subst h8
    rw [show kwB ⟨#[103, 114, 97, 110, 116]⟩ = true by kernel_rfl]
    go_enter Tryd.func75, Tryd.ntmps75
    go_wp2
    go_ret
    exact ⟨rfl, rfl⟩
  by_cases h9 : s = ⟨#[105, 102]⟩
  · subst h9
    rw [show kwB ⟨#[105, 102]⟩ = true by kernel_rfl]
    go_enter Tryd.func75, Tryd.ntmps75
    go_wp2
    go_ret
    exact ⟨rfl, rfl⟩
  by_cases h10 : s = ⟨#[105, 110, 100, 101, 120]⟩
  · subst h10
    rw [show kwB ⟨#[105, 110, 100, 101, 120]⟩ = true by kernel_rfl]
    go_enter Tryd.func75, Tryd.ntmps75
    go_wp2
    go_ret
    exact ⟨rfl, rfl⟩
  by_cases h11 : s = ⟨#[108, 101, 116]⟩
  · subst h11
    rw [show kwB ⟨#[108, 101, 116]⟩ = true by kernel_rfl]
    go_enter Tryd.func75, Tryd.ntmps75
    go_wp2
    go_ret
    exact ⟨rfl, rfl⟩
  by_cases h12 : s = ⟨#[108, 105, 109, 105, 116]⟩
  · subst h12
    rw [show kwB ⟨#[108, 105, 109, 105, 116]⟩ = true by kernel_rfl]
    go_enter Tryd.func75, Tryd.ntmps75
    go_wp2
    go_ret
    exact ⟨rfl, rfl⟩
  by_cases h13 : s = ⟨#[109, 97, 120]⟩
  · subst h13
    rw [show kwB ⟨#[109, 97, 120]⟩ = true by kernel_rfl]
    go_enter Tryd.func75, Tryd.ntmps75
    go_wp2
    go_ret
    exact ⟨rfl, rfl⟩
  by_cases h14 : s = ⟨#[109, 105, 110]⟩
  · subst h14
    rw [show kwB ⟨#[109, 105, 110]⟩ = true by kernel_rfl]
    go_enter Tryd.func75, Tryd.ntmps75
    go_wp2
    go_ret
    exact ⟨rfl, rfl⟩
  by_cases h15 : s = ⟨#[110, 111, 116]⟩
  · subst h15
    rw [show kwB ⟨#[110, 111, 116]⟩ = true by kernel_rfl]
    go_enter Tryd.func75, Tryd.ntmps75
    go_wp2
    go_ret
    exact ⟨rfl, rfl⟩
  by_cases h16 : s = ⟨#[111, 114]⟩
  · subst h16
    rw [show kwB ⟨#[111, 114]⟩ = true by kernel_rfl]
    go_enter Tryd.func75, Tryd.ntmps75
    go_wp2
    go_ret
    exact ⟨rfl, rfl⟩
  by_cases h17 : s = ⟨#[112, 97, 121]⟩
  · subst h17
    rw [show kwB ⟨#[112, 97, 121]⟩ = true by kernel_rfl]
    go_enter Tryd.func75, Tryd.ntmps75
    go_wp2
    go_ret
    exact ⟨rfl, rfl⟩
  by_cases h18 : s = ⟨#[114, 101, 100, 117, 99, 101]⟩
  · subst h18
    rw [show kwB ⟨#[114, 101, 100, 117, 99, 101]⟩ = true by kernel_rfl]
    go_enter Tryd.func75, Tryd.ntmps75
    go_wp2
    go_ret
    exact ⟨rfl, rfl⟩
  by_cases h19 : s = ⟨#[114, 111, 117, 110, 100]⟩
  · subst h19
    rw [show kwB ⟨#[114, 111, 117, 110, 100]⟩ = true by kernel_rfl]
    go_enter Tryd.func75, Tryd.ntmps75
    go_wp2
    go_ret
    exact ⟨rfl, rfl⟩
  by_cases h20 : s = ⟨#[115, 116, 97, 116, 117, 116, 101]⟩
  · subst h20
    rw [show kwB ⟨#[115, 116, 97, 116, 117, 116, 101]⟩ = true by kernel_rfl]
    go_enter Tryd.func75, Tryd.ntmps75
    go_wp2
    go_ret
    exact ⟨rfl, rfl⟩
  by_cases h21 : s = ⟨#[116, 104, 101, 110]⟩
  · subst h21
    rw [show kwB ⟨#[116, 104, 101, 110]⟩ = true by kernel_rfl]
    go_enter Tryd.func75, Tryd.ntmps75
    go_wp2
    go_ret
    exact ⟨rfl, rfl⟩
  have n0 : (s.toList == [97, 110, 100]) = false := str_ne h0
  have m0 := n0
  rw [Lib.toList_data] at m0
  have n1 : (s.toList == [98, 101, 115, 116]) = false := str_ne h1
  have m1 := n1
  rw [Lib.toList_data] at m1
  have n2 : (s.toList == [98, 121]) = false := str_ne h2
  have m2 := n2
  rw [Lib.toList_data] at m2
  have n3 : (s.toList == [99, 114, 101, 100, 105, 116]) = false := str_ne h3
  have m3 := n3
  rw [Lib.toList_data] at m3
  have n4 : (s.toList == [99, 117, 114, 114, 101, 110, 99, 121]) = false := str_ne h4
  have m4 := n4
  rw [Lib.toList_data] at m4
  have n5 : (s.toList == [101, 108, 115, 101]) = false := str_ne h5
  have m5 := n5
  rw [Lib.toList_data] at m5
  have n6 : (s.toList == [102, 108, 111, 111, 114]) = false := str_ne h6
  have m6 := n6
  rw [Lib.toList_data] at m6
  have n7 : (s.toList == [102, 114, 111, 109]) = false := str_ne h7
  have m7 := n7
  rw [Lib.toList_data] at m7
  have n8 : (s.toList == [103, 114, 97, 110, 116]) = false := str_ne h8
  have m8 := n8
  rw [Lib.toList_data] at m8
  have n9 : (s.toList == [105, 102]) = false := str_ne h9
  have m9 := n9
  rw [Lib.toList_data] at m9
  have n10 : (s.toList == [105, 110, 100, 101, 120]) = false := str_ne h10
  have m10 := n10
  rw [Lib.toList_data] at m10
  have n11 : (s.toList == [108, 101, 116]) = false := str_ne h11
  have m11 := n11
  rw [Lib.toList_data] at m11
  have n12 : (s.toList == [108, 105, 109, 105, 116]) = false := str_ne h12
  have m12 := n12
  rw [Lib.toList_data] at m12
  have n13 : (s.toList == [109, 97, 120]) = false := str_ne h13
  have m13 := n13
  rw [Lib.toList_data] at m13
  have n14 : (s.toList == [109, 105, 110]) = false := str_ne h14
  have m14 := n14
  rw [Lib.toList_data] at m14
  have n15 : (s.toList == [110, 111, 116]) = false := str_ne h15
  have m15 := n15
  rw [Lib.toList_data] at m15
  have n16 : (s.toList == [111, 114]) = false := str_ne h16
  have m16 := n16
  rw [Lib.toList_data] at m16
  have n17 : (s.toList == [112, 97, 121]) = false := str_ne h17
  have m17 := n17
  rw [Lib.toList_data] at m17
  have n18 : (s.toList == [114, 101, 100, 117, 99, 101]) = false := str_ne h18
  have m18 := n18
  rw [Lib.toList_data] at m18
  have n19 : (s.toList == [114, 111, 117, 110, 100]) = false := str_ne h19
  have m19 := n19
  rw [Lib.toList_data] at m19
  have n20 : (s.toList == [115, 116, 97, 116, 117, 116, 101]) = false := str_ne h20
  have m20 := n20
  rw [Lib.toList_data] at m20
  have n21 : (s.toList == [116, 104, 101, 110]) = false := str_ne h21
  have m21 := n21
  rw [Lib.toList_data] at m21
  have hz := (by unfold kwB kws; simp only [List.any_cons, List.any_nil, m0, m1, m2, m3, m4, m5, m6, m7, m8, m9, m10, m11, m12, m13, m14, m15, m16, m17, m18, m19, m20, m21]; rfl : kwB s = false)
  rw [hz]
  clear hz h0 m0 h1 m1 h2 m2 h3 m3 h4 m4 h5 m5 h6 m6 h7 m7 h8 m8 h9 m9 h10 m10 h11 m11 h12 m12 h13 m13 h14 m14 h15 m15 h16 m16 h17 m17 h18 m18 h19 m19 h20 m20 h21 m21
  go_enter Tryd.func75, Tryd.ntmps75
  go_wp2
  go_ret
  exact ⟨rfl, rfl⟩

set_option maxRecDepth 20000 in
set_option maxHeartbeats 8000000 in
theorem rkeyword_any (s : ByteArray) (w : World) : Calls Tryd.prog 53 #[.string s] w fun e w' => e = .returned (.bool (kwB s)) ∧ w = w' := by
  by_cases h0 : s = ⟨#[97, 110, 100]⟩
  · subst h0
    rw [show kwB ⟨#[97, 110, 100]⟩ = true by kernel_rfl]
    go_enter Tryd.func53, Tryd.ntmps53
    go_wp2
    go_ret
    exact ⟨rfl, rfl⟩
  by_cases h1 : s = ⟨#[98, 101, 115, 116]⟩
  · subst h1
    rw [show kwB ⟨#[98, 101, 115, 116]⟩ = true by kernel_rfl]
    go_enter Tryd.func53, Tryd.ntmps53
    go_wp2
    go_ret
    exact ⟨rfl, rfl⟩
  by_cases h2 : s = ⟨#[98, 121]⟩
  · subst h2
    rw [show kwB ⟨#[98, 121]⟩ = true by kernel_rfl]
    go_enter Tryd.func53, Tryd.ntmps53
    go_wp2
    go_ret
    exact ⟨rfl, rfl⟩
  by_cases h3 : s = ⟨#[99, 114, 101, 100, 105, 116]⟩
  · subst h3
    rw [show kwB ⟨#[99, 114, 101, 100, 105, 116]⟩ = true by kernel_rfl]
    go_enter Tryd.func53, Tryd.ntmps53
    go_wp2
    go_ret
    exact ⟨rfl, rfl⟩
  by_cases h4 : s = ⟨#[99, 117, 114, 114, 101, 110, 99, 121]⟩
  · subst h4
    rw [show kwB ⟨#[99, 117, 114, 114, 101, 110, 99, 121]⟩ = true by kernel_rfl]
    go_enter Tryd.func53, Tryd.ntmps53
    go_wp2
    go_ret
    exact ⟨rfl, rfl⟩
  by_cases h5 : s = ⟨#[101, 108, 115, 101]⟩
  · subst h5
    rw [show kwB ⟨#[101, 108, 115, 101]⟩ = true by kernel_rfl]
    go_enter Tryd.func53, Tryd.ntmps53
    go_wp2
    go_ret
    exact ⟨rfl, rfl⟩
  by_cases h6 : s = ⟨#[102, 108, 111, 111, 114]⟩
  · subst h6
    rw [show kwB ⟨#[102, 108, 111, 111, 114]⟩ = true by kernel_rfl]
    go_enter Tryd.func53, Tryd.ntmps53
    go_wp2
    go_ret
    exact ⟨rfl, rfl⟩
  by_cases h7 : s = ⟨#[102, 114, 111, 109]⟩
  · subst h7
    rw [show kwB ⟨#[102, 114, 111, 109]⟩ = true by kernel_rfl]
    go_enter Tryd.func53, Tryd.ntmps53
    go_wp2
    go_ret
    exact ⟨rfl, rfl⟩
  by_cases h8 : s = ⟨#[103, 114, 97, 110, 116]⟩
  · subst h8
    rw [show kwB ⟨#[103, 114, 97, 110, 116]⟩ = true by kernel_rfl]
    go_enter Tryd.func53, Tryd.ntmps53
    go_wp2
    go_ret
    exact ⟨rfl, rfl⟩
  by_cases h9 : s = ⟨#[105, 102]⟩
  · subst h9
    rw [show kwB ⟨#[105, 102]⟩ = true by kernel_rfl]
    go_enter Tryd.func53, Tryd.ntmps53
    go_wp2
    go_ret
    exact ⟨rfl, rfl⟩
  by_cases h10 : s = ⟨#[105, 110, 100, 101, 120]⟩
  · subst h10
    rw [show kwB ⟨#[105, 110, 100, 101, 120]⟩ = true by kernel_rfl]
    go_enter Tryd.func53, Tryd.ntmps53
    go_wp2
    go_ret
    exact ⟨rfl, rfl⟩
  by_cases h11 : s = ⟨#[108, 101, 116]⟩
  · subst h11
    rw [show kwB ⟨#[108, 101, 116]⟩ = true by kernel_rfl]
    go_enter Tryd.func53, Tryd.ntmps53
    go_wp2
    go_ret
    exact ⟨rfl, rfl⟩
  by_cases h12 : s = ⟨#[108, 105, 109, 105, 116]⟩
  · subst h12
    rw [show kwB ⟨#[108, 105, 109, 105, 116]⟩ = true by kernel_rfl]
    go_enter Tryd.func53, Tryd.ntmps53
    go_wp2
    go_ret
    exact ⟨rfl, rfl⟩
  by_cases h13 : s = ⟨#[109, 97, 120]⟩
  · subst h13
    rw [show kwB ⟨#[109, 97, 120]⟩ = true by kernel_rfl]
    go_enter Tryd.func53, Tryd.ntmps53
    go_wp2
    go_ret
    exact ⟨rfl, rfl⟩
  by_cases h14 : s = ⟨#[109, 105, 110]⟩
  · subst h14
    rw [show kwB ⟨#[109, 105, 110]⟩ = true by kernel_rfl]
    go_enter Tryd.func53, Tryd.ntmps53
    go_wp2
    go_ret
    exact ⟨rfl, rfl⟩
  by_cases h15 : s = ⟨#[110, 111, 116]⟩
  · subst h15
    rw [show kwB ⟨#[110, 111, 116]⟩ = true by kernel_rfl]
    go_enter Tryd.func53, Tryd.ntmps53
    go_wp2
    go_ret
    exact ⟨rfl, rfl⟩
  by_cases h16 : s = ⟨#[111, 114]⟩
  · subst h16
    rw [show kwB ⟨#[111, 114]⟩ = true by kernel_rfl]
    go_enter Tryd.func53, Tryd.ntmps53
    go_wp2
    go_ret
    exact ⟨rfl, rfl⟩
  by_cases h17 : s = ⟨#[112, 97, 121]⟩
  · subst h17
    rw [show kwB ⟨#[112, 97, 121]⟩ = true by kernel_rfl]
    go_enter Tryd.func53, Tryd.ntmps53
    go_wp2
    go_ret
    exact ⟨rfl, rfl⟩
  by_cases h18 : s = ⟨#[114, 101, 100, 117, 99, 101]⟩
  · subst h18
    rw [show kwB ⟨#[114, 101, 100, 117, 99, 101]⟩ = true by kernel_rfl]
    go_enter Tryd.func53, Tryd.ntmps53
    go_wp2
    go_ret
    exact ⟨rfl, rfl⟩
  by_cases h19 : s = ⟨#[114, 111, 117, 110, 100]⟩
  · subst h19
    rw [show kwB ⟨#[114, 111, 117, 110, 100]⟩ = true by kernel_rfl]
    go_enter Tryd.func53, Tryd.ntmps53
    go_wp2
    go_ret
    exact ⟨rfl, rfl⟩
  by_cases h20 : s = ⟨#[115, 116, 97, 116, 117, 116, 101]⟩
  · subst h20
    rw [show kwB ⟨#[115, 116, 97, 116, 117, 116, 101]⟩ = true by kernel_rfl]
    go_enter Tryd.func53, Tryd.ntmps53
    go_wp2
    go_ret
    exact ⟨rfl, rfl⟩
  by_cases h21 : s = ⟨#[116, 104, 101, 110]⟩
  · subst h21
    rw [show kwB ⟨#[116, 104, 101, 110]⟩ = true by kernel_rfl]
    go_enter Tryd.func53, Tryd.ntmps53
    go_wp2
    go_ret
    exact ⟨rfl, rfl⟩
  have n0 : (s.toList == [97, 110, 100]) = false := str_ne h0
  have m0 := n0
  rw [Lib.toList_data] at m0
  have n1 : (s.toList == [98, 101, 115, 116]) = false := str_ne h1
  have m1 := n1
  rw [Lib.toList_data] at m1
  have n2 : (s.toList == [98, 121]) = false := str_ne h2
  have m2 := n2
  rw [Lib.toList_data] at m2
  have n3 : (s.toList == [99, 114, 101, 100, 105, 116]) = false := str_ne h3
  have m3 := n3
  rw [Lib.toList_data] at m3
  have n4 : (s.toList == [99, 117, 114, 114, 101, 110, 99, 121]) = false := str_ne h4
  have m4 := n4
  rw [Lib.toList_data] at m4
  have n5 : (s.toList == [101, 108, 115, 101]) = false := str_ne h5
  have m5 := n5
  rw [Lib.toList_data] at m5
  have n6 : (s.toList == [102, 108, 111, 111, 114]) = false := str_ne h6
  have m6 := n6
  rw [Lib.toList_data] at m6
  have n7 : (s.toList == [102, 114, 111, 109]) = false := str_ne h7
  have m7 := n7
  rw [Lib.toList_data] at m7
  have n8 : (s.toList == [103, 114, 97, 110, 116]) = false := str_ne h8
  have m8 := n8
  rw [Lib.toList_data] at m8
  have n9 : (s.toList == [105, 102]) = false := str_ne h9
  have m9 := n9
  rw [Lib.toList_data] at m9
  have n10 : (s.toList == [105, 110, 100, 101, 120]) = false := str_ne h10
  have m10 := n10
  rw [Lib.toList_data] at m10
  have n11 : (s.toList == [108, 101, 116]) = false := str_ne h11
  have m11 := n11
  rw [Lib.toList_data] at m11
  have n12 : (s.toList == [108, 105, 109, 105, 116]) = false := str_ne h12
  have m12 := n12
  rw [Lib.toList_data] at m12
  have n13 : (s.toList == [109, 97, 120]) = false := str_ne h13
  have m13 := n13
  rw [Lib.toList_data] at m13
  have n14 : (s.toList == [109, 105, 110]) = false := str_ne h14
  have m14 := n14
  rw [Lib.toList_data] at m14
  have n15 : (s.toList == [110, 111, 116]) = false := str_ne h15
  have m15 := n15
  rw [Lib.toList_data] at m15
  have n16 : (s.toList == [111, 114]) = false := str_ne h16
  have m16 := n16
  rw [Lib.toList_data] at m16
  have n17 : (s.toList == [112, 97, 121]) = false := str_ne h17
  have m17 := n17
  rw [Lib.toList_data] at m17
  have n18 : (s.toList == [114, 101, 100, 117, 99, 101]) = false := str_ne h18
  have m18 := n18
  rw [Lib.toList_data] at m18
  have n19 : (s.toList == [114, 111, 117, 110, 100]) = false := str_ne h19
  have m19 := n19
  rw [Lib.toList_data] at m19
  have n20 : (s.toList == [115, 116, 97, 116, 117, 116, 101]) = false := str_ne h20
  have m20 := n20
  rw [Lib.toList_data] at m20
  have n21 : (s.toList == [116, 104, 101, 110]) = false := str_ne h21
  have m21 := n21
  rw [Lib.toList_data] at m21
  have hz := (by unfold kwB kws; simp only [List.any_cons, List.any_nil, m0, m1, m2, m3, m4, m5, m6, m7, m8, m9, m10, m11, m12, m13, m14, m15, m16, m17, m18, m19, m20, m21]; rfl : kwB s = false)
  rw [hz]
  clear hz h0 m0 h1 m1 h2 m2 h3 m3 h4 m4 h5 m5 h6 m6 h7 m7 h8 m8 h9 m9 h10 m10 h11 m11 h12 m12 h13 m13 h14 m14 h15 m15 h16 m16 h17 m17 h18 m18 h19 m19 h20 m20 h21 m21
  go_enter Tryd.func53, Tryd.ntmps53
  go_wp2
  go_ret
  exact ⟨rfl, rfl⟩

def inpB (s : ByteArray) : Bool := !(inpI s == 0)
set_option maxRecDepth 20000 in
set_option maxHeartbeats 8000000 in
theorem Input_any (s : ByteArray) (w : World) : Calls Tryd.prog 9 #[.string s] w fun e w' => e = .returned (.tuple #[.int .i64 (inpI s), .bool (inpB s)]) ∧ w = w' := by
  by_cases h0 : s = ⟨#[97, 103, 101]⟩
  · subst h0
    rw [show inpB ⟨#[97, 103, 101]⟩ = true by kernel_rfl, show inpI ⟨#[97, 103, 101]⟩ = 2 by kernel_rfl]
    go_enter Tryd.func9, Tryd.ntmps9
    go_wp2
    go_ret2
    exact ⟨rfl, rfl⟩
  by_cases h1 : s = ⟨#[121, 101, 97, 114]⟩
  · subst h1
    rw [show inpB ⟨#[121, 101, 97, 114]⟩ = true by kernel_rfl, show inpI ⟨#[121, 101, 97, 114]⟩ = 2 by kernel_rfl]
    go_enter Tryd.func9, Tryd.ntmps9
    go_wp2
    go_ret2
    exact ⟨rfl, rfl⟩
  by_cases h2 : s = ⟨#[99, 104, 105, 108, 100, 114, 101, 110]⟩
  · subst h2
    rw [show inpB ⟨#[99, 104, 105, 108, 100, 114, 101, 110]⟩ = true by kernel_rfl, show inpI ⟨#[99, 104, 105, 108, 100, 114, 101, 110]⟩ = 2 by kernel_rfl]
    go_enter Tryd.func9, Tryd.ntmps9
    go_wp2
    go_ret2
    exact ⟨rfl, rfl⟩
  by_cases h3 : s = ⟨#[105, 110, 115, 117, 114, 101, 100]⟩
  · subst h3
    rw [show inpB ⟨#[105, 110, 115, 117, 114, 101, 100]⟩ = true by kernel_rfl, show inpI ⟨#[105, 110, 115, 117, 114, 101, 100]⟩ = 3 by kernel_rfl]
    go_enter Tryd.func9, Tryd.ntmps9
    go_wp2
    go_ret2
    exact ⟨rfl, rfl⟩
  by_cases h4 : s = ⟨#[119, 111, 114, 107, 101, 100]⟩
  · subst h4
    rw [show inpB ⟨#[119, 111, 114, 107, 101, 100]⟩ = true by kernel_rfl, show inpI ⟨#[119, 111, 114, 107, 101, 100]⟩ = 3 by kernel_rfl]
    go_enter Tryd.func9, Tryd.ntmps9
    go_wp2
    go_ret2
    exact ⟨rfl, rfl⟩
  by_cases h5 : s = ⟨#[118, 111, 108, 117, 110, 116, 97, 114, 121]⟩
  · subst h5
    rw [show inpB ⟨#[118, 111, 108, 117, 110, 116, 97, 114, 121]⟩ = true by kernel_rfl, show inpI ⟨#[118, 111, 108, 117, 110, 116, 97, 114, 121]⟩ = 3 by kernel_rfl]
    go_enter Tryd.func9, Tryd.ntmps9
    go_wp2
    go_ret2
    exact ⟨rfl, rfl⟩
  by_cases h6 : s = ⟨#[115, 101, 114, 118, 105, 99, 101]⟩
  · subst h6
    rw [show inpB ⟨#[115, 101, 114, 118, 105, 99, 101]⟩ = true by kernel_rfl, show inpI ⟨#[115, 101, 114, 118, 105, 99, 101]⟩ = 3 by kernel_rfl]
    go_enter Tryd.func9, Tryd.ntmps9
    go_wp2
    go_ret2
    exact ⟨rfl, rfl⟩
  by_cases h7 : s = ⟨#[101, 113, 117, 97, 116, 101, 100]⟩
  · subst h7
    rw [show inpB ⟨#[101, 113, 117, 97, 116, 101, 100]⟩ = true by kernel_rfl, show inpI ⟨#[101, 113, 117, 97, 116, 101, 100]⟩ = 3 by kernel_rfl]
    go_enter Tryd.func9, Tryd.ntmps9
    go_wp2
    go_ret2
    exact ⟨rfl, rfl⟩
  by_cases h8 : s = ⟨#[114, 97, 105, 115, 105, 110, 103]⟩
  · subst h8
    rw [show inpB ⟨#[114, 97, 105, 115, 105, 110, 103]⟩ = true by kernel_rfl, show inpI ⟨#[114, 97, 105, 115, 105, 110, 103]⟩ = 3 by kernel_rfl]
    go_enter Tryd.func9, Tryd.ntmps9
    go_wp2
    go_ret2
    exact ⟨rfl, rfl⟩
  by_cases h9 : s = ⟨#[114, 101, 115, 105, 100, 101, 110, 116]⟩
  · subst h9
    rw [show inpB ⟨#[114, 101, 115, 105, 100, 101, 110, 116]⟩ = true by kernel_rfl, show inpI ⟨#[114, 101, 115, 105, 100, 101, 110, 116]⟩ = 3 by kernel_rfl]
    go_enter Tryd.func9, Tryd.ntmps9
    go_wp2
    go_ret2
    exact ⟨rfl, rfl⟩
  by_cases h10 : s = ⟨#[98, 97, 115, 101]⟩
  · subst h10
    rw [show inpB ⟨#[98, 97, 115, 101]⟩ = true by kernel_rfl, show inpI ⟨#[98, 97, 115, 101]⟩ = 4 by kernel_rfl]
    go_enter Tryd.func9, Tryd.ntmps9
    go_wp2
    go_ret2
    exact ⟨rfl, rfl⟩
  have n0 : (s.toList == [97, 103, 101]) = false := str_ne h0
  have m0 := n0
  rw [Lib.toList_data] at m0
  have n1 : (s.toList == [121, 101, 97, 114]) = false := str_ne h1
  have m1 := n1
  rw [Lib.toList_data] at m1
  have n2 : (s.toList == [99, 104, 105, 108, 100, 114, 101, 110]) = false := str_ne h2
  have m2 := n2
  rw [Lib.toList_data] at m2
  have n3 : (s.toList == [105, 110, 115, 117, 114, 101, 100]) = false := str_ne h3
  have m3 := n3
  rw [Lib.toList_data] at m3
  have n4 : (s.toList == [119, 111, 114, 107, 101, 100]) = false := str_ne h4
  have m4 := n4
  rw [Lib.toList_data] at m4
  have n5 : (s.toList == [118, 111, 108, 117, 110, 116, 97, 114, 121]) = false := str_ne h5
  have m5 := n5
  rw [Lib.toList_data] at m5
  have n6 : (s.toList == [115, 101, 114, 118, 105, 99, 101]) = false := str_ne h6
  have m6 := n6
  rw [Lib.toList_data] at m6
  have n7 : (s.toList == [101, 113, 117, 97, 116, 101, 100]) = false := str_ne h7
  have m7 := n7
  rw [Lib.toList_data] at m7
  have n8 : (s.toList == [114, 97, 105, 115, 105, 110, 103]) = false := str_ne h8
  have m8 := n8
  rw [Lib.toList_data] at m8
  have n9 : (s.toList == [114, 101, 115, 105, 100, 101, 110, 116]) = false := str_ne h9
  have m9 := n9
  rw [Lib.toList_data] at m9
  have n10 : (s.toList == [98, 97, 115, 101]) = false := str_ne h10
  have m10 := n10
  rw [Lib.toList_data] at m10
  have hz := (by unfold inpI inN inD inM; simp only [List.any_cons, List.any_nil, m0, m1, m2, m3, m4, m5, m6, m7, m8, m9, m10]; rfl : inpI s = 0)
  have hb : inpB s = false := by unfold inpB; rw [hz]; rfl
  rw [hz, hb]
  clear hb hz h0 m0 h1 m1 h2 m2 h3 m3 h4 m4 h5 m5 h6 m6 h7 m7 h8 m8 h9 m9 h10 m10
  go_enter Tryd.func9, Tryd.ntmps9
  go_wp2
  go_ret2
  exact ⟨rfl, rfl⟩

set_option maxRecDepth 20000 in
set_option maxHeartbeats 8000000 in
theorem rInput_any (s : ByteArray) (w : World) : Calls Tryd.prog 10 #[.string s] w fun e w' => e = .returned (.tuple #[.int .i64 (inpI s), .bool (inpB s)]) ∧ w = w' := by
  by_cases h0 : s = ⟨#[97, 103, 101]⟩
  · subst h0
    rw [show inpB ⟨#[97, 103, 101]⟩ = true by kernel_rfl, show inpI ⟨#[97, 103, 101]⟩ = 2 by kernel_rfl]
    go_enter Tryd.func10, Tryd.ntmps10
    go_wp2
    go_ret2
    exact ⟨rfl, rfl⟩
  by_cases h1 : s = ⟨#[121, 101, 97, 114]⟩
  · subst h1
    rw [show inpB ⟨#[121, 101, 97, 114]⟩ = true by kernel_rfl, show inpI ⟨#[121, 101, 97, 114]⟩ = 2 by kernel_rfl]
    go_enter Tryd.func10, Tryd.ntmps10
    go_wp2
    go_ret2
    exact ⟨rfl, rfl⟩
  by_cases h2 : s = ⟨#[99, 104, 105, 108, 100, 114, 101, 110]⟩
  · subst h2
    rw [show inpB ⟨#[99, 104, 105, 108, 100, 114, 101, 110]⟩ = true by kernel_rfl, show inpI ⟨#[99, 104, 105, 108, 100, 114, 101, 110]⟩ = 2 by kernel_rfl]
    go_enter Tryd.func10, Tryd.ntmps10
    go_wp2
    go_ret2
    exact ⟨rfl, rfl⟩
  by_cases h3 : s = ⟨#[105, 110, 115, 117, 114, 101, 100]⟩
  · subst h3
    rw [show inpB ⟨#[105, 110, 115, 117, 114, 101, 100]⟩ = true by kernel_rfl, show inpI ⟨#[105, 110, 115, 117, 114, 101, 100]⟩ = 3 by kernel_rfl]
    go_enter Tryd.func10, Tryd.ntmps10
    go_wp2
    go_ret2
    exact ⟨rfl, rfl⟩
  by_cases h4 : s = ⟨#[119, 111, 114, 107, 101, 100]⟩
  · subst h4
    rw [show inpB ⟨#[119, 111, 114, 107, 101, 100]⟩ = true by kernel_rfl, show inpI ⟨#[119, 111, 114, 107, 101, 100]⟩ = 3 by kernel_rfl]
    go_enter Tryd.func10, Tryd.ntmps10
    go_wp2
    go_ret2
    exact ⟨rfl, rfl⟩
  by_cases h5 : s = ⟨#[118, 111, 108, 117, 110, 116, 97, 114, 121]⟩
  · subst h5
    rw [show inpB ⟨#[118, 111, 108, 117, 110, 116, 97, 114, 121]⟩ = true by kernel_rfl, show inpI ⟨#[118, 111, 108, 117, 110, 116, 97, 114, 121]⟩ = 3 by kernel_rfl]
    go_enter Tryd.func10, Tryd.ntmps10
    go_wp2
    go_ret2
    exact ⟨rfl, rfl⟩
  by_cases h6 : s = ⟨#[115, 101, 114, 118, 105, 99, 101]⟩
  · subst h6
    rw [show inpB ⟨#[115, 101, 114, 118, 105, 99, 101]⟩ = true by kernel_rfl, show inpI ⟨#[115, 101, 114, 118, 105, 99, 101]⟩ = 3 by kernel_rfl]
    go_enter Tryd.func10, Tryd.ntmps10
    go_wp2
    go_ret2
    exact ⟨rfl, rfl⟩
  by_cases h7 : s = ⟨#[101, 113, 117, 97, 116, 101, 100]⟩
  · subst h7
    rw [show inpB ⟨#[101, 113, 117, 97, 116, 101, 100]⟩ = true by kernel_rfl, show inpI ⟨#[101, 113, 117, 97, 116, 101, 100]⟩ = 3 by kernel_rfl]
    go_enter Tryd.func10, Tryd.ntmps10
    go_wp2
    go_ret2
    exact ⟨rfl, rfl⟩
  by_cases h8 : s = ⟨#[114, 97, 105, 115, 105, 110, 103]⟩
  · subst h8
    rw [show inpB ⟨#[114, 97, 105, 115, 105, 110, 103]⟩ = true by kernel_rfl, show inpI ⟨#[114, 97, 105, 115, 105, 110, 103]⟩ = 3 by kernel_rfl]
    go_enter Tryd.func10, Tryd.ntmps10
    go_wp2
    go_ret2
    exact ⟨rfl, rfl⟩
  by_cases h9 : s = ⟨#[114, 101, 115, 105, 100, 101, 110, 116]⟩
  · subst h9
    rw [show inpB ⟨#[114, 101, 115, 105, 100, 101, 110, 116]⟩ = true by kernel_rfl, show inpI ⟨#[114, 101, 115, 105, 100, 101, 110, 116]⟩ = 3 by kernel_rfl]
    go_enter Tryd.func10, Tryd.ntmps10
    go_wp2
    go_ret2
    exact ⟨rfl, rfl⟩
  by_cases h10 : s = ⟨#[98, 97, 115, 101]⟩
  · subst h10
    rw [show inpB ⟨#[98, 97, 115, 101]⟩ = true by kernel_rfl, show inpI ⟨#[98, 97, 115, 101]⟩ = 4 by kernel_rfl]
    go_enter Tryd.func10, Tryd.ntmps10
    go_wp2
    go_ret2
    exact ⟨rfl, rfl⟩
  have n0 : (s.toList == [97, 103, 101]) = false := str_ne h0
  have m0 := n0
  rw [Lib.toList_data] at m0
  have n1 : (s.toList == [121, 101, 97, 114]) = false := str_ne h1
  have m1 := n1
  rw [Lib.toList_data] at m1
  have n2 : (s.toList == [99, 104, 105, 108, 100, 114, 101, 110]) = false := str_ne h2
  have m2 := n2
  rw [Lib.toList_data] at m2
  have n3 : (s.toList == [105, 110, 115, 117, 114, 101, 100]) = false := str_ne h3
  have m3 := n3
  rw [Lib.toList_data] at m3
  have n4 : (s.toList == [119, 111, 114, 107, 101, 100]) = false := str_ne h4
  have m4 := n4
  rw [Lib.toList_data] at m4
  have n5 : (s.toList == [118, 111, 108, 117, 110, 116, 97, 114, 121]) = false := str_ne h5
  have m5 := n5
  rw [Lib.toList_data] at m5
  have n6 : (s.toList == [115, 101, 114, 118, 105, 99, 101]) = false := str_ne h6
  have m6 := n6
  rw [Lib.toList_data] at m6
  have n7 : (s.toList == [101, 113, 117, 97, 116, 101, 100]) = false := str_ne h7
  have m7 := n7
  rw [Lib.toList_data] at m7
  have n8 : (s.toList == [114, 97, 105, 115, 105, 110, 103]) = false := str_ne h8
  have m8 := n8
  rw [Lib.toList_data] at m8
  have n9 : (s.toList == [114, 101, 115, 105, 100, 101, 110, 116]) = false := str_ne h9
  have m9 := n9
  rw [Lib.toList_data] at m9
  have n10 : (s.toList == [98, 97, 115, 101]) = false := str_ne h10
  have m10 := n10
  rw [Lib.toList_data] at m10
  have hz := (by unfold inpI inN inD inM; simp only [List.any_cons, List.any_nil, m0, m1, m2, m3, m4, m5, m6, m7, m8, m9, m10]; rfl : inpI s = 0)
  have hb : inpB s = false := by unfold inpB; rw [hz]; rfl
  rw [hz, hb]
  clear hb hz h0 m0 h1 m1 h2 m2 h3 m3 h4 m4 h5 m5 h6 m6 h7 m7 h8 m8 h9 m9 h10 m10
  go_enter Tryd.func10, Tryd.ntmps10
  go_wp2
  go_ret2
  exact ⟨rfl, rfl⟩

end Go.Proofs.YtnhmebhmlbofgaaDoor

/- Lemmas, each as it is printed; no conditions but those printed. -/
import Derived.Test.YthmlhheceihcbaaGreatDoorKB36
namespace Go.Proofs.YthmlhheceihcbaaGreatDoor
set_option maxHeartbeats 16000000
open Go.RowKit Cal Str Tok Frac Txt Tree Go.Proofs.Tryz
attribute [local go_sem] calmUpon
set_option linter.unusedVariables false
set_option linter.unusedSimpArgs false
theorem numT_bd (tk : List Tk) (s : Pt) : 0 <= numT tk 1 45 s /\ numT tk 1 45 s <= 45 := by
 unfold numT;split
 ·rename_i h;unfold numO pkT at *
  split at h
  ·rename_i t ht;simp only [Bool.and_eq_true, decide_eq_true_eq] at h;omega
  ·cases h
 ·omega
theorem decX_bd (s : ByteArray) : 0 <= decX s /\ decX s <= 4 := by
 cases hB : decB s
 ·obtain ⟨-, -, e⟩ := dec_no hB;rw [e]; omega
 ·have := fdB_iff.1 (dec_only hB rfl rfl rfl);omega
theorem namT_size {tk : List Tk} (h : TksOk tk) (s : Pt) : (namT tk s).size <= 140737488355328 := by
 unfold namT;split
 ·exact pkT_size h s
 ·decide
set_option maxRecDepth 20000 in
theorem pfactor_step (b G : Nat) (tk : List Tk) (E : Int) (hT : TksOk tk) (f : Nat) (H0 : ∀ g, g <= f -> PC b G tk E 85 0 g) (H7 : ∀ g, g <= f -> PC b G tk E 206 7 g) : PC b G tk E 206 7 (f + 1) := by
 intro w s hP hf;have S : PX b G tk E w s w := .of hP;have hf : 10 * rem tk s + 1 <= f + 1 := hf;have hb := hP.lt;have HH0 := Hj H0;have HH7 := Hj H7;clear hP;obtain ⟨RES, hR⟩ : ∃ r, pe tk (f + 1) 7 .no s = r := ⟨_, rfl⟩;rw [hR];rw [pe_7] at hR;go_enter func206, ntmps206;go_wp2_with fail;refine al_c fun X B RX hX => ?_
 replace S := S.rel RX;clear RX hX;obtain ⟨q, hq⟩ : ∃ q, accB tk kNeg s = q := ⟨_, rfl⟩;rw [hq] at hR;cases q
 rotate_left
 ·have hrem := (acc_beh hq).2;rw [if_pos (by trivial)] at hR;refine (p_ty S _ hq).mono ?_;rintro e w1 ⟨rfl, S, r⟩;have B := B.ro r (by omega);go_wp2_with fail;have zB := B.lt;refine ((HH7.out f (Nat.le_refl _)).at 1 S).mono ?_;rintro e w2 ⟨t, xa, xc, s2, p2, rfl, K, S, r, -⟩;rw [p2] at hR;have B := B.ro r (by omega);have zC := B.lt;have k1 := B.cs;have f1 := B.f;have l1 := B.lt;refine gw ?_;exact pe_retA (t := trU 4 t) hR.symm S B (one_tree (op := 4) rfl (by omega) ⟨by decide, by decide⟩ (kids_up K))
 refine (p_tn S _ hq).mono ?_;rintro e w1 ⟨rfl, S, r⟩;replace B := B.ro r (by omega);rw [if_neg (by decide)] at hR;clear r hq;go_wp2_with fail;obtain ⟨q, hq⟩ : ∃ q, accB tk kOpen s = q := ⟨_, rfl⟩;rw [hq] at hR;cases q
 rotate_left
 ·have hrem := (acc_beh hq).2;rw [if_pos (by trivial)] at hR;refine (p_ty S _ hq).mono ?_;rintro e w1 ⟨rfl, S, r⟩;have B := B.ro r (by omega);go_wp2_with fail;have zB := B.lt;refine ((HH0.out f (Nat.le_refl _)).at 8 S).mono ?_;rintro e w2 ⟨t, xa, xc, s2, p2, rfl, K, S, r, be⟩;rw [p2] at hR;(try dsimp only at hR);have L := LV.mk0 hb (B.ro r (by omega)) (kids_up K);go_wp2_with fail;refine (p_want (x := kShut) (S.al _) _).mono ?_;rintro e w3 ⟨⟨v, rfl⟩, S, r, -⟩;have L := L.ro r;have k2 := L.E.cs;have l2 := L.E.lt;have k1 := L.B.cs;have f1 := L.B.f;have l1 := L.B.lt;refine gw ?_;exact pe_ret hR.symm S L.B L.kk
 refine (p_tn S _ hq).mono ?_;rintro e w1 ⟨rfl, S, r⟩;replace B := B.ro r (by omega);rw [if_neg (by decide)] at hR;clear r hq;go_wp2_with fail;obtain ⟨q, hq⟩ : ∃ q, accB tk kBest s = q := ⟨_, rfl⟩;rw [hq] at hR;cases q
 rotate_left
 ·have hrem := (acc_beh hq).2;rw [if_pos (by trivial)] at hR;refine (p_ty S _ hq).mono ?_;rintro e w1 ⟨rfl, S, r⟩;have B := B.ro r (by omega);go_wp2_with fail;refine (p_want (x := kOpen) S _).mono ?_;rintro e w1 ⟨⟨v, rfl⟩, S, r, bw⟩;have B := B.ro r (by omega);have zB := B.lt;go_wp2_with fail;refine (pnumber_any b G tk E 1 45 _ _ S.P hT).mono ?_;rintro e w2 ⟨rfl, hP, r⟩;have S := S.st hP r;have B := B.ro r (by omega);go_wp2_with fail;refine (p_want (x := kShut) S _).mono ?_;rintro e w1 ⟨⟨v, rfl⟩, S, r, bw⟩;have B := B.ro r (by omega);have zB := B.lt;have nb := numT_bd tk (expP tk kOpen s.adv);generalize numT tk 1 45 (expP tk kOpen s.adv) = n at *;have k1 := B.cs;have f1 := B.f;have l1 := B.lt;refine gw ?_;exact pe_ret (t := trS n) hR.symm S B (leaf_tree ⟨by decide, by decide, by omega, by omega, by decide, by decide, by decide, by decide, by decide⟩)
 refine (p_tn S _ hq).mono ?_;rintro e w1 ⟨rfl, S, r⟩;replace B := B.ro r (by omega);rw [if_neg (by decide)] at hR;clear r hq;go_wp2_with fail;obtain ⟨q, hq⟩ : ∃ q, accB tk kFloor s = q := ⟨_, rfl⟩;rw [hq] at hR;cases q
 rotate_left
 ·have hrem := (acc_beh hq).2;rw [if_pos (by trivial)] at hR;refine (p_ty S _ hq).mono ?_;rintro e w1 ⟨rfl, S, r⟩;have B := B.ro r (by omega);go_wp2_with fail;refine (p_want (x := kOpen) S _).mono ?_;rintro e w1 ⟨⟨v, rfl⟩, S, r, bw⟩;have B := B.ro r (by omega);have zB := B.lt;go_wp2_with fail;have zB := B.lt;refine ((HH0.out f (Nat.le_refl _)).at 8 S).mono ?_;rintro e w2 ⟨t, xa, xc, s2, p2, rfl, K, S, r, be⟩;rw [p2] at hR;(try dsimp only at hR);have L := LV.mk0 hb (B.ro r (by omega)) (kids_up K);go_wp2_with fail;refine (p_want (x := kShut) (S.al _) _).mono ?_;rintro e w3 ⟨⟨v, rfl⟩, S, r, -⟩;have L := L.ro r;have zL := L.B.lt;have k2 := L.E.cs;have l2 := L.E.lt;have k1 := L.B.cs;have f1 := L.B.f;have l1 := L.B.lt;refine gw ?_;exact pe_retA (t := trU 6 t) hR.symm S L.B (one_tree (op := 6) rfl (by omega) ⟨by decide, by decide⟩ L.kk)
 refine (p_tn S _ hq).mono ?_;rintro e w1 ⟨rfl, S, r⟩;replace B := B.ro r (by omega);rw [if_neg (by decide)] at hR;clear r hq;go_wp2_with fail;refine al_c fun Y BY RY hY => ?_
 replace S := S.rel RY;have zB := B.lt;replace B := B.rel RY;have bt := bin_ops mmL tk s (by decide);obtain ⟨q, hq⟩ : ∃ q, binO tk s mmL = q := ⟨_, rfl⟩;rw [hq] at hR;cases q
 rotate_left
 ·have hrem := (bin_beh hq).2;rw [if_pos (by trivial)] at hR;refine (p_by mmL S BY (by have := S.R.size; omega) hq).mono ?_;rintro e w1 ⟨rfl, S, r⟩;have B := B.ro r (by omega);generalize binT tk s mmL = op at *;go_wp2_with fail;refine (p_want (x := kOpen) S _).mono ?_;rintro e w1 ⟨⟨v, rfl⟩, S, r, bw⟩;have B := B.ro r (by omega);have zB := B.lt;go_wp2_with fail;have zB := B.lt;refine ((HH0.out f (Nat.le_refl _)).at 8 S).mono ?_;rintro e w2 ⟨t, xa, xc, s2, p2, rfl, K, S, r, be⟩;rw [p2] at hR;(try dsimp only at hR);have L := LV.mk0 hb (B.ro r (by omega)) (kids_up K);go_wp2_with fail;refine (p_want (x := kComma) (S.al _) _).mono ?_;rintro e w3 ⟨⟨v, rfl⟩, S, r, bx⟩;have L := L.ro r;have zL := L.B.lt;go_wp2_with fail;refine ((HH0.out f (Nat.le_refl _)).at 8 S).mono ?_;rintro e w4 ⟨u, ya, yc, s4, p4, rfl, K4, S, r, -⟩;rw [p4] at hR;(try dsimp only at hR);have L := L.ro r;have M := LV.mk0 hb L.B (kids_up K4);have L := L.al (.cells #[.int .i64 u.op, .int .i64 u.va, .int .i64 u.vb, .int .i64 u.dm, .string u.nm, .slice ya u.cnt yc] 59);go_wp2_with fail;refine (p_want (x := kShut) (S.al _) _).mono ?_;rintro e w5 ⟨⟨v, rfl⟩, S, r, -⟩;have L := L.ro r;have M := M.ro r;have zL := L.B.lt;have k2 := L.E.cs;have l2 := L.E.lt;have k3 := M.E.cs;have l3 := M.E.lt;have k1 := L.B.cs;have f1 := L.B.f;have l1 := L.B.lt;refine gw ?_;exact pe_retA (t := trB op t u) hR.symm S L.B (pair_tree rfl (by omega) bt L.kk M.kk)
 refine (p_bn mmL S BY (by have := S.R.size; omega) hq).mono ?_;rintro e w1 ⟨rfl, S, r⟩;replace B := B.ro r (by omega);rw [if_neg (by decide)] at hR;clear r hq BY RY hY;go_wp2_with fail;refine (peek_any b G tk E s _ S.P).mono ?_;rintro e w2 ⟨rfl, r⟩;replace S := S.rel r;replace B := B.rel r;clear r;have hns := namT_size hT s;have hz := pkT_size hT s;generalize hA : pkA tk E s = A;by_cases hK2 : pkK tk s = 2
 ·rw [if_pos hK2] at hR;rw [hK2];obtain ⟨ho, hi⟩ := pkK_some (tk := tk) (s := s) (by omega);obtain ⟨⟨n0, n1⟩, d0, d1⟩ := dec_bd (pkT tk s);obtain ⟨x0, x1⟩ := decX_bd (pkT tk s);have D := Hj fun w => Decimal_any (pkT tk s) w (by unfold maxLen; omega)
  unfold DecRes at D;generalize pkT tk s = T at *;generalize decN T = N at *;generalize decD T = DD at *;generalize decX T = X at *;go_wp2_with fail;refine al_c fun Y BY RY hY => ?_
  replace S := S.rel RY;have zB := B.lt;replace B := B.rel RY;refine (next_tok b G tk E s _ S.P ho hi).mono ?_;rintro e w7 ⟨⟨v7, rfl⟩, hP7, r⟩;replace S := S.st hP7 r;replace B := B.ro r (by omega);replace BY := BY.ro r (by omega);have kt := BY.cs;have lt := BY.lt;go_wp2_with fail;refine (D.out _).mono ?_;rintro e w8 ⟨rfl, r⟩;replace S := S.rel r;replace B := B.rel r;clear kt lt;have k1 := B.cs;have f1 := B.f;have l1 := B.lt;refine gw ?_;exact pe_retA (t := trL N DD X) hR.symm S B (leaf_tree ⟨by decide, by decide, by omega, by omega, by omega, by omega, by omega, by omega, by decide⟩)
 ·rw [if_neg hK2] at hR;have eK2 : (pkK tk s == 2) = false := by rw [zn]; exact hK2
  generalize pkK tk s = K at *;generalize pkT tk s = T at *;go_wp2_with fail;refine al_c fun Y BY RY hY => ?_
  replace S := S.rel RY;replace B := B.rel RY;refine (pname_any b G tk E s _ S.P hT).mono ?_;rintro e w7 ⟨rfl, hP7, r⟩;replace S := S.st hP7 r;replace B := B.ro r (by omega);generalize namT tk s = NT at *;clear BY RY;have k1 := B.cs;have f1 := B.f;have l1 := B.lt;refine gw ?_;exact pe_ret (t := trN NT) hR.symm S B (leaf_tree ⟨by decide, by decide, by decide, by decide, by decide, by decide, by decide, by decide, hns⟩)
end Go.Proofs.YthmlhheceihcbaaGreatDoor

/- Bundle of texts: each says at its head what it proves; no conditions but those printed. -/
import Derived.Test.YtkghmghjgikihaaGreatDoorEB20
import Derived.Test.YtkghmghjgikihaaGreatDoorEB6
import Derived.Test.YtkghmghjgikihaaGreatDoorEB22
import Derived.Test.YtkghmghjgikihaaGreatDoorEB21
import Derived.Test.YtkghmghjgikihaaGreatDoorEB7
namespace Go.Proofs.YtkghmghjgikihaaGreatDoor
open Go.RowKit Cal Str Tok Frac Txt Tree
attribute [local go_sem] calmUpon
set_option linter.unusedVariables false
set_option linter.unusedSimpArgs false
theorem nd_1 (a b d : Int) (s : ByteArray) (p : Nat → Int → ByteArray) : ndS 1 a b d s p = fdT a b d := by simp [ndS]
theorem nd_2 (a b d : Int) (s : ByteArray) (p : Nat → Int → ByteArray) : ndS 2 a b d s p = s := by simp [ndS]
theorem nd_3 (a b d : Int) (s : ByteArray) (p : Nat → Int → ByteArray) : ndS 3 a b d s p = (⟨#[98, 101, 115, 116, 40]⟩ ++ numS a) ++ ⟨#[41]⟩ := by simp [ndS]
def SbRes (s : ByteArray) (b : Bool) (w : World) (e : Ending) (w' : World) : Prop := e = .returned (.tuple #[.string s, .bool b]) ∧ Rel w w'
def Ex.fmt (t : Ex) : ByteArray := if t.valid = true then t.put 0 else ⟨#[]⟩
theorem valid_form {t : Ex} (h : t.valid = true) : t.form = true ∧ t.size ≤ 60 := by
 unfold Ex.valid at h;simp only [Bool.and_eq_true, decide_eq_true_eq] at h;exact ⟨h.2.2, h.2.1⟩
set_option maxRecDepth 20000 in
set_option maxHeartbeats 4000000 in
theorem bare_1 (a b d : Int) (s : ByteArray) (ad : Option Addr) (n cap : Nat) (w : World) (hb : I64s 1 a b d s) :
  Calls Tryz.prog 93 #[.agg #[.int .i64 1, .int .i64 a, .int .i64 b, .int .i64 d, .string s, .slice ad n cap]] w (StrRes (fdT a b d) w) := by
 obtain ⟨o0, o1, a0, a1, b0, b1, d0, d1, s1⟩ := hb;have F := Hj fun w => rFormatDecimal_any a b d w a0 a1 b0 b1 d0 d1
 unfold FdRes at F;obtain ⟨T, hT⟩ : ∃ T, fdT a b d = T := ⟨_, rfl⟩;obtain ⟨B, hB⟩ : ∃ B, fdB a b d = B := ⟨_, rfl⟩;rw [hT, hB] at F;rw [hT];clear hT hB;have LV := Hj fun w => rlevel_any 1 w (by omega) (by omega)
 rw [show levI 1 = 7 from rfl] at LV;unfold StrRes;go_enter Tryz.func93, Tryz.ntmps93;go_wp2_with fail;refine (LV.out _).mono ?_;rintro e w1 ⟨rfl, rfl⟩;go_wp2_with fail;refine (F.out _).mono ?_;rintro e w4 ⟨rfl, h4⟩;have kq0 := keep6 h4 (b := w.heap.size) (by first | (simp; done) | (simp; omega) | omega);have kz4 := h4.size;(try simp only [World.size_alloc, World.size_setCell, World.size_drew] at kz4);have H4 := Hj h4;clear h4;go_wp2;go_ret;exact ⟨rfl, by (show Rel _ _; repeat (first | with_reducible exact Rel.refl _ | with_reducible refine Rel.alloc ?_ _ | with_reducible refine Rel.setCell ?_ (by first | (simp; done) | (simp; omega)) _ | with_reducible refine Rel.drew ?_ | with_reducible refine Rel.trans ?_ H4.out | with_reducible refine Rel.trans ?_ H3.out | with_reducible refine Rel.trans ?_ H2.out | with_reducible refine Rel.trans ?_ H1.out | with_reducible refine Rel.trans ?_ H0.out))⟩
set_option maxRecDepth 20000 in
set_option maxHeartbeats 4000000 in
theorem bare_2 (a b d : Int) (s : ByteArray) (ad : Option Addr) (n cap : Nat) (w : World) :
  Calls Tryz.prog 93 #[.agg #[.int .i64 2, .int .i64 a, .int .i64 b, .int .i64 d, .string s, .slice ad n cap]] w (StrRes s w) := by
 have LV := Hj fun w => rlevel_any 2 w (by omega) (by omega)
 rw [show levI 2 = 7 from rfl] at LV;unfold StrRes;go_enter Tryz.func93, Tryz.ntmps93;go_wp2_with fail;refine (LV.out _).mono ?_;rintro e w1 ⟨rfl, rfl⟩;go_wp2;go_ret;exact ⟨rfl, by (show Rel _ _; repeat (first | with_reducible exact Rel.refl _ | with_reducible refine Rel.alloc ?_ _ | with_reducible refine Rel.setCell ?_ (by first | (simp; done) | (simp; omega)) _ | with_reducible refine Rel.drew ?_ | with_reducible refine Rel.trans ?_ H0.out))⟩
set_option maxRecDepth 20000 in
set_option maxHeartbeats 4000000 in
theorem bare_3 (a d : Int) (s : ByteArray) (ad : Option Addr) (n cap : Nat) (w : World) (h0 : 1 ≤ a) (h1 : a ≤ 45) :
  Calls Tryz.prog 93 #[.agg #[.int .i64 3, .int .i64 a, .int .i64 1, .int .i64 d, .string s, .slice ad n cap]] w (StrRes ((⟨#[98, 101, 115, 116, 40]⟩ ++ numS a) ++ ⟨#[41]⟩) w) := by
 have F := Hj fun w => rFormat_any a 1 w (by omega) (by omega) (by omega) (by omega)
 rw [fmt_one h0 h1] at F;have z := numS_size a;obtain ⟨T, hT⟩ : ∃ T, numS a = T := ⟨_, rfl⟩;rw [hT] at F z;rw [hT];clear hT;have y1 : (⟨#[98, 101, 115, 116, 40]⟩ : ByteArray).size ≤ 5 := by simp only [szA, List.length]; omega
 have w2 : ¬ 9223372036854775807 < 5 + T.size := by omega
 have y2 : ((⟨#[98, 101, 115, 116, 40]⟩ : ByteArray) ++ T).size ≤ 46 := by simp only [ByteArray.size_append, szA, List.length]; omega
 have w3 : ¬ 9223372036854775807 < 5 + T.size + 1 := by omega
 have LV := Hj fun w => rlevel_any 3 w (by omega) (by omega)
 rw [show levI 3 = 7 from rfl] at LV;unfold StrRes at F ⊢;go_enter Tryz.func93, Tryz.ntmps93;go_wp2_with fail;refine (LV.out _).mono ?_;rintro e w1 ⟨rfl, rfl⟩;go_wp2_with fail;refine (F.out _).mono ?_;rintro e w4 ⟨rfl, h4⟩;have kq0 := keep6 h4 (b := w.heap.size) (by first | (simp; done) | (simp; omega) | omega);have kz4 := h4.size;(try simp only [World.size_alloc, World.size_setCell, World.size_drew] at kz4);have H4 := Hj h4;clear h4;go_wp2;go_ret;exact ⟨rfl, by (show Rel _ _; repeat (first | with_reducible exact Rel.refl _ | with_reducible refine Rel.alloc ?_ _ | with_reducible refine Rel.setCell ?_ (by first | (simp; done) | (simp; omega)) _ | with_reducible refine Rel.drew ?_ | with_reducible refine Rel.trans ?_ H4.out | with_reducible refine Rel.trans ?_ H3.out | with_reducible refine Rel.trans ?_ H2.out | with_reducible refine Rel.trans ?_ H1.out | with_reducible refine Rel.trans ?_ H0.out))⟩
set_option maxRecDepth 20000 in
set_option maxHeartbeats 4000000 in
theorem put_of (op a b d : Int) (s : ByteArray) (ad : Option Addr) (n cap : Nat) (req : Int) (T : ByteArray) (w : World) (h0 : 1 ≤ op) (h1 : op ≤ 21) (hz : T.size ≤ 4200)
  (C : Hid (∀ w', Rel w w' → Calls Tryz.prog 93 #[.agg #[.int .i64 op, .int .i64 a, .int .i64 b, .int .i64 d, .string s, .slice ad n cap]] w' (StrRes T w'))) :
  Calls Tryz.prog 46 #[.agg #[.int .i64 op, .int .i64 a, .int .i64 b, .int .i64 d, .string s, .slice ad n cap], .int .i64 req] w (StrRes (parS (decide (levI op < req)) T) w) := by
 have y1 : (⟨#[40]⟩ : ByteArray).size ≤ 1 := by simp only [szA, List.length]; omega
 have w2 : ¬ 9223372036854775807 < 1 + T.size := by omega
 have y2 : ((⟨#[40]⟩ : ByteArray) ++ T).size ≤ 4201 := by simp only [ByteArray.size_append, szA, List.length]; omega
 have w3 : ¬ 9223372036854775807 < 1 + T.size + 1 := by omega
 obtain ⟨L, hL⟩ : ∃ L, levI op = L := ⟨_, rfl⟩;have LV := Hj fun w => rlevel_any op w (by omega) (by omega)
 rw [hL] at LV ⊢;clear hL;unfold StrRes at C ⊢;obtain ⟨X, hX⟩ : ∃ X, w.alloc (.cells #[.int .i64 op, .int .i64 a, .int .i64 b, .int .i64 d, .string s, .slice ad n cap] 29) = X := ⟨_, rfl⟩;have RX : Rel w X := by rw [← hX]; exact (Rel.refl _).alloc _
 have BT := Hj (BoxAt.new (w := w) (g := w.heap.size) rfl (.int .i64 op) (.int .i64 a) (.int .i64 b) (.int .i64 d) (.string s) (.slice ad n cap) 29);rw [hX] at BT;have bt := BT.out;have c0 := bt.c0;have c1 := bt.c1;have c2 := bt.c2;have c3 := bt.c3;have c4 := bt.c4;have c5 := bt.c5;have RXw := Hj RX;clear RX bt
 cases hB : decide (L < req)
 ·have e : Hid (parS false T = T) := by show _ = _; unfold parS; rfl
  obtain ⟨R, hR⟩ : ∃ R, parS false T = R := ⟨_, rfl⟩;rw [hR] at e ⊢;clear hR;go_enter Tryz.func46, Tryz.ntmps46;go_wp2_with fail;refine (C.out _ RXw.out).mono ?_;rintro e w1 ⟨rfl, h1⟩;have d0 := h1.cell c0;have H1 := Hj h1;clear h1;go_wp2_with fail;refine (LV.out _).mono ?_;rintro e w2 ⟨rfl, rfl⟩;go_wp2;go_ret;exact ⟨str_ret e.out.symm, RXw.out.trans H1.out⟩
 ·have e : Hid (parS true T = (⟨#[40]⟩ ++ T) ++ ⟨#[41]⟩) := by show _ = _; unfold parS; rfl
  obtain ⟨R, hR⟩ : ∃ R, parS true T = R := ⟨_, rfl⟩;rw [hR] at e ⊢;clear hR;go_enter Tryz.func46, Tryz.ntmps46;go_wp2_with fail;refine (C.out _ RXw.out).mono ?_;rintro e w1 ⟨rfl, h1⟩;have d0 := h1.cell c0;have H1 := Hj h1;clear h1;go_wp2_with fail;refine (LV.out _).mono ?_;rintro e w2 ⟨rfl, rfl⟩;go_wp2;go_ret;exact ⟨str_ret e.out.symm, RXw.out.trans H1.out⟩
def BareOk (t : Ex) : Prop := ∀ (x : Value) (w : World), ExKids t w x → Calls Tryz.prog 93 #[.agg #[.int .i64 t.op, .int .i64 t.va, .int .i64 t.vb, .int .i64 t.dm, .string t.nm, x]] w (StrRes t.bare w)
def PutOk (t : Ex) : Prop := ∀ (x : Value) (w : World) (L : Int), ExKids t w x → Calls Tryz.prog 46 #[.agg #[.int .i64 t.op, .int .i64 t.va, .int .i64 t.vb, .int .i64 t.dm, .string t.nm, x], .int .i64 L] w (StrRes (t.put L) w)
theorem put_ok {t : Ex} (hF : t.form = true) (hz : t.size ≤ 60) (h : BareOk t) : PutOk t := by
 intro x w L hK
 cases t with
 | no => simp [Ex.form] at hF
 | mk op a b d s n kid =>
  obtain ⟨h1, h2⟩ := form_of hF;obtain ⟨o1, o2⟩ := op_of h1;obtain ⟨xa, xc, rfl⟩ := kids_slice hK;have hb := bare_size _ hF;exact put_of op a b d s xa n xc L _ w o1 o2 (by omega) (Hj fun w' r => h _ w' (kids_rel hK r))
set_option maxHeartbeats 1000000 in
theorem bare_all (t : Ex) : t.form = true → t.size ≤ 60 → BareOk t := by
  induction t with
  | no => intro h; simp [Ex.form] at h
  | mk op a b d s n kid ih =>
    intro hF hz x w hK;obtain ⟨h1, h2⟩ := form_of hF;obtain ⟨o1, o2⟩ := op_of h1;have hn := nod_ar h1;obtain ⟨hb, hn', ad, cap, rfl, hk⟩ := hK;have lv := lev_bd op
    have K : ∀ g off, (∀ i, i < n → ∃ xi, Six w g (off + i * 6) (kid i).op (kid i).va (kid i).vb (kid i).dm (kid i).nm xi ∧ ExKids (kid i) w xi) → ∀ i, i < n → TxK 46 w g off i (fun i l => (kid i).put l) := fun g off hc i hi => by
      obtain ⟨xi, q1, q2⟩ := hc i hi;have hzi : (kid i).size ≤ 60 := by have := (kid_size (op := op) (a := a) (b := b) (d := d) (s := s) (kid := kid) hi).1; omega
      exact ⟨_, _, _, _, _, xi, q1, fun l => put_size (h2 i hi) hzi l, fun w' l r l0 l7 => put_ok (h2 i hi) hzi (ih i (h2 i hi) hzi) xi w' l (kids_rel q2 r)⟩
    rw [bare_mk];show Calls Tryz.prog 93 #[.agg #[.int .i64 op, .int .i64 a, .int .i64 b, .int .i64 d, .string s, .slice ad n cap]] w _
    by_cases h4 : 4 ≤ op
    · obtain ⟨g, off, rfl, hg, hc⟩ := hk (by unfold arI at hn; repeat' split at hn
                                             all_goals omega)
      have K' := K g off hc;by_cases hbin : 7 ≤ op ∧ op ≤ 18
      · obtain rfl : n = 2 := by
          unfold arI at hn;rw [if_neg (by omega), if_neg (by omega), if_pos (by omega)] at hn;omega
        by_cases hl4 : levI op = 4
        · exact bare_binr op 4 a b d s g off cap _ w hbin.1 hbin.2 rfl hl4 hg (K' 0 (by decide)) (K' 1 (by decide))
        · have hv := lev_bin hbin.1 hbin.2;exact bare_bino op (levI op) a b d s g off cap _ w hbin.1 hbin.2 rfl (by omega) (by omega) hl4 hg (K' 0 (by decide)) (K' 1 (by decide))
      rcases (show op = 4 ∨ op = 5 ∨ op = 6 ∨ op = 19 ∨ op = 20 ∨ op = 21 by omega) with rfl | rfl | rfl | rfl | rfl | rfl
      · obtain rfl : n = 1 := by simp [arI] at hn; omega
        exact bare_4 a b d s g off cap _ w hg (K' 0 (by decide))
      · obtain rfl : n = 1 := by simp [arI] at hn; omega
        exact bare_5 a b d s g off cap _ w hg (K' 0 (by decide))
      · obtain rfl : n = 1 := by simp [arI] at hn; omega
        exact bare_6 a b d s g off cap _ w hg (K' 0 (by decide))
      · obtain rfl : n = 2 := by simp [arI] at hn; omega
        exact bare_19 a b d s g off cap _ w hg (K' 0 (by decide)) (K' 1 (by decide))
      · obtain rfl : n = 2 := by simp [arI] at hn; omega
        exact bare_20 a b d s g off cap _ w hg (K' 0 (by decide)) (K' 1 (by decide))
      · obtain rfl : n = 3 := by simp [arI] at hn; omega
        exact bare_21 a b d s g off cap _ w hg (K' 0 (by decide)) (K' 1 (by decide)) (K' 2 (by decide))
    · rcases (show op = 1 ∨ op = 2 ∨ op = 3 by omega) with rfl | rfl | rfl
      · rw [nd_1]; exact bare_1 a b d s ad n cap w hb
      · rw [nd_2]; exact bare_2 a b d s ad n cap w
      · rw [nd_3]
        obtain ⟨ha, hb1⟩ : (1 ≤ a ∧ a ≤ 45) ∧ b = 1 := by
          unfold nodB at h1;simp at h1;omega
        obtain rfl := hb1;exact bare_3 a d s ad n cap w ha.1 ha.2
set_option maxHeartbeats 4000000 in
theorem rFormatExpr_any (t : Ex) (x : Value) (w : World) (h : ExKids t w x) (hz : t.size ≤ 1000000000000) :
  Calls Tryz.prog 18 #[.agg #[.int .i64 t.op, .int .i64 t.va, .int .i64 t.vb, .int .i64 t.dm, .string t.nm, x]] w (SbRes (Ex.fmt t) t.valid w) := by
 obtain ⟨xa, xc, rfl⟩ := kids_slice h;have V := Hj fun w' (r : Rel w w') => rValidExpr_any t _ w' (kids_rel h r) hz
 unfold BRes at V;unfold SbRes
 cases hv : t.valid
 ·have e : Ex.fmt t = ⟨#[]⟩ := by unfold Ex.fmt; rw [hv]; rfl
  rw [e];rw [hv] at V;clear hv e;go_enter Tryz.func18, Tryz.ntmps18;go_wp2_with fail;refine (V.out _ (by show Rel _ _; (show Rel _ _; repeat (first | with_reducible exact Rel.refl _ | with_reducible refine Rel.alloc ?_ _ | with_reducible refine Rel.setCell ?_ (by first | (simp; done) | (simp; omega)) _ | with_reducible refine Rel.drew ?_ | with_reducible refine Rel.trans ?_ H0.out)))).mono ?_;rintro e w1 ⟨rfl, h1⟩;have kq0 := keep6 h1 (b := w.heap.size) (by first | (simp; done) | (simp; omega) | omega);have kz1 := h1.size;(try simp only [World.size_alloc, World.size_setCell, World.size_drew] at kz1);have H1 := Hj h1;clear h1;go_wp2;refine bodyPost_ret (v := .tuple #[.string ⟨#[]⟩, .bool false]) ?_ rfl ⟨rfl, by (show Rel _ _; repeat (first | with_reducible exact Rel.refl _ | with_reducible refine Rel.alloc ?_ _ | with_reducible refine Rel.setCell ?_ (by first | (simp; done) | (simp; omega)) _ | with_reducible refine Rel.drew ?_ | with_reducible refine Rel.trans ?_ H1.out | with_reducible refine Rel.trans ?_ H0.out))⟩;simp [results, Tryz.results18, go_sem]
 ·have e : Ex.fmt t = t.put 0 := by unfold Ex.fmt; rw [hv]; rfl
  obtain ⟨hF, hz'⟩ := valid_form hv;have T := Hj fun w' (r : Rel w w') => put_ok hF hz' (bare_all t hF hz') _ w' 0 (kids_rel h r)
  rw [e];rw [hv] at V;unfold StrRes at T;obtain ⟨S, hS⟩ : ∃ S, t.put 0 = S := ⟨_, rfl⟩;rw [hS] at T ⊢;clear hv e hS;go_enter Tryz.func18, Tryz.ntmps18;go_wp2_with fail;refine (V.out _ (by show Rel _ _; (show Rel _ _; repeat (first | with_reducible exact Rel.refl _ | with_reducible refine Rel.alloc ?_ _ | with_reducible refine Rel.setCell ?_ (by first | (simp; done) | (simp; omega)) _ | with_reducible refine Rel.drew ?_ | with_reducible refine Rel.trans ?_ H0.out)))).mono ?_;rintro e w1 ⟨rfl, h1⟩;have kq1 := keep6 h1 (b := w.heap.size) (by first | (simp; done) | (simp; omega) | omega);have kz1 := h1.size;(try simp only [World.size_alloc, World.size_setCell, World.size_drew] at kz1);have H1 := Hj h1;clear h1;go_wp2_with fail;refine (T.out _ (by show Rel _ _; (show Rel _ _; repeat (first | with_reducible exact Rel.refl _ | with_reducible refine Rel.alloc ?_ _ | with_reducible refine Rel.setCell ?_ (by first | (simp; done) | (simp; omega)) _ | with_reducible refine Rel.drew ?_ | with_reducible refine Rel.trans ?_ H1.out | with_reducible refine Rel.trans ?_ H0.out)))).mono ?_;rintro e w2 ⟨rfl, h2⟩;have kq2 := keep6 h2 (b := w.heap.size) (by first | (simp; done) | (simp; omega) | omega);have kz2 := h2.size;(try simp only [World.size_alloc, World.size_setCell, World.size_drew] at kz2);have H2 := Hj h2;clear h2;go_wp2;refine bodyPost_ret (v := .tuple #[.string S, .bool true]) ?_ rfl ⟨rfl, by (show Rel _ _; repeat (first | with_reducible exact Rel.refl _ | with_reducible refine Rel.alloc ?_ _ | with_reducible refine Rel.setCell ?_ (by first | (simp; done) | (simp; omega)) _ | with_reducible refine Rel.drew ?_ | with_reducible refine Rel.trans ?_ H2.out | with_reducible refine Rel.trans ?_ H1.out | with_reducible refine Rel.trans ?_ H0.out))⟩;simp [results, Tryz.results18, go_sem]
end Go.Proofs.YtkghmghjgikihaaGreatDoor

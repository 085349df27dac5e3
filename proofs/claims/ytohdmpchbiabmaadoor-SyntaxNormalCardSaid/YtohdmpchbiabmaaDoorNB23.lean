/- Bundle of texts: each says at its head what it proves; no conditions but those printed. -/
import Derived.Test.YtohdmpchbiabmaaDoorNB20
import Derived.Test.YtohdmpchbiabmaaDoorNB6
import Derived.Test.YtohdmpchbiabmaaDoorNB22
/- Contracts of text: its leaves, parentheses, every tree; of syntax.FormatExpr. No conditions but those printed. -/
namespace Go.Proofs.YtohdmpchbiabmaaDoor
open Go.RowKit Cal Str Tok Frac Txt Tree
attribute [local go_sem] calmUpon
set_option linter.unusedVariables false
set_option linter.unusedSimpArgs false
theorem nd_1 (a b d : Int) (s : ByteArray) (p : Nat → Int → ByteArray) : ndS 1 a b d s p = fdT a b d := by simp [ndS]
theorem nd_2 (a b d : Int) (s : ByteArray) (p : Nat → Int → ByteArray) : ndS 2 a b d s p = s := by simp [ndS]
theorem nd_3 (a b d : Int) (s : ByteArray) (p : Nat → Int → ByteArray) : ndS 3 a b d s p = (⟨#[98, 101, 115, 116, 40]⟩ ++ numS a) ++ ⟨#[41]⟩ := by simp [ndS]
set_option maxRecDepth 20000 in
set_option maxHeartbeats 4000000 in
theorem text_1 (a b d : Int) (s : ByteArray) (ad : Option Addr) (n cap : Nat) (req : Int) (w : World) (ht : Hid (TabW w)) (hb : I64s 1 a b d s) (hr : req ≤ 7) :
  Calls Tryd.prog 35 #[.agg #[.int .i64 1, .int .i64 a, .int .i64 b, .int .i64 d, .string s, .slice ad n cap], .int .i64 req] w (StrRes (fdT a b d) w) := by
 obtain ⟨o0, o1, a0, a1, b0, b1, d0, d1, s1⟩ := hb
 have F := Lib.hid fun w ht => FormatDecimal_any a b d w ht a0 a1 b0 b1 d0 d1
 unfold FdRes at F
 obtain ⟨T, hT⟩ : ∃ T, fdT a b d = T := ⟨_, rfl⟩
 obtain ⟨B, hB⟩ : ∃ B, fdB a b d = B := ⟨_, rfl⟩
 rw [hT, hB] at F
 rw [hT]
 clear hT hB
 have LV := Lib.hid fun w => level_any 1 w (by omega) (by omega)
 rw [show levI 1 = 7 from rfl] at LV
 have er : decide (7 < req) = false := decide_eq_false (by omega)
 unfold StrRes
 go_enter Tryd.func35, Tryd.ntmps35
 go_wp2_with fail
 refine (LV.out _).mono ?_
 rintro e w1 ⟨rfl, rfl⟩
 go_wp2_with fail
 refine (F.out _ (ht.out.rel (by show Rel _ _; (show Rel _ _; repeat (first | with_reducible exact Rel.refl _ | with_reducible refine Rel.alloc ?_ _ | with_reducible refine Rel.setCell ?_ (by first | (simp; done) | (simp; omega)) _ | with_reducible refine Rel.drew ?_ | with_reducible refine Rel.trans ?_ H0.out))))).mono ?_
 rintro e w4 ⟨rfl, h4⟩
 have q := keep6 h4 (b := w.heap.size) (by first | (simp; done) | (simp; omega) | omega)
 have kc4_0_0 := q.1
 have kc4_0_1 := q.2.1
 have kc4_0_2 := q.2.2.1
 have kc4_0_3 := q.2.2.2.1
 have kc4_0_4 := q.2.2.2.2.1
 have kc4_0_5 := q.2.2.2.2.2.1
 have kf4_0_0 := q.2.2.2.2.2.2.1
 have kf4_0_1 := q.2.2.2.2.2.2.2.1
 have kf4_0_2 := q.2.2.2.2.2.2.2.2.1
 have kf4_0_3 := q.2.2.2.2.2.2.2.2.2.1
 have kf4_0_4 := q.2.2.2.2.2.2.2.2.2.2.1
 have kf4_0_5 := q.2.2.2.2.2.2.2.2.2.2.2.1
 have kl4_0 := q.2.2.2.2.2.2.2.2.2.2.2.2.1
 have kn4_0 := q.2.2.2.2.2.2.2.2.2.2.2.2.2.1
 have km4_0 := q.2.2.2.2.2.2.2.2.2.2.2.2.2.2
 clear q
 have kz4 := h4.size
 (try simp only [World.size_alloc, World.size_setCell, World.size_drew] at kz4)
 have H4 := Lib.hid h4
 clear h4
 go_wp2
 go_ret
 exact ⟨rfl, by (show Rel _ _; repeat (first | with_reducible exact Rel.refl _ | with_reducible refine Rel.alloc ?_ _ | with_reducible refine Rel.setCell ?_ (by first | (simp; done) | (simp; omega)) _ | with_reducible refine Rel.drew ?_ | with_reducible refine Rel.trans ?_ H4.out | with_reducible refine Rel.trans ?_ H3.out | with_reducible refine Rel.trans ?_ H2.out | with_reducible refine Rel.trans ?_ H1.out | with_reducible refine Rel.trans ?_ H0.out))⟩
set_option maxRecDepth 20000 in
set_option maxHeartbeats 4000000 in
theorem text_2 (a b d : Int) (s : ByteArray) (ad : Option Addr) (n cap : Nat) (req : Int) (w : World) (hr : req ≤ 7) :
  Calls Tryd.prog 35 #[.agg #[.int .i64 2, .int .i64 a, .int .i64 b, .int .i64 d, .string s, .slice ad n cap], .int .i64 req] w (StrRes s w) := by
 have LV := Lib.hid fun w => level_any 2 w (by omega) (by omega)
 rw [show levI 2 = 7 from rfl] at LV
 have er : decide (7 < req) = false := decide_eq_false (by omega)
 unfold StrRes
 go_enter Tryd.func35, Tryd.ntmps35
 go_wp2_with fail
 refine (LV.out _).mono ?_
 rintro e w1 ⟨rfl, rfl⟩
 go_wp2
 go_ret
 exact ⟨rfl, by (show Rel _ _; repeat (first | with_reducible exact Rel.refl _ | with_reducible refine Rel.alloc ?_ _ | with_reducible refine Rel.setCell ?_ (by first | (simp; done) | (simp; omega)) _ | with_reducible refine Rel.drew ?_ | with_reducible refine Rel.trans ?_ H0.out))⟩
set_option maxRecDepth 20000 in
set_option maxHeartbeats 4000000 in
theorem text_3 (a b d : Int) (s : ByteArray) (ad : Option Addr) (n cap : Nat) (req : Int) (w : World) (ht : Hid (TabW w)) (h0 : 1 ≤ a) (h1 : a ≤ 45) (hr : req ≤ 7) :
  Calls Tryd.prog 35 #[.agg #[.int .i64 3, .int .i64 a, .int .i64 b, .int .i64 d, .string s, .slice ad n cap], .int .i64 req] w (StrRes ((⟨#[98, 101, 115, 116, 40]⟩ ++ numS a) ++ ⟨#[41]⟩) w) := by
 have F := Lib.hid fun w ht => itoa_any a w ht (by omega) (by omega)
 have z := numS_size a
 obtain ⟨T, hT⟩ : ∃ T, numS a = T := ⟨_, rfl⟩
 rw [hT] at F z
 rw [hT]
 clear hT
 have y1 : (⟨#[98, 101, 115, 116, 40]⟩ : ByteArray).size ≤ 5 := by simp only [szA, List.length]; omega
 have w2 : ¬ 9223372036854775807 < 5 + T.size := by omega
 have y2 : ((⟨#[98, 101, 115, 116, 40]⟩ : ByteArray) ++ T).size ≤ 46 := by simp only [ByteArray.size_append, szA, List.length]; omega
 have w3 : ¬ 9223372036854775807 < 5 + T.size + 1 := by omega
 have LV := Lib.hid fun w => level_any 3 w (by omega) (by omega)
 rw [show levI 3 = 7 from rfl] at LV
 have er : decide (7 < req) = false := decide_eq_false (by omega)
 unfold StrRes
 go_enter Tryd.func35, Tryd.ntmps35
 go_wp2_with fail
 refine (LV.out _).mono ?_
 rintro e w1 ⟨rfl, rfl⟩
 go_wp2_with fail
 refine (F.out _ (ht.out.rel (by show Rel _ _; (show Rel _ _; repeat (first | with_reducible exact Rel.refl _ | with_reducible refine Rel.alloc ?_ _ | with_reducible refine Rel.setCell ?_ (by first | (simp; done) | (simp; omega)) _ | with_reducible refine Rel.drew ?_ | with_reducible refine Rel.trans ?_ H0.out))))).mono ?_
 rintro e w4 ⟨rfl, h4⟩
 have q := keep6 h4 (b := w.heap.size) (by first | (simp; done) | (simp; omega) | omega)
 have kc4_0_0 := q.1
 have kc4_0_1 := q.2.1
 have kc4_0_2 := q.2.2.1
 have kc4_0_3 := q.2.2.2.1
 have kc4_0_4 := q.2.2.2.2.1
 have kc4_0_5 := q.2.2.2.2.2.1
 have kf4_0_0 := q.2.2.2.2.2.2.1
 have kf4_0_1 := q.2.2.2.2.2.2.2.1
 have kf4_0_2 := q.2.2.2.2.2.2.2.2.1
 have kf4_0_3 := q.2.2.2.2.2.2.2.2.2.1
 have kf4_0_4 := q.2.2.2.2.2.2.2.2.2.2.1
 have kf4_0_5 := q.2.2.2.2.2.2.2.2.2.2.2.1
 have kl4_0 := q.2.2.2.2.2.2.2.2.2.2.2.2.1
 have kn4_0 := q.2.2.2.2.2.2.2.2.2.2.2.2.2.1
 have km4_0 := q.2.2.2.2.2.2.2.2.2.2.2.2.2.2
 clear q
 have kz4 := h4.size
 (try simp only [World.size_alloc, World.size_setCell, World.size_drew] at kz4)
 have H4 := Lib.hid h4
 clear h4
 go_wp2
 go_ret
 exact ⟨rfl, by (show Rel _ _; repeat (first | with_reducible exact Rel.refl _ | with_reducible refine Rel.alloc ?_ _ | with_reducible refine Rel.setCell ?_ (by first | (simp; done) | (simp; omega)) _ | with_reducible refine Rel.drew ?_ | with_reducible refine Rel.trans ?_ H4.out | with_reducible refine Rel.trans ?_ H3.out | with_reducible refine Rel.trans ?_ H2.out | with_reducible refine Rel.trans ?_ H1.out | with_reducible refine Rel.trans ?_ H0.out))⟩
set_option maxRecDepth 20000 in
set_option maxHeartbeats 4000000 in
theorem text_par (op a b d : Int) (s : ByteArray) (ad : Option Addr) (n cap : Nat) (req : Int) (T : ByteArray) (w : World) (h0 : 1 ≤ op) (h1 : op ≤ 21) (hr : levI op < req) (hz : T.size ≤ 4200)
  (C : Hid (∀ w', Rel w w' → Calls Tryd.prog 35 #[.agg #[.int .i64 op, .int .i64 a, .int .i64 b, .int .i64 d, .string s, .slice ad n cap], .int .i64 0] w' (StrRes T w'))) :
  Calls Tryd.prog 35 #[.agg #[.int .i64 op, .int .i64 a, .int .i64 b, .int .i64 d, .string s, .slice ad n cap], .int .i64 req] w (StrRes ((⟨#[40]⟩ ++ T) ++ ⟨#[41]⟩) w) := by
 have y1 : (⟨#[40]⟩ : ByteArray).size ≤ 1 := by simp only [szA, List.length]; omega
 have w2 : ¬ 9223372036854775807 < 1 + T.size := by omega
 have y2 : ((⟨#[40]⟩ : ByteArray) ++ T).size ≤ 4201 := by simp only [ByteArray.size_append, szA, List.length]; omega
 have w3 : ¬ 9223372036854775807 < 1 + T.size + 1 := by omega
 obtain ⟨L, hL⟩ : ∃ L, levI op = L := ⟨_, rfl⟩
 have LV := Lib.hid fun w => level_any op w (by omega) (by omega)
 rw [hL] at LV hr
 have er : decide (L < req) = true := decide_eq_true (by omega)
 clear hL
 unfold StrRes at C ⊢
 obtain ⟨X, hX⟩ : ∃ X, w.alloc (.cells #[.int .i64 op, .int .i64 a, .int .i64 b, .int .i64 d, .string s, .slice ad n cap] 42) = X := ⟨_, rfl⟩
 have RX : Rel w X := by rw [← hX]; exact (Rel.refl _).alloc _
 have BT := Lib.hid (BoxAt.new (w := w) (g := w.heap.size) rfl (.int .i64 op) (.int .i64 a) (.int .i64 b) (.int .i64 d) (.string s) (.slice ad n cap) 42)
 rw [hX] at BT
 have bt := BT.out
 have c0 := bt.c0
 have c1 := bt.c1
 have c2 := bt.c2
 have c3 := bt.c3
 have c4 := bt.c4
 have c5 := bt.c5
 have RXw := Lib.hid RX
 clear RX BT bt
 go_enter Tryd.func35, Tryd.ntmps35
 go_wp2_with fail
 refine (LV.out _).mono ?_
 rintro e w1 ⟨rfl, rfl⟩
 go_wp2_with fail
 refine (C.out _ RXw.out).mono ?_
 rintro e w1 ⟨rfl, h1⟩
 have kz1 := h1.size
 (try simp only [World.size_alloc, World.size_setCell, World.size_drew] at kz1)
 have H1 := Lib.hid h1
 clear h1
 go_wp2
 go_ret
 exact ⟨rfl, RXw.out.trans H1.out⟩
def TextOk (t : Ex) : Prop := ∀ (x : Value) (w : World) (L : Int), Hid (TabW w) → ExKids t w x → 0 ≤ L → L ≤ 7 → Calls Tryd.prog 35 #[.agg #[.int .i64 t.op, .int .i64 t.va, .int .i64 t.vb, .int .i64 t.dm, .string t.nm, x], .int .i64 L] w (StrRes (t.put L) w)
theorem put_low {t : Ex} {L : Int} (h : ¬ levI t.op < L) : t.put L = t.bare := by unfold Ex.put parS; rw [if_neg (by simpa using h)]
theorem put_high {t : Ex} {L : Int} (h : levI t.op < L) : t.put L = (⟨#[40]⟩ ++ t.bare) ++ ⟨#[41]⟩ := by unfold Ex.put parS; rw [if_pos (by simpa using h)]
set_option maxHeartbeats 1000000 in
theorem text_all (t : Ex) : t.form = true → t.size ≤ 60 → TextOk t := by
  induction t with
  | no => intro h; simp [Ex.form] at h
  | mk op a b d s n kid ih =>
    intro hF hz
    obtain ⟨h1, h2⟩ := form_of hF
    obtain ⟨o1, o2⟩ := op_of h1
    have hn := nod_ar h1
    have low : ∀ (x : Value) (w : World) (L : Int), Hid (TabW w) → ExKids (.mk op a b d s n kid) w x → 0 ≤ L → ¬ levI op < L → Calls Tryd.prog 35 #[.agg #[.int .i64 op, .int .i64 a, .int .i64 b, .int .i64 d, .string s, x], .int .i64 L] w (StrRes (ndS op a b d s fun i l => (kid i).put l) w) := by
      intro x w L ht hK h0 hl
      obtain ⟨hb, hn', ad, cap, rfl, hk⟩ := hK
      have lv := lev_bd op
      have K : ∀ g off, (∀ i, i < n → ∃ xi, Six w g (off + i * 6) (kid i).op (kid i).va (kid i).vb (kid i).dm (kid i).nm xi ∧ ExKids (kid i) w xi) → ∀ i, i < n → TxK 35 w g off i (fun i l => (kid i).put l) := fun g off hc i hi => by
        obtain ⟨xi, q1, q2⟩ := hc i hi
        have hzi : (kid i).size ≤ 60 := by have := (kid_size (op := op) (a := a) (b := b) (d := d) (s := s) (kid := kid) hi).1; omega
        exact ⟨_, _, _, _, _, xi, q1, fun l => put_size (h2 i hi) hzi l, fun w' l r l0 l7 => ih i (h2 i hi) hzi xi w' l (Lib.hid (ht.out.rel r)) (kids_rel q2 r) l0 l7⟩
      by_cases h4 : 4 ≤ op
      · obtain ⟨g, off, rfl, hg, hc⟩ := hk (by unfold arI at hn; repeat' split at hn
                                               all_goals omega)
        have K' := K g off hc
        by_cases hbin : 7 ≤ op ∧ op ≤ 18
        · obtain rfl : n = 2 := by
            unfold arI at hn
            rw [if_neg (by omega), if_neg (by omega), if_pos (by omega)] at hn
            omega
          by_cases hl4 : levI op = 4
          · exact text_binr op 4 a b d s g off cap _ L w hbin.1 hbin.2 rfl hl4 (by omega) hg (K' 0 (by decide)) (K' 1 (by decide))
          · have hv := lev_bin hbin.1 hbin.2
            exact text_bino op (levI op) a b d s g off cap _ L w hbin.1 hbin.2 rfl (by omega) (by omega) hl4 (by omega) hg (K' 0 (by decide)) (K' 1 (by decide))
        rcases (show op = 4 ∨ op = 5 ∨ op = 6 ∨ op = 19 ∨ op = 20 ∨ op = 21 by omega) with rfl | rfl | rfl | rfl | rfl | rfl
        · obtain rfl : n = 1 := by simp [arI] at hn; omega
          exact text_4 a b d s g off cap _ L w (by have : levI 4 = 7 := rfl; omega) hg (K' 0 (by decide))
        · obtain rfl : n = 1 := by simp [arI] at hn; omega
          exact text_5 a b d s g off cap _ L w (by have : levI 5 = 3 := rfl; omega) hg (K' 0 (by decide))
        · obtain rfl : n = 1 := by simp [arI] at hn; omega
          exact text_6 a b d s g off cap _ L w (by have : levI 6 = 7 := rfl; omega) hg (K' 0 (by decide))
        · obtain rfl : n = 2 := by simp [arI] at hn; omega
          exact text_19 a b d s g off cap _ L w (by have : levI 19 = 7 := rfl; omega) hg (K' 0 (by decide)) (K' 1 (by decide))
        · obtain rfl : n = 2 := by simp [arI] at hn; omega
          exact text_20 a b d s g off cap _ L w (by have : levI 20 = 7 := rfl; omega) hg (K' 0 (by decide)) (K' 1 (by decide))
        · obtain rfl : n = 3 := by simp [arI] at hn; omega
          exact text_21 a b d s g off cap _ L w (by have : levI 21 = 0 := rfl; omega) hg (K' 0 (by decide)) (K' 1 (by decide)) (K' 2 (by decide))
      · rcases (show op = 1 ∨ op = 2 ∨ op = 3 by omega) with rfl | rfl | rfl
        · rw [nd_1]; exact text_1 a b d s ad n cap L w ht hb (by have : levI 1 = 7 := rfl; omega)
        · rw [nd_2]; exact text_2 a b d s ad n cap L w (by have : levI 2 = 7 := rfl; omega)
        · rw [nd_3]
          have ha : 1 ≤ a ∧ a ≤ 45 := by
            unfold nodB at h1
            simp at h1
            omega
          exact text_3 a b d s ad n cap L w ht ha.1 ha.2 (by have : levI 3 = 7 := rfl; omega)
    intro x w L ht hK h0 h7
    by_cases hl : levI op < L
    · rw [put_high (t := .mk op a b d s n kid) hl, bare_mk]
      have hlb := lev_bd op
      obtain ⟨xa, xc, rfl⟩ := kids_slice hK
      refine text_par op a b d s xa n xc L _ w o1 o2 hl ?_ (Lib.hid fun w' r => low _ w' 0 (Lib.hid (ht.out.rel r)) (kids_rel hK r) (Int.le_refl _) (by omega))
      have := put_size hF hz 0
      rwa [put_low (t := .mk op a b d s n kid) (by show ¬ levI op < 0; omega), bare_mk] at this
    · rw [put_low (t := .mk op a b d s n kid) hl, bare_mk]
      exact low x w L ht hK h0 hl
def SbRes (s : ByteArray) (b : Bool) (w : World) (e : Ending) (w' : World) : Prop := e = .returned (.tuple #[.string s, .bool b]) ∧ Rel w w'
def Ex.fmt (t : Ex) : ByteArray := if t.valid = true then t.put 0 else ⟨#[]⟩
theorem valid_form {t : Ex} (h : t.valid = true) : t.form = true ∧ t.size ≤ 60 := by
 unfold Ex.valid at h
 simp only [Bool.and_eq_true, decide_eq_true_eq] at h
 exact ⟨h.2.2, h.2.1⟩
set_option maxHeartbeats 4000000 in
theorem FormatExpr_any (t : Ex) (x : Value) (w : World) (h : ExKids t w x) (hz : t.size ≤ 1000000000000) (ht : Hid (TabW w)) :
  Calls Tryd.prog 16 #[.agg #[.int .i64 t.op, .int .i64 t.va, .int .i64 t.vb, .int .i64 t.dm, .string t.nm, x]] w (SbRes (Ex.fmt t) t.valid w) := by
 obtain ⟨xa, xc, rfl⟩ := kids_slice h
 have V := Lib.hid fun w' (r : Rel w w') => ValidExpr_any t _ w' (kids_rel h r) hz (Lib.hid (ht.out.rel r))
 unfold BRes at V
 unfold SbRes
 cases hv : t.valid
 ·have e : Ex.fmt t = ⟨#[]⟩ := by unfold Ex.fmt; rw [hv]; rfl
  rw [e]
  rw [hv] at V
  clear hv e
  go_enter Tryd.func16, Tryd.ntmps16
  go_wp2_with fail
  refine (V.out _ (by show Rel _ _; (show Rel _ _; repeat (first | with_reducible exact Rel.refl _ | with_reducible refine Rel.alloc ?_ _ | with_reducible refine Rel.setCell ?_ (by first | (simp; done) | (simp; omega)) _ | with_reducible refine Rel.drew ?_ | with_reducible refine Rel.trans ?_ H0.out)))).mono ?_
  rintro e w1 ⟨rfl, h1⟩
  have q := keep6 h1 (b := w.heap.size) (by first | (simp; done) | (simp; omega) | omega)
  have kc1_0_0 := q.1
  have kc1_0_1 := q.2.1
  have kc1_0_2 := q.2.2.1
  have kc1_0_3 := q.2.2.2.1
  have kc1_0_4 := q.2.2.2.2.1
  have kc1_0_5 := q.2.2.2.2.2.1
  have kf1_0_0 := q.2.2.2.2.2.2.1
  have kf1_0_1 := q.2.2.2.2.2.2.2.1
  have kf1_0_2 := q.2.2.2.2.2.2.2.2.1
  have kf1_0_3 := q.2.2.2.2.2.2.2.2.2.1
  have kf1_0_4 := q.2.2.2.2.2.2.2.2.2.2.1
  have kf1_0_5 := q.2.2.2.2.2.2.2.2.2.2.2.1
  have kl1_0 := q.2.2.2.2.2.2.2.2.2.2.2.2.1
  have kn1_0 := q.2.2.2.2.2.2.2.2.2.2.2.2.2.1
  have km1_0 := q.2.2.2.2.2.2.2.2.2.2.2.2.2.2
  clear q
  have kz1 := h1.size
  (try simp only [World.size_alloc, World.size_setCell, World.size_drew] at kz1)
  have H1 := Lib.hid h1
  clear h1
  go_wp2
  refine bodyPost_ret (v := .tuple #[.string ⟨#[]⟩, .bool false]) ?_ rfl ⟨rfl, by (show Rel _ _; repeat (first | with_reducible exact Rel.refl _ | with_reducible refine Rel.alloc ?_ _ | with_reducible refine Rel.setCell ?_ (by first | (simp; done) | (simp; omega)) _ | with_reducible refine Rel.drew ?_ | with_reducible refine Rel.trans ?_ H1.out | with_reducible refine Rel.trans ?_ H0.out))⟩
  simp [results, Tryd.results16, go_sem]
 ·have e : Ex.fmt t = t.put 0 := by unfold Ex.fmt; rw [hv]; rfl
  obtain ⟨hF, hz'⟩ := valid_form hv
  have T := Lib.hid fun w' (r : Rel w w') => text_all t hF hz' _ w' 0 (Lib.hid (ht.out.rel r)) (kids_rel h r) (by omega) (by omega)
  rw [e]
  rw [hv] at V
  unfold StrRes at T
  obtain ⟨S, hS⟩ : ∃ S, t.put 0 = S := ⟨_, rfl⟩
  rw [hS] at T ⊢
  clear hv e hS
  go_enter Tryd.func16, Tryd.ntmps16
  go_wp2_with fail
  refine (V.out _ (by show Rel _ _; (show Rel _ _; repeat (first | with_reducible exact Rel.refl _ | with_reducible refine Rel.alloc ?_ _ | with_reducible refine Rel.setCell ?_ (by first | (simp; done) | (simp; omega)) _ | with_reducible refine Rel.drew ?_ | with_reducible refine Rel.trans ?_ H0.out)))).mono ?_
  rintro e w1 ⟨rfl, h1⟩
  have q := keep6 h1 (b := w.heap.size) (by first | (simp; done) | (simp; omega) | omega)
  have kc1_0_0 := q.1
  have kc1_0_1 := q.2.1
  have kc1_0_2 := q.2.2.1
  have kc1_0_3 := q.2.2.2.1
  have kc1_0_4 := q.2.2.2.2.1
  have kc1_0_5 := q.2.2.2.2.2.1
  have kf1_0_0 := q.2.2.2.2.2.2.1
  have kf1_0_1 := q.2.2.2.2.2.2.2.1
  have kf1_0_2 := q.2.2.2.2.2.2.2.2.1
  have kf1_0_3 := q.2.2.2.2.2.2.2.2.2.1
  have kf1_0_4 := q.2.2.2.2.2.2.2.2.2.2.1
  have kf1_0_5 := q.2.2.2.2.2.2.2.2.2.2.2.1
  have kl1_0 := q.2.2.2.2.2.2.2.2.2.2.2.2.1
  have kn1_0 := q.2.2.2.2.2.2.2.2.2.2.2.2.2.1
  have km1_0 := q.2.2.2.2.2.2.2.2.2.2.2.2.2.2
  clear q
  have kz1 := h1.size
  (try simp only [World.size_alloc, World.size_setCell, World.size_drew] at kz1)
  have H1 := Lib.hid h1
  clear h1
  go_wp2_with fail
  refine (T.out _ (by show Rel _ _; (show Rel _ _; repeat (first | with_reducible exact Rel.refl _ | with_reducible refine Rel.alloc ?_ _ | with_reducible refine Rel.setCell ?_ (by first | (simp; done) | (simp; omega)) _ | with_reducible refine Rel.drew ?_ | with_reducible refine Rel.trans ?_ H1.out | with_reducible refine Rel.trans ?_ H0.out)))).mono ?_
  rintro e w2 ⟨rfl, h2⟩
  have q := keep6 h2 (b := w.heap.size) (by first | (simp; done) | (simp; omega) | omega)
  have kc2_0_0 := q.1
  have kc2_0_1 := q.2.1
  have kc2_0_2 := q.2.2.1
  have kc2_0_3 := q.2.2.2.1
  have kc2_0_4 := q.2.2.2.2.1
  have kc2_0_5 := q.2.2.2.2.2.1
  have kf2_0_0 := q.2.2.2.2.2.2.1
  have kf2_0_1 := q.2.2.2.2.2.2.2.1
  have kf2_0_2 := q.2.2.2.2.2.2.2.2.1
  have kf2_0_3 := q.2.2.2.2.2.2.2.2.2.1
  have kf2_0_4 := q.2.2.2.2.2.2.2.2.2.2.1
  have kf2_0_5 := q.2.2.2.2.2.2.2.2.2.2.2.1
  have kl2_0 := q.2.2.2.2.2.2.2.2.2.2.2.2.1
  have kn2_0 := q.2.2.2.2.2.2.2.2.2.2.2.2.2.1
  have km2_0 := q.2.2.2.2.2.2.2.2.2.2.2.2.2.2
  clear q
  have kz2 := h2.size
  (try simp only [World.size_alloc, World.size_setCell, World.size_drew] at kz2)
  have H2 := Lib.hid h2
  clear h2
  go_wp2
  refine bodyPost_ret (v := .tuple #[.string S, .bool true]) ?_ rfl ⟨rfl, by (show Rel _ _; repeat (first | with_reducible exact Rel.refl _ | with_reducible refine Rel.alloc ?_ _ | with_reducible refine Rel.setCell ?_ (by first | (simp; done) | (simp; omega)) _ | with_reducible refine Rel.drew ?_ | with_reducible refine Rel.trans ?_ H2.out | with_reducible refine Rel.trans ?_ H1.out | with_reducible refine Rel.trans ?_ H0.out))⟩
  simp [results, Tryd.results16, go_sem]
end Go.Proofs.YtohdmpchbiabmaaDoor

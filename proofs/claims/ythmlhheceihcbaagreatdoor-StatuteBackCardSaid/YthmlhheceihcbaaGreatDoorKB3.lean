/- Lemmas, each as it is printed; no conditions but those printed. -/
import Derived.Test.YthmlhheceihcbaaGreatDoorKB2
import Derived.Laws.RangeString
namespace Go.Proofs.YthmlhheceihcbaaGreatDoor
set_option maxHeartbeats 16000000
open Go.RowKit Cal Str Tok Frac Tryz
attribute [local go_sem] calmUpon
set_option linter.unusedVariables false
set_option linter.unusedSimpArgs false
def itSet (w : World) (i : Nat) (s : ByteArray) (pos : Nat) : World := { w with heap := w.heap.setIfInBounds i (.stringIter s pos) }
theorem itSet_heap (w : World) (i : Nat) (s : ByteArray) (pos k : Nat) (h : i < w.heap.size) : (itSet w i s pos).heap[k]? = if k = i then some (.stringIter s pos) else w.heap[k]? := by
 unfold itSet;simp only [Array.getElem?_setIfInBounds];by_cases e : i = k
 ·subst e; rw [if_pos rfl, if_pos h, if_pos rfl]
 ·rw [if_neg e, if_neg (fun h => e h.symm)]
@[simp] theorem itSet_size (w : World) (i : Nat) (s : ByteArray) (pos : Nat) : (itSet w i s pos).heap.size = w.heap.size := by simp [itSet]
theorem itSet_below {B : Nat} {a w : World} (h : Below B a w) (i : Nat) (s : ByteArray) (pos : Nat) (hi : B <= i) : Below B a (itSet w i s pos) :=
 h.trans ⟨rfl, rfl, rfl, by simp, fun k hk => by unfold itSet; simp only [Array.getElem?_setIfInBounds]; rw [if_neg (by omega)]⟩
theorem itSet_cell (w : World) (i : Nat) (s : ByteArray) (pos : Nat) (b o : Nat) (h : b ≠ i) : (itSet w i s pos).cell? ⟨b, o, none⟩ = w.cell? ⟨b, o, none⟩ :=
 World.cell?_of_block (w := w) (by unfold itSet; simp only [Array.getElem?_setIfInBounds]; rw [if_neg (Ne.symm h)])
theorem itSet_frozen (w : World) (i : Nat) (s : ByteArray) (pos : Nat) (b o : Nat) (h : b ≠ i) : (itSet w i s pos).frozen? ⟨b, o, none⟩ = w.frozen? ⟨b, o, none⟩ :=
 World.frozen?_of_block (w := w) (by unfold itSet; simp only [Array.getElem?_setIfInBounds]; rw [if_neg (Ne.symm h)])
theorem run_next_at (P : Program) (w : World) (i : Nat) (s : ByteArray) (pos : Nat) (ty : TypeId) (hi : w.heap[i]? = some (.stringIter s pos)) (h : pos < s.size) (ha : (s[pos]'h).toNat < 128) :
  (Instr.next (.pointer (some ⟨i, 0, none⟩)) true ty).run P w = .ok (.tuple #[.bool true, .int .i64 pos, .int .i32 (s[pos]'h).toNat]) (itSet w i s (pos + 1)) := by
 simp only [Instr.next, getObj, setObj, Sem.run_bind, Sem.run, hi, Result.andThen, h, if_true, decode_ascii s pos h ha];simp [goInt, Sem.run, hi, itSet]
theorem run_next_stop (P : Program) (w : World) (i : Nat) (s : ByteArray) (pos : Nat) (ty : TypeId) (hi : w.heap[i]? = some (.stringIter s pos)) (h : ¬ pos < s.size) :
  (Instr.next (.pointer (some ⟨i, 0, none⟩)) true ty).run P w = .ok (.tuple #[.bool false]) w := by
 simp [Instr.next, getObj, Sem.run, hi, h]
structure Duo (w wx : World) (g : Nat) (A B : Int) : Prop where
 rel : Rel w wx
 c0 : wx.cell? ⟨g, 0, none⟩ = some (.int .i64 A)
 c1 : wx.cell? ⟨g, 1, none⟩ = some (.int .i64 B)
 f0 : wx.frozen? ⟨g, 0, none⟩ = false
 f1 : wx.frozen? ⟨g, 1, none⟩ = false
 le : w.heap.size <= g
theorem Duo.lt {w wx : World} {g : Nat} {A B : Int} (h : Duo w wx g A B) : g < wx.heap.size := World.block_lt_of_cell? wx ⟨g, 0, none⟩ h.c0
theorem Duo.grow {w wx wy : World} {g : Nat} {A B : Int} (h : Duo w wx g A B) (r : Rel wx wy) : Duo w wy g A B :=
 ⟨h.rel.trans r, r.cell h.c0, r.cell h.c1, r.frozen h.lt h.f0, r.frozen h.lt h.f1, h.le⟩
theorem Duo.iter {w wx : World} {g : Nat} {A B : Int} (h : Duo w wx g A B) (i : Nat) (s : ByteArray) (pos : Nat) (hi : w.heap.size <= i) (hg : g ≠ i) : Duo w (itSet wx i s pos) g A B :=
 ⟨itSet_below h.rel i s pos hi, by rw [itSet_cell _ _ _ _ _ _ hg]; exact h.c0, by rw [itSet_cell _ _ _ _ _ _ hg]; exact h.c1, by rw [itSet_frozen _ _ _ _ _ _ hg]; exact h.f0, by rw [itSet_frozen _ _ _ _ _ _ hg]; exact h.f1, h.le⟩
theorem Duo.set0 {w wx : World} {g : Nat} {A B : Int} (h : Duo w wx g A B) (u : Int) : Duo w (wx.setCell ⟨g, 0, none⟩ (.int .i64 u)) g u B :=
 ⟨h.rel.setCell h.le _, World.cell?_setCell_same _ _ _ h.c0, by rw [World.cell?_setCell_other _ _ _ _ (by simp)]; exact h.c1, by rw [World.frozen?_setCell]; exact h.f0, by rw [World.frozen?_setCell]; exact h.f1, h.le⟩
theorem Duo.set1 {w wx : World} {g : Nat} {A B : Int} (h : Duo w wx g A B) (u : Int) : Duo w (wx.setCell ⟨g, 1, none⟩ (.int .i64 u)) g A u :=
 ⟨h.rel.setCell h.le _, by rw [World.cell?_setCell_other _ _ _ _ (by simp)]; exact h.c0, World.cell?_setCell_same _ _ _ h.c1, by rw [World.frozen?_setCell]; exact h.f0, by rw [World.frozen?_setCell]; exact h.f1, h.le⟩
theorem iter_keep {W w5 w6 : World} {i : Nat} {o : Obj} (I : W.heap[i]? = some o) (r : Rel W w5) (a : Addr) (u : Value) (hne : i ≠ a.block) (r6 : Rel (w5.setCell a u) w6) : w6.heap[i]? = some o := by
 have l1 : i < W.heap.size := (Array.getElem?_eq_some_iff.1 I).1;have e1 := Below.block r i l1;have l2 : i < (w5.setCell a u).heap.size := by have := Below.size r; simp; omega
 rw [Below.block r6 i l2, Below.heap_setCell _ _ _ _ hne, e1, I]
def lenS (a b : ByteArray) (p : Bool) : Bool := decide (1 <= a.size) && (decide (a.size <= 9) && (!(decide (2 <= a.size) && hd0 a.data.toList) && (!p || (decide (1 <= b.size) && decide (b.size <= 4)))))
theorem dec_len {s a b : ByteArray} {p : Bool} (ha : ahS (brS s) = a) (hb : bhS (brS s) = b) (hp : pnS (brS s) = p) : decB s = (lenS a b p && (strB a && strB b)) := by
 rw [decB_eq, ha, hb, hp]; rfl
theorem lenS_no1 {a b : ByteArray} {p : Bool} (h : a.size < 1) : lenS a b p = false := by
 unfold lenS; rw [dF (show ¬ 1 <= a.size by omega)]; rfl
theorem lenS_no9 {a b : ByteArray} {p : Bool} (h : 9 < a.size) : lenS a b p = false := by
 unfold lenS; rw [dF (show ¬ a.size <= 9 by omega)]; simp
theorem lenS_no0 {a b : ByteArray} {p : Bool} (h : 2 <= a.size) (h0 : (a[0].toNat : Int) = 48) : lenS a b p = false := by
 have e : hd0 a.data.toList = true := by rw [hd0_at (by omega)]; simpa using h0
 unfold lenS; rw [e, decide_eq_true h]; simp
theorem lenS_nob {a b : ByteArray} (h : ¬ (1 <= b.size /\ b.size <= 4)) : lenS a b true = false := by
 have : (decide (1 <= b.size) && decide (b.size <= 4)) = false := by
  cases hx : (decide (1 <= b.size) && decide (b.size <= 4))
  ·rfl
  ·simp only [Bool.and_eq_true, decide_eq_true_eq] at hx; exact absurd hx h
 unfold lenS; rw [this]; simp
theorem lenS_yes {a b : ByteArray} {p : Bool} (h1 : 1 <= a.size) (h9 : a.size <= 9) (h0 : a.size <= 1 \/ ∃ h : 0 < a.size, ¬ ((a[0]'h).toNat : Int) = 48) (hb4 : p = true -> 1 <= b.size /\ b.size <= 4) : lenS a b p = true := by
 have e3 : (decide (2 <= a.size) && hd0 a.data.toList) = false := by
  rcases h0 with h0 | ⟨h, h0⟩
  ·rw [dF (show ¬ 2 <= a.size by omega)]; rfl
  ·have : hd0 a.data.toList = false := by rw [hd0_at h]; simpa using h0
   rw [this]; simp
 have e4 : (!p || (decide (1 <= b.size) && decide (b.size <= 4))) = true := by
  cases p
  ·rfl
  ·have := hb4 rfl; simp; exact this
 unfold lenS; rw [decide_eq_true h1, decide_eq_true h9, e3, e4]; rfl
theorem lenS_bd {s a b : ByteArray} {p : Bool} (ha : ahS (brS s) = a) (hb : bhS (brS s) = b) (hp : pnS (brS s) = p) (h : lenS a b p = true) : 1 <= a.size /\ a.size <= 9 /\ b.size <= 4 := by
 have hz := noS (brS s);rw [hp, hb] at hz;unfold lenS at h;simp only [Bool.and_eq_true, decide_eq_true_eq, Bool.or_eq_true] at h;obtain ⟨h1, h2, h3, h4⟩ := h;refine ⟨h1, h2, ?_⟩
 rcases h4 with h4 | h4
 ·have := (hz (by simpa using h4)).2; rw [this]; decide
 ·exact h4.2
theorem dec_ret_no {s : ByteArray} {w w' : World} (h : decB s = false) (r : Rel w w') : DecRes s w (.returned (.tuple #[.agg #[.int .i64 0, .int .i64 0], .int .i64 0, .bool false])) w' := by
 unfold DecRes; rw [(dec_no h).1, (dec_no h).2.1, (dec_no h).2.2, h]; exact ⟨rfl, r⟩
theorem vb {x y : Bool} (h : x = y) : Value.bool x = .bool y := by rw [h]
set_option maxRecDepth 100000 in
theorem Decimal_any (s : ByteArray) (w : World) (hs : s.size <= maxLen) :
  Calls prog 95 #[.string s] w (DecRes s w) := by
 have hs0 := hs;unfold maxLen at hs;obtain ⟨t, ht⟩ : ∃ t, brS s = t := ⟨_, rfl⟩;obtain ⟨d, hd⟩ : ∃ d, sufI s = d := ⟨_, rfl⟩;have hts : t.size <= 9223372036854775807 := by have := br_size s; rw [ht] at this; omega
 obtain ⟨c, hc⟩ : ∃ c : Bool, c = decide (d = 3) := ⟨_, rfl⟩;obtain ⟨a, ha⟩ : ∃ a, ahS t = a := ⟨_, rfl⟩;obtain ⟨b, hb⟩ : ∃ b, bhS t = b := ⟨_, rfl⟩;obtain ⟨p, hp⟩ : ∃ p, pnS t = p := ⟨_, rfl⟩
 have CUT : Hid (∀ w, Calls prog 134 #[.string t, .string ⟨#[46]⟩] w fun e w' => e = .returned (.tuple #[.string a, .string b, .bool p]) /\ Rel w w') := fun w => by
  have := cut_any t w (by unfold maxLen; omega); rwa [ha, hb, hp] at this
 have hasz : a.size <= 9223372036854775807 := by
  rw [<- ha, ahS_size]; have := ahd_len t.data.toList; rw [size_list] at this; omega
 have hbsz : b.size <= 9223372036854775807 := by
  rw [<- hb, bhS_size]; have := bhd_len t.data.toList; rw [size_list] at this; omega
 rw [<- ht] at ha hb hp;have HA := Hj ha;have HB := Hj hb;have HP := Hj hp;have HT := Hj ht;have HC := Hj hc;have HD := Hj hd;clear ht hd hc ha hb hp hs0;go_enter func95, ntmps95;go_upto_region 3 with (fail)
 go_cut [25] (fun s25 wx => s25 = .bool c /\ w.alloc (.cells #[.int .i64 0, .int .i64 0] 54) = wx)
 case first =>
  by_cases h0 : 0 < s.size
  ·have i1 : IntKind.i64.wrap ((s.size : Int) - 1) = (s.size : Int) - 1 := IntWalk.i64_in _ ⟨by omega, by omega⟩;have i2 : ((s.size : Int) - 1).toNat = s.size - 1 := by omega
   have i3 : (0 : Int) <= (s.size : Int) - 1 := by omega
   have i4 : (1 : Int) <= (s.size : Int) := by omega
   have i5 : s.size - 1 < s.size := by omega
   by_cases h1 : ((s[s.size - 1]'(by omega)).toNat : Int) = 100
   ·have e1 := (suf_d h0 h1).1;rw [HD.out] at e1;have E1 := Hj e1;have b1 : (((s[s.size - 1]'(by omega)).toNat : Int) == 100) = true := by simpa using h1
    clear e1 h1;go_wp2
    go_meet
    case rel => exact ⟨by rw [HC.out, E1.out]; rfl, rfl⟩
   ·have b1 : (((s[s.size - 1]'(by omega)).toNat : Int) == 100) = false := by simpa using h1
    have E1 : Hid (d = 2 \/ d = 4) := by
     show _ \/ _
     rw [<- HD.out];by_cases h2 : ((s[s.size - 1]'(by omega)).toNat : Int) = 109
     ·exact .inr (suf_m h0 h2).1
     ·exact .inl (suf_n h0 h1 h2).1
    clear h1;go_wp2
    go_meet
    case rel => exact ⟨by rw [HC.out, dF (by rcases E1.out with h | h <;> rw [h] <;> decide)], rfl⟩
  ·have e1 := (suf_nil h0).1;rw [HD.out] at e1;have E1 := Hj e1;clear e1;go_wp2
   go_meet
   case rel => exact ⟨by rw [HC.out, E1.out]; rfl, rfl⟩
 case rest =>
  obtain ⟨rfl, rfl⟩ := hcut;go_upto_if 25 with (fail)
  go_cut [0, 3] (fun s0 s3 wx => s0 = .string t /\ s3 = .int .i64 d /\ w.alloc (.cells #[.int .i64 0, .int .i64 0] 54) = wx)
  case first =>
   by_cases h0 : 0 < s.size
   ·have i1 : IntKind.i64.wrap ((s.size : Int) - 1) = (s.size : Int) - 1 := IntWalk.i64_in _ ⟨by omega, by omega⟩;have i2 : ((s.size : Int) - 1).toNat = s.size - 1 := by omega
    have i3 : (0 : Int) <= (s.size : Int) - 1 := by omega
    have i4 : (1 : Int) <= (s.size : Int) := by omega
    have i5 : s.size - 1 < s.size := by omega
    by_cases h1 : ((s[s.size - 1]'(by omega)).toNat : Int) = 100
    ·obtain ⟨e1, e2⟩ := suf_d h0 h1;rw [HD.out] at e1;rw [HT.out] at e2;obtain rfl : c = true := by rw [HC.out, e1]; rfl
     have E1 := Hj e1;have E2 := Hj e2;clear e1 e2 h1;go_wp2
     go_meet
     case rel => exact ⟨by rw [E2.out], by rw [E1.out], rfl⟩
    ·by_cases h2 : ((s[s.size - 1]'(by omega)).toNat : Int) = 109
     ·obtain ⟨e1, e2⟩ := suf_m h0 h2;rw [HD.out] at e1;rw [HT.out] at e2;obtain rfl : c = false := by rw [HC.out, e1]; rfl
      have E1 := Hj e1;have E2 := Hj e2;have b2 : (((s[s.size - 1]'(by omega)).toNat : Int) == 109) = true := by simpa using h2
      clear e1 e2 h1 h2;go_wp2
      go_meet
      case rel => exact ⟨by rw [E2.out], by rw [E1.out], rfl⟩
     ·obtain ⟨e1, e2⟩ := suf_n h0 h1 h2;rw [HD.out] at e1;rw [HT.out] at e2;obtain rfl : c = false := by rw [HC.out, e1]; rfl
      have E1 := Hj e1;have E2 := Hj e2;have b2 : (((s[s.size - 1]'(by omega)).toNat : Int) == 109) = false := by simpa using h2
      clear e1 e2 h1 h2;go_wp2
      go_meet
      case rel => exact ⟨by rw [E2.out], by rw [E1.out], rfl⟩
   ·obtain ⟨e1, e2⟩ := suf_nil h0;rw [HD.out] at e1;rw [HT.out] at e2;obtain rfl : c = false := by rw [HC.out, e1]; rfl
    have E1 := Hj e1;have E2 := Hj e2;clear e1 e2;go_wp2
    go_meet
    case rel => exact ⟨by rw [E2.out], by rw [E1.out], rfl⟩
  case rest =>
   obtain ⟨rfl, rfl, rfl⟩ := hcut;clear hs hts;go_wp2_with fail
   with_reducible refine (CUT.out _).mono ?_
   rintro e w1 ⟨rfl, h1⟩;have T1 : Hid (Duo w w1 w.heap.size 0 0) := (show Duo w (w.alloc (.cells #[.int .i64 0, .int .i64 0] 54)) w.heap.size 0 0 from ⟨(Rel.refl _).alloc _, by simp, by simp, by simp, by simp, Nat.le_refl _⟩).grow h1;clear h1;go_upto_region 8 with (fail)
   go_cut [79] (fun s79 wx => s79 = .bool (!lenS a b p) /\ w1 = wx)
   case first =>
    by_cases g1 : 1 <= a.size
    ·by_cases g9 : a.size <= 9
     ·have hcases : (a.size <= 1 \/ ∃ h : 0 < a.size, ¬ ((a[0]'h).toNat : Int) = 48) \/ (2 <= a.size /\ ∃ h : 0 < a.size, ((a[0]'h).toNat : Int) = 48) := by
       by_cases g2 : a.size <= 1
       ·exact .inl (.inl g2)
       ·by_cases h48 : ((a[0]'(by omega)).toNat : Int) = 48
        ·exact .inr ⟨by omega, by omega, h48⟩
        ·exact .inl (.inr ⟨by omega, h48⟩)
      rcases hcases with hok | ⟨g2, gp, h48⟩
      ·obtain ⟨L, hL⟩ : ∃ L, Hid (lenS a b p = L) := ⟨_, rfl⟩
       have k : ((p = false /\ L = true) \/ (p = true /\ b.size < 1 /\ L = false) \/ (p = true /\ 1 <= b.size /\ 4 < b.size /\ L = false) \/ (p = true /\ 1 <= b.size /\ b.size <= 4 /\ L = true)) := by
        rw [<- hL.out];clear hL;cases p
        ·exact .inl ⟨rfl, lenS_yes g1 g9 hok (fun h => by cases h)⟩
        ·rcases (show b.size < 1 \/ (1 <= b.size /\ 4 < b.size) \/ (1 <= b.size /\ b.size <= 4) by omega) with h | ⟨h, h'⟩ | ⟨h, h'⟩
         ·exact .inr (.inl ⟨rfl, h, lenS_nob (by omega)⟩)
         ·exact .inr (.inr (.inl ⟨rfl, h, h', lenS_nob (by omega)⟩))
         ·exact .inr (.inr (.inr ⟨rfl, h, h', lenS_yes g1 g9 hok (fun _ => ⟨h, h'⟩)⟩))
       have hok2 : a.size <= 1 \/ (2 <= a.size /\ ∃ h : 0 < a.size, (((a[0]'h).toNat : Int) == 48) = false) := by
        rcases hok with h | ⟨h, h'⟩
        ·exact .inl h
        ·by_cases h2 : a.size <= 1
         ·exact .inl h2
         ·exact .inr ⟨by omega, h, by simpa using h'⟩
       clear hok
       rcases hok2 with g2 | ⟨g2, gp, b48⟩
       all_goals
        rcases k with ⟨rfl, rfl⟩ | ⟨rfl, hb1, rfl⟩ | ⟨rfl, hb1, hb4, rfl⟩ | ⟨rfl, hb1, hb4, rfl⟩
        all_goals
         go_wp2
         go_meet
         case rel => exact ⟨by rw [hL.out]; exact vb (by first | rfl | (rw [Bool.eq_iff_iff]; simp; omega)), rfl⟩
      ·have hL := Hj (lenS_no0 (b := b) (p := p) g2 h48);have b48 : (((a[0]'gp).toNat : Int) == 48) = true := by simpa using h48
       clear h48;go_wp2
       go_meet
       case rel => exact ⟨by rw [hL.out]; exact vb (by first | rfl | (rw [Bool.eq_iff_iff]; simp; omega)), rfl⟩
     ·have g9' : 9 < a.size := by omega
      have hL := Hj (lenS_no9 (b := b) (p := p) g9');clear g9;go_wp2
      go_meet
      case rel => exact ⟨by rw [hL.out]; exact vb (by first | rfl | (rw [Bool.eq_iff_iff]; simp; omega)), rfl⟩
    ·have g1' : a.size < 1 := by omega
     have hL := Hj (lenS_no1 (b := b) (p := p) g1');clear g1;go_wp2
     go_meet
     case rel => exact ⟨by rw [hL.out]; exact vb (by first | rfl | (rw [Bool.eq_iff_iff]; simp; omega)), rfl⟩
   case rest =>
    obtain ⟨rfl, rfl⟩ := hcut;have hdl := dec_len HA.out HB.out HP.out;obtain ⟨c0, c1, f0, f1, lt⟩ : _ /\ _ /\ _ /\ _ /\ _ := ⟨T1.out.c0, T1.out.c1, T1.out.f0, T1.out.f1, T1.out.lt⟩;have R1 := Hj T1.out.rel
    cases hL : lenS a b p
    ·have hn : Hid (decB s = false) := by show _ = _; rw [hdl, hL]; rfl
     clear hdl;refine gw ?_;refine bodyPost_ret (v := .tuple #[.agg #[.int .i64 0, .int .i64 0], .int .i64 0, .bool false]) ?_ rfl (dec_ret_no hn.out ?_)
     ·simp [results, results95, go_sem, c0, c1]
     ·exact (R1.out.setCell (Nat.le_refl _) _).setCell (Nat.le_refl _) _
    ·obtain ⟨a1, a9, b4⟩ := lenS_bd HA.out HB.out HP.out hL;rw [hL] at hdl
     cases hA1 : strB a
     ·have hn : Hid (decB s = false) := by show _ = _; rw [hdl, hA1]; rfl
      have NA : Hid (∀ w, Calls prog 135 #[.string a] w fun e w' => e = .returned (.tuple #[.int .i64 (strV a), .bool false]) /\ w = w') := fun w => by
       have := natural_any a w (by omega); rwa [hA1] at this
      clear hdl hA1;go_wp2_with fail
      with_reducible refine (NA.out _).mono ?_
      rintro e w2 ⟨rfl, rfl⟩;go_wp2_with fail
      with_reducible refine (natural_any _ _ (by omega)).mono ?_
      rintro e w2 ⟨rfl, rfl⟩;refine gw ?_;refine bodyPost_ret (v := .tuple #[.agg #[.int .i64 0, .int .i64 0], .int .i64 0, .bool false]) ?_ rfl (dec_ret_no hn.out ?_)
      ·simp [results, results95, go_sem, c0, c1]
      ·exact (R1.out.setCell (Nat.le_refl _) _).setCell (Nat.le_refl _) _
     ·cases hB1 : strB b
      ·have hn : Hid (decB s = false) := by show _ = _; rw [hdl, hA1, hB1]; rfl
       have NA : Hid (∀ w, Calls prog 135 #[.string a] w fun e w' => e = .returned (.tuple #[.int .i64 (strV a), .bool true]) /\ w = w') := fun w => by
        have := natural_any a w (by omega); rwa [hA1] at this
       have NB : Hid (∀ w, Calls prog 135 #[.string b] w fun e w' => e = .returned (.tuple #[.int .i64 (strV b), .bool false]) /\ w = w') := fun w => by
        have := natural_any b w (by omega); rwa [hB1] at this
       clear hdl hA1 hB1;go_wp2_with fail
       with_reducible refine (NA.out _).mono ?_
       rintro e w2 ⟨rfl, rfl⟩;go_wp2_with fail
       with_reducible refine (NB.out _).mono ?_
       rintro e w2 ⟨rfl, rfl⟩;refine gw ?_;refine bodyPost_ret (v := .tuple #[.agg #[.int .i64 0, .int .i64 0], .int .i64 0, .bool false]) ?_ rfl (dec_ret_no hn.out ?_)
       ·simp [results, results95, go_sem, c0, c1]
       ·exact (R1.out.setCell (Nat.le_refl _) _).setCell (Nat.le_refl _) _
      ·have hn : decB s = true := by rw [hdl, hA1, hB1]; rfl
       clear hdl;obtain ⟨g1, g2, g3⟩ := dig_of HA.out HB.out;have vA : strV a = val a.data.toList := by unfold strV; exact numV_yes hA1
       have vB : strV b = val b.data.toList := by unfold strV; exact numV_yes hB1
       obtain ⟨x0, hx0⟩ : ∃ x0, strV a = x0 := ⟨_, rfl⟩;obtain ⟨y0, hy0⟩ : ∃ y0, strV b = y0 := ⟨_, rfl⟩;have bx := val_bd _ hA1;have by' := val_bd _ hB1
       rw [<- vA, hx0, size_list] at bx;rw [<- vB, hy0, size_list] at by'
       have px := Nat.pow_le_pow_right (n := 10) (by decide) a9;have py := Nat.pow_le_pow_right (n := 10) (by decide) b4;have x1 : 0 <= x0 := bx.1;have x2 : x0 < 1000000000 := by omega
       have y1 : 0 <= y0 := by'.1
       have y2 : y0 < 10000 := by omega
       rw [<- vA, <- vB, hx0, hy0] at g3;obtain ⟨d0, hd0⟩ : ∃ d0, ((10 ^ b.size : Nat) : Int) = d0 := ⟨_, rfl⟩;obtain ⟨n0, hn0⟩ : ∃ n0, x0 * ((10 ^ b.size : Nat) : Int) + y0 = n0 := ⟨_, rfl⟩
       have RES : Hid (∀ N D, Red n0 d0 N D -> ¬ (N % 2 = 0 /\ D % 2 = 0) -> ¬ (N % 5 = 0 /\ D % 5 = 0) -> decN s = N /\ decD s = D /\ decX s = d /\ decB s = true) := by
        intro N D hr n2 n5;rw [<- hd0, <- hn0] at hr;obtain ⟨r1, r2, r3⟩ := dec_yes hn;have hb := dig_bd (l := (brS s).data.toList) hn;rw [g3, g2] at hb;rw [r1, r2, r3, g3, g2, HD.out];obtain ⟨q1, q2⟩ := hr.fin (by omega) hb.1 hb.2.1 hb.2.2.2 n2 n5;exact ⟨q1, q2, rfl, hn⟩
       have START : Hid (Red n0 d0 n0 d0) := by
        rw [<- hd0, <- hn0];have hb := dig_bd (l := (brS s).data.toList) hn;rw [g3, g2] at hb;exact Red.start hb.1 hb.2.1 hb.2.2.1 (dvd_ten _ b4)
       have NA : Hid (∀ w, Calls prog 135 #[.string a] w fun e w' => e = .returned (.tuple #[.int .i64 x0, .bool true]) /\ w = w') := fun w => by
        have := natural_any a w (by omega); rwa [hx0, hA1] at this
       have NB : Hid (∀ w, Calls prog 135 #[.string b] w fun e w' => e = .returned (.tuple #[.int .i64 y0, .bool true]) /\ w = w') := fun w => by
        have := natural_any b w (by omega); rwa [hy0, hB1] at this
       have ALLB : Hid (allD b.data.toList = true) := hB1;have HN0 := Hj hn0;have HD0 := Hj hd0;clear hn0 hd0;clear g1 g2 g3 vA vB hx0 hy0 bx by' px py hn hA1 hB1 hL
       go_wp2_with fail
       with_reducible refine (NA.out _).mono ?_
       rintro e w2 ⟨rfl, rfl⟩;go_wp2_with fail
       with_reducible refine (NB.out _).mono ?_
       rintro e w2 ⟨rfl, rfl⟩;have T2 : Hid (Duo w ((w1.setCell ⟨w.heap.size, 1, none⟩ (.int .i64 1)).iter b 0) w.heap.size 0 1) := ((T1.out.set1 1).grow ((Rel.refl _).alloc _))
       have I2 : Hid (((w1.setCell ⟨w.heap.size, 1, none⟩ (.int .i64 1)).iter b 0).heap[w1.heap.size]? = some (.stringIter b 0)) := by
        have := World.iter_heap (w1.setCell ⟨w.heap.size, 1, none⟩ (.int .i64 1)) b 0;show _ = _; simpa using this
       go_wp2;clear c0 c1 f0 f1
       go_loopg [9] b.size (fun g s9 wx => ∃ (k : Nat) (X Y : Int), k + g = b.size /\ s9 = .int .i64 X /\ Hid (X = x0 * ((10 ^ k : Nat) : Int)) /\ Hid (Y = ((10 ^ k : Nat) : Int)) /\ Hid (Duo w wx w.heap.size 0 Y) /\ Hid (wx.heap[w1.heap.size]? = some (.stringIter b k)))
       case atStart => exact ⟨0, x0, 1, by omega, rfl, by show _ = _; simp, by show _ = _; simp, T2, I2⟩
       case round =>
        obtain ⟨k, X, Y, hk, rfl, hX, hY, hT, hI⟩ := hrel;obtain ⟨q1, q4⟩ := pow_bd k 0 (by omega);rw [Nat.sub_zero] at q1 q4;have xk : 0 <= x0 * ((10 ^ k : Nat) : Int) := Int.mul_nonneg x1 (by omega);have xk2 : x0 * ((10 ^ k : Nat) : Int) <= 1000000000 * ((10 ^ k : Nat) : Int) := Int.mul_le_mul_of_nonneg_right (by omega) (by omega);rw [<- hX.out] at xk xk2;rw [<- hY.out] at xk2 q1 q4;have xk3 : X <= 10000000000000 := by omega
        clear xk2
        cases gk with
        | zero =>
         obtain rfl : k = b.size := by omega
         have hstop := fun ty => run_next_stop prog wr w1.heap.size b b.size ty hI.out (by omega)
         have S0 : Hid (Red n0 d0 (X + y0) Y) := by
          have e1 : X + y0 = n0 := by rw [hX.out, HN0.out]
          have e2 : Y = d0 := by rw [hY.out, HD0.out]
          show Red _ _ _ _
          rw [e1, e2]; exact START.out
         obtain ⟨c0, c1, f0, f1, lt2⟩ : _ /\ _ /\ _ /\ _ /\ _ := ⟨hT.out.c0, hT.out.c1, hT.out.f0, hT.out.f1, hT.out.lt⟩;have T5 := Hj (hT.out.set0 (X + y0));go_wp2;clear c0 c1 f0 f1 hstop
         go_loopg [114] 2 (fun g s114 wx => ∃ (i : Nat) (N D : Int), i + g = 2 /\ s114 = .int .i64 i /\ Hid (Red n0 d0 N D) /\ Hid (Duo w wx w.heap.size N D) /\ Hid (1 <= i -> ¬ (N % 2 = 0 /\ D % 2 = 0)) /\ Hid (2 <= i -> ¬ (N % 5 = 0 /\ D % 5 = 0)))
         case atStart => exact ⟨0, _, _, by omega, rfl, S0, T5, by intro h; omega, by intro h; omega⟩
         case round =>
          obtain ⟨i, N, D, hi, rfl, hR, hD2, hn2, hn5⟩ := hrel;obtain ⟨c0, c1, f0, f1, lt3⟩ : _ /\ _ /\ _ /\ _ /\ _ := ⟨hD2.out.c0, hD2.out.c1, hD2.out.f0, hD2.out.f1, hD2.out.lt⟩;have RR := Hj hD2.out.rel
          cases gk with
          | zero =>
           obtain rfl : i = 2 := by omega
           have RET : Hid (∀ w', Rel w w' -> DecRes s w (.returned (.tuple #[.agg #[.int .i64 N, .int .i64 D], .int .i64 d, .bool true])) w') := fun w' r => by
            obtain ⟨e1, e2, e3, e4⟩ := RES.out N D hR.out (hn2.out (by omega)) (hn5.out (by omega));unfold DecRes;rw [e1, e2, e3, e4];exact ⟨rfl, r⟩
           refine gw ?_;refine bodyPost_ret (v := .tuple #[.agg #[.int .i64 N, .int .i64 D], .int .i64 d, .bool true]) ?_ rfl (RET.out _ ?_)
           ·simp [results, results95, go_sem, c0, c1]
           ·exact (RR.out.setCell (Nat.le_refl _) _).setCell (Nat.le_refl _) _
          | succ g =>
           clear c0 c1 f0 f1;have hi2 : (i = 0 /\ g = 1) \/ (i = 1 /\ g = 0) := by omega
           rcases hi2 with ⟨rfl, rfl⟩ | ⟨rfl, rfl⟩
           ·have T6 := Hj hD2.out;have ix : ∀ w, (Instr.index 178 (.agg #[.int .i64 2, .int .i64 5]) (.int .i64 0)).run prog w = .ok (.int .i64 2) w := fun _ => by kernel_rfl
            clear hD2;go_wp2;clear ix
            go_loopg [] D.toNat (fun g wx => ∃ (N D : Int), D.toNat <= g /\ Hid (Red n0 d0 N D) /\ Hid (Duo w wx w.heap.size N D) /\ Hid (1 <= 0 -> ¬ (N % 2 = 0 /\ D % 2 = 0)))
            case atStart => exact ⟨N, D, Nat.le_refl _, hR, T6, hn2⟩
            case round =>
             clear hR T6 hn2 hn5 RR;obtain ⟨N, D, hle, hR, hD2, hn2⟩ := hrel;obtain ⟨c0, c1, f0, f1, lt4⟩ : _ /\ _ /\ _ /\ _ /\ _ := ⟨hD2.out.c0, hD2.out.c1, hD2.out.f0, hD2.out.f1, hD2.out.lt⟩;have N0 := hR.out.n0;have D0 := hR.out.pos;have N1 := hR.out.nle;have D1 := hR.out.le;by_cases hN : N % 2 = 0
             ·by_cases hDp : D % 2 = 0
              ·obtain ⟨S1, S2⟩ := hR.out.step (p := 2) (by omega) hN hDp;have HS1 := Hj S1
               have hn2' : Hid (1 <= 0 -> ¬ (N / 2 % 2 = 0 /\ D / 2 % 2 = 0)) := fun h1 => by
                have := hn2.out h1; omega
               cases gk with
               | zero => omega
               | succ g =>
                have bN : ((N % 2 : Int) == 0) = true := by simpa using hN
                have bD : ((D % 2 : Int) == 0) = true := by simpa using hDp
                have tN : Int.tdiv N 2 = N / 2 := by rw [Int.tdiv_eq_ediv_of_nonneg (by omega)]
                have tD : Int.tdiv D 2 = D / 2 := by rw [Int.tdiv_eq_ediv_of_nonneg (by omega)]
                have wN : IntKind.i64.wrap (N / 2) = N / 2 := IntWalk.i64_in _ ⟨by omega, by omega⟩;have wD : IntKind.i64.wrap (D / 2) = D / 2 := IntWalk.i64_in _ ⟨by omega, by omega⟩;have leg : (D / 2).toNat <= g := by omega
                clear S1 S2 hN hDp;go_wp2;refine wp_region_calm (fun M w' => M.getD 9 false = false -> w'.cell? { block := w.heap.size, off := 0 } = some (.int .i64 N) /\ w'.cell? { block := w.heap.size, off := 1 } = some (.int .i64 D)) (fun i => i == 9) [0, 1, 2, 3, 4, 5, 6, 7, 8] 3 (by kernel_rfl) (by kernel_rfl) ?hst ?hS0 (fun w0 h0 => ?_)
                case hst => exact fun _ _ _ h r hM => ⟨r.cell (h hM).1, r.cell (h hM).2⟩
                case hS0 => exact fun _ => ⟨c0, c1⟩
                iterate 6
                 refine wcg ?_;apply ei
                 ·intro M w hM hS;have hS := hS (hM 9 (by kernel_rfl));have e0 := hS.1;have e1 := hS.2;unfold calmAt;go_simp;exact ⟨rfl, Rel.refl _⟩
                iterate 3
                 refine wcg ?_;apply ei
                 ·intro M w hM hS;unfold calmAt;go_simp;exact ⟨rfl, Rel.refl _⟩
                refine wpCalm_nil ?_;have kq0 := keep2 h0 (b := w.heap.size) (by first | (simp; done) | (simp; omega) | omega);have kz4 := h0.size;(try simp only [zsa, zsc, zsd] at kz4);have H4 := Hj h0;clear h0;refine wao 9 (fun w5 h5 K' hK' => ?_);have kq1 := keep2 h5 (b := w.heap.size) (by first | (simp; done) | (simp; omega) | omega);have kz5 := h5.size;(try simp only [zsa, zsc, zsd] at kz5);have H5 := Hj h5;clear h5;go_simp;refine hK'.out _ _ (fun h => absurd (h.symm.trans (by kernel_rfl : _ = true)) (by simp)) ?_;clear hK' K';refine wao 10 (fun w6 h6 K' hK' => ?_);have kq2 := keep2 h6 (b := w.heap.size) (by first | (simp; done) | (simp; omega) | omega);have kz6 := h6.size;(try simp only [zsa, zsc, zsd] at kz6);have H6 := Hj h6;clear h6;go_simp;refine hK'.out _ _ (fun h => absurd (h.symm.trans (by kernel_rfl : _ = true)) (by simp)) ?_;clear hK' K';refine wao 11 (fun w7 h7 K' hK' => ?_);have kq3 := keep2 h7 (b := w.heap.size) (by first | (simp; done) | (simp; omega) | omega);have kz7 := h7.size;(try simp only [zsa, zsc, zsd] at kz7);have H7 := Hj h7;clear h7;go_simp;refine hK'.out _ _ (fun h => absurd (h.symm.trans (by kernel_rfl : _ = true)) (by simp)) ?_;clear hK' K';refine wpAnyR_end (by kernel_rfl) (fun w8 h8 => ?_);(try simp only [Act.put, zla, zlb, zlc]);have kq4 := keep2 h8 (b := w.heap.size) (by first | (simp; done) | (simp; omega) | omega);have kz8 := h8.size;(try simp only [zsa, zsc, zsd] at kz8);have H8 := Hj h8;clear h8;go_wp2
                go_roundg g
                case rel => exact ⟨N / 2, D / 2, leg, HS1, ((((hD2.out.grow (H4.out.trans H5.out)).set0 (N / 2)).grow (H6.out.trans H7.out)).set1 (D / 2)).grow H8.out, hn2'⟩
                case measure => omega
              ·have bN : ((N % 2 : Int) == 0) = true := by simpa using hN
               have bD : ((D % 2 : Int) == 0) = false := by simpa using hDp
               have hnn : Hid (¬ (N % 2 = 0 /\ D % 2 = 0)) := fun h => hDp h.2
               clear hN hDp;go_wp2
               go_roundg 1
               case rel => exact ⟨1, N, D, rfl, rfl, hR, hD2, fun _ => hnn.out, fun h => by omega⟩
               case measure => omega
             ·have bN : ((N % 2 : Int) == 0) = false := by simpa using hN
              have hnn : Hid (¬ (N % 2 = 0 /\ D % 2 = 0)) := fun h => hN h.1
              clear hN;go_wp2
              go_roundg 1
              case rel => exact ⟨1, N, D, rfl, rfl, hR, hD2, fun _ => hnn.out, fun h => by omega⟩
              case measure => omega
           ·have T6 := Hj hD2.out;have ix : ∀ w, (Instr.index 178 (.agg #[.int .i64 2, .int .i64 5]) (.int .i64 1)).run prog w = .ok (.int .i64 5) w := fun _ => by kernel_rfl
            clear hD2;go_wp2;clear ix
            go_loopg [] D.toNat (fun g wx => ∃ (N D : Int), D.toNat <= g /\ Hid (Red n0 d0 N D) /\ Hid (Duo w wx w.heap.size N D) /\ Hid (1 <= 1 -> ¬ (N % 2 = 0 /\ D % 2 = 0)))
            case atStart => exact ⟨N, D, Nat.le_refl _, hR, T6, hn2⟩
            case round =>
             clear hR T6 hn2 hn5 RR;obtain ⟨N, D, hle, hR, hD2, hn2⟩ := hrel;obtain ⟨c0, c1, f0, f1, lt4⟩ : _ /\ _ /\ _ /\ _ /\ _ := ⟨hD2.out.c0, hD2.out.c1, hD2.out.f0, hD2.out.f1, hD2.out.lt⟩;have N0 := hR.out.n0;have D0 := hR.out.pos;have N1 := hR.out.nle;have D1 := hR.out.le;by_cases hN : N % 5 = 0
             ·by_cases hDp : D % 5 = 0
              ·obtain ⟨S1, S2⟩ := hR.out.step (p := 5) (by omega) hN hDp;have HS1 := Hj S1
               have hn2' : Hid (1 <= 1 -> ¬ (N / 5 % 2 = 0 /\ D / 5 % 2 = 0)) := fun h1 => by
                have := hn2.out h1; omega
               cases gk with
               | zero => omega
               | succ g =>
                have bN : ((N % 5 : Int) == 0) = true := by simpa using hN
                have bD : ((D % 5 : Int) == 0) = true := by simpa using hDp
                have tN : Int.tdiv N 5 = N / 5 := by rw [Int.tdiv_eq_ediv_of_nonneg (by omega)]
                have tD : Int.tdiv D 5 = D / 5 := by rw [Int.tdiv_eq_ediv_of_nonneg (by omega)]
                have wN : IntKind.i64.wrap (N / 5) = N / 5 := IntWalk.i64_in _ ⟨by omega, by omega⟩;have wD : IntKind.i64.wrap (D / 5) = D / 5 := IntWalk.i64_in _ ⟨by omega, by omega⟩;have leg : (D / 5).toNat <= g := by omega
                clear S1 S2 hN hDp;go_wp2;refine wp_region_calm (fun M w' => M.getD 9 false = false -> w'.cell? { block := w.heap.size, off := 0 } = some (.int .i64 N) /\ w'.cell? { block := w.heap.size, off := 1 } = some (.int .i64 D)) (fun i => i == 9) [0, 1, 2, 3, 4, 5, 6, 7, 8] 3 (by kernel_rfl) (by kernel_rfl) ?hst ?hS0 (fun w0 h0 => ?_)
                case hst => exact fun _ _ _ h r hM => ⟨r.cell (h hM).1, r.cell (h hM).2⟩
                case hS0 => exact fun _ => ⟨c0, c1⟩
                iterate 6
                 refine wcg ?_;apply ei
                 ·intro M w hM hS;have hS := hS (hM 9 (by kernel_rfl));have e0 := hS.1;have e1 := hS.2;unfold calmAt;go_simp;exact ⟨rfl, Rel.refl _⟩
                iterate 3
                 refine wcg ?_;apply ei
                 ·intro M w hM hS;unfold calmAt;go_simp;exact ⟨rfl, Rel.refl _⟩
                refine wpCalm_nil ?_;have kq5 := keep2 h0 (b := w.heap.size) (by first | (simp; done) | (simp; omega) | omega);have kz4 := h0.size;(try simp only [zsa, zsc, zsd] at kz4);have H4 := Hj h0;clear h0;refine wao 9 (fun w5 h5 K' hK' => ?_);have kq6 := keep2 h5 (b := w.heap.size) (by first | (simp; done) | (simp; omega) | omega);have kz5 := h5.size;(try simp only [zsa, zsc, zsd] at kz5);have H5 := Hj h5;clear h5;go_simp;refine hK'.out _ _ (fun h => absurd (h.symm.trans (by kernel_rfl : _ = true)) (by simp)) ?_;clear hK' K';refine wao 10 (fun w6 h6 K' hK' => ?_);have kq7 := keep2 h6 (b := w.heap.size) (by first | (simp; done) | (simp; omega) | omega);have kz6 := h6.size;(try simp only [zsa, zsc, zsd] at kz6);have H6 := Hj h6;clear h6;go_simp;refine hK'.out _ _ (fun h => absurd (h.symm.trans (by kernel_rfl : _ = true)) (by simp)) ?_;clear hK' K';refine wao 11 (fun w7 h7 K' hK' => ?_);have kq8 := keep2 h7 (b := w.heap.size) (by first | (simp; done) | (simp; omega) | omega);have kz7 := h7.size;(try simp only [zsa, zsc, zsd] at kz7);have H7 := Hj h7;clear h7;go_simp;refine hK'.out _ _ (fun h => absurd (h.symm.trans (by kernel_rfl : _ = true)) (by simp)) ?_;clear hK' K';refine wpAnyR_end (by kernel_rfl) (fun w8 h8 => ?_);(try simp only [Act.put, zla, zlb, zlc]);have kq9 := keep2 h8 (b := w.heap.size) (by first | (simp; done) | (simp; omega) | omega);have kz8 := h8.size;(try simp only [zsa, zsc, zsd] at kz8);have H8 := Hj h8;clear h8;go_wp2
                go_roundg g
                case rel => exact ⟨N / 5, D / 5, leg, HS1, ((((hD2.out.grow (H4.out.trans H5.out)).set0 (N / 5)).grow (H6.out.trans H7.out)).set1 (D / 5)).grow H8.out, hn2'⟩
                case measure => omega
              ·have bN : ((N % 5 : Int) == 0) = true := by simpa using hN
               have bD : ((D % 5 : Int) == 0) = false := by simpa using hDp
               have hnn : Hid (¬ (N % 5 = 0 /\ D % 5 = 0)) := fun h => hDp h.2
               clear hN hDp;go_wp2
               go_roundg 0
               case rel => exact ⟨2, N, D, rfl, rfl, hR, hD2, fun _ => hn2.out (by omega), fun _ => hnn.out⟩
               case measure => omega
             ·have bN : ((N % 5 : Int) == 0) = false := by simpa using hN
              have hnn : Hid (¬ (N % 5 = 0 /\ D % 5 = 0)) := fun h => hN h.1
              clear hN;go_wp2
              go_roundg 0
              case rel => exact ⟨2, N, D, rfl, rfl, hR, hD2, fun _ => hn2.out (by omega), fun _ => hnn.out⟩
              case measure => omega
        | succ g =>
         have hkb : k < b.size := by omega
         have h128 : (b[k]'hkb).toNat < 128 := by
          rcases Classical.em (48 <= ((b[k]'hkb).toNat : Int) /\ ((b[k]'hkb).toNat : Int) <= 57) with h | h
          ·omega
          ·have := allD_not _ k hkb h; rw [ALLB.out] at this; cases this
         have hnx := fun ty => run_next_at prog wr w1.heap.size b k ty hI.out hkb h128
         have T3 := hT.out.iter w1.heap.size b (k + 1) (by omega) (by omega);obtain ⟨c0, c1, f0, f1, lt2⟩ : _ /\ _ /\ _ /\ _ /\ _ := ⟨T3.c0, T3.c1, T3.f0, T3.f1, T3.lt⟩;have T4 := Hj T3
         have hlt2 : w1.heap.size < wr.heap.size := by
          have := hI.out;exact (Array.getElem?_eq_some_iff.1 this).1
         have I3 : Hid ((itSet wr w1.heap.size b (k + 1)).heap[w1.heap.size]? = some (.stringIter b (k + 1))) := by
          show _ = _; rw [itSet_heap _ _ _ _ _ hlt2, if_pos rfl]
         have w10X : IntKind.i64.wrap (10 * X) = 10 * X := IntWalk.i64_in _ ⟨by omega, by omega⟩;have w10Y : IntKind.i64.wrap (10 * Y) = 10 * Y := IntWalk.i64_in _ ⟨by omega, by omega⟩
         have hX2 : Hid (10 * X = x0 * ((10 ^ (k + 1) : Nat) : Int)) := by
          show _ = _; rw [hX.out, Nat.pow_succ]; push_cast; grind
         have hY2 : Hid (10 * Y = ((10 ^ (k + 1) : Nat) : Int)) := by
          show _ = _; rw [hY.out, Nat.pow_succ]; push_cast; grind
         clear T3;go_wp2;generalize itSet wr w1.heap.size b (k + 1) = W at *;refine wp_region_calm (fun M w' => M.getD 7 false = false -> w'.cell? { block := w.heap.size, off := 1 } = some (.int .i64 Y)) (fun i => i == 7) [0, 1, 2, 3, 4, 5, 6] 1 (by kernel_rfl) (by kernel_rfl) ?hst ?hS0 (fun w0 h0 => ?_)
         case hst => exact fun _ _ _ h r hM => r.cell (h hM)
         case hS0 => exact fun _ => c1
         iterate 7
          refine wcg ?_;apply ei
          ·intro M w hM hS;have hS := hS (hM 7 (by kernel_rfl));have e1 := hS;unfold calmAt;go_simp;exact ⟨rfl, Rel.refl _⟩
         refine wpCalm_nil ?_;have kq10 := keep2 h0 (b := w.heap.size) (by first | (simp; done) | (simp; omega) | omega);have kz4 := h0.size;(try simp only [zsa, zsc, zsd] at kz4);have H4 := Hj h0;clear h0;refine wao 7 (fun w5 h5 K' hK' => ?_);have kq11 := keep2 h5 (b := w.heap.size) (by first | (simp; done) | (simp; omega) | omega);have kz5 := h5.size;(try simp only [zsa, zsc, zsd] at kz5);have H5 := Hj h5;clear h5;go_simp;refine hK'.out _ _ (fun h => absurd (h.symm.trans (by kernel_rfl : _ = true)) (by simp)) ?_;clear hK' K';refine wpAnyR_end (by kernel_rfl) (fun w6 h6 => ?_);(try simp only [Act.put, zla, zlb, zlc]);have kq12 := keep2 h6 (b := w.heap.size) (by first | (simp; done) | (simp; omega) | omega);have kz6 := h6.size;(try simp only [zsa, zsc, zsd] at kz6);have H6 := Hj h6;clear h6;go_wp2
         go_roundg g
         case rel => exact ⟨k + 1, _, _, by omega, rfl, hX2, hY2, ((T4.out.grow (H4.out.trans H5.out)).set1 (10 * Y)).grow H6.out, iter_keep I3.out (H4.out.trans H5.out) _ _ (by show w1.heap.size ≠ w.heap.size; omega) H6.out⟩
         case measure => omega
end Go.Proofs.YthmlhheceihcbaaGreatDoor

/- Bundle of texts: each says at its head what it proves; no conditions but those printed. -/
import Derived.Test.YtkghmghjgikihaaGreatDoorEB30
import Derived.Test.YtkghmghjgikihaaGreatDoorEB14
import Derived.Test.YtkghmghjgikihaaGreatDoorEB34
import Derived.Test.YtkghmghjgikihaaGreatDoorEB7
namespace Go.Proofs.YtkghmghjgikihaaGreatDoor.Tree
open Go.RowKit Cal Str Tok Frac Txt
set_option linter.unusedVariables false
theorem form_trB {op : Int} {a b : Ex} (h0 : 7 ≤ op) (h1 : op ≤ 20) (ha : a.form = true) (hb : b.form = true) : (trB op a b).form = true := by
 unfold trB;rw [form_mk, Bool.and_eq_true];refine ⟨?_, alK_of (fun i hi => ?_)⟩
 ·rcases (show op = 7 ∨ op = 8 ∨ op = 9 ∨ op = 10 ∨ op = 11 ∨ op = 12 ∨ op = 13 ∨ op = 14 ∨ op = 15 ∨ op = 16 ∨ op = 17 ∨ op = 18 ∨ op = 19 ∨ op = 20 by omega) with rfl | rfl | rfl | rfl | rfl | rfl | rfl | rfl | rfl | rfl | rfl | rfl | rfl | rfl <;> decide
 ·rcases (show i = 0 ∨ i = 1 by omega) with rfl | rfl
  ·exact ha
  ·exact hb
theorem form_trU {op : Int} {a : Ex} (h0 : 4 ≤ op) (h1 : op ≤ 6) (ha : a.form = true) : (trU op a).form = true := by
 unfold trU;rw [form_mk, Bool.and_eq_true];refine ⟨?_, alK_of (fun i hi => ha)⟩
 rcases (show op = 4 ∨ op = 5 ∨ op = 6 by omega) with rfl | rfl | rfl <;> decide
theorem form_trI {a b c : Ex} (ha : a.form = true) (hb : b.form = true) (hc : c.form = true) : (trI a b c).form = true := by
 unfold trI;rw [form_mk, Bool.and_eq_true];refine ⟨by decide, alK_of (fun i hi => ?_)⟩
 rcases (show i = 0 ∨ i = 1 ∨ i = 2 by omega) with rfl | rfl | rfl
 ·exact ha
 ·exact hb
 ·exact hc
theorem form_trN {s : ByteArray} (h : namB s = true) : (trN s).form = true := by
 unfold trN;rw [form_mk, Bool.and_eq_true];refine ⟨?_, rfl⟩;unfold nodB;rw [if_neg (by decide), if_pos rfl, h]; rfl
theorem form_trL {s : ByteArray} (h : decB s = true) : (trL (decN s) (decD s) (decX s)).form = true := by
 unfold trL;rw [form_mk, Bool.and_eq_true];refine ⟨?_, rfl⟩;unfold nodB;rw [if_pos rfl, dec_only h rfl rfl rfl]; rfl
theorem form_trS {n : Int} (h0 : 1 ≤ n) (h1 : n ≤ 45) : (trS n).form = true := by
 unfold trS;rw [form_mk, Bool.and_eq_true];refine ⟨?_, rfl⟩;unfold nodB emS;rw [if_neg (by decide), if_neg (by decide), if_pos rfl];simp [h0, h1, arI]
theorem pe_form (tk : List Tk) (hK : ∀ t ∈ tk, t.K = 2 → decB t.T = true) (f : Nat) : (∀ m s, (m = 0 ∨ m = 1 ∨ m = 2 ∨ m = 3 ∨ m = 4 ∨ m = 5 ∨ m = 6 ∨ m = 7) → 10 * rem tk s + cm m ≤ f → (pe tk f m .no s).2.ok = true → (pe tk f m .no s).1.form = true) ∧
  (∀ L a s, (L = 1 ∨ L = 2 ∨ L = 5 ∨ L = 6) → a.form = true → 10 * rem tk s + 1 ≤ f → (pe tk f (10 + L) a s).2.ok = true → (pe tk f (10 + L) a s).1.form = true) := by
 induction f with
 | zero => exact ⟨fun m s hm h => by rcases hm with rfl | rfl | rfl | rfl | rfl | rfl | rfl | rfl <;> simp [cm] at h, fun L a s _ _ h => by omega⟩
 | succ f ih =>
  obtain ⟨im, il⟩ := ih;have i0 := fun s (h : 10 * rem tk s + 8 ≤ f) => im 0 s (by decide) h
  have i1 := fun s (h : 10 * rem tk s + 7 ≤ f) => im 1 s (by decide) h
  have i2 := fun s (h : 10 * rem tk s + 6 ≤ f) => im 2 s (by decide) h
  have i3 := fun s (h : 10 * rem tk s + 5 ≤ f) => im 3 s (by decide) h
  have i4 := fun s (h : 10 * rem tk s + 4 ≤ f) => im 4 s (by decide) h
  have i5 := fun s (h : 10 * rem tk s + 3 ≤ f) => im 5 s (by decide) h
  have i6 := fun s (h : 10 * rem tk s + 2 ≤ f) => im 6 s (by decide) h
  have i7 := fun s (h : 10 * rem tk s + 1 ≤ f) => im 7 s (by decide) h
  have l1 := fun a s h h' => il 1 a s (by decide) h h'
  have l2 := fun a s h h' => il 2 a s (by decide) h h'
  have l5 := fun a s h h' => il 5 a s (by decide) h h'
  have l6 := fun a s h h' => il 6 a s (by decide) h h'
  have B : ∀ {m a s}, md m → rem tk (pe tk f m a s).2 ≤ rem tk s ∧ ((pe tk f m a s).2.ok = true → s.ok = true) := fun hm => ⟨(pe_beh tk f _ _ _ hm).rem, (pe_beh tk f _ _ _ hm).2.1⟩
  have X : ∀ {x s}, rem tk (expP tk x s) ≤ rem tk s ∧ ((expP tk x s).ok = true → s.ok = true) := fun {x s} => ⟨(exp_beh tk x s).rem, (exp_beh tk x s).2.1⟩
  have M : ∀ m, m = 0 ∨ m = 1 ∨ m = 2 ∨ m = 3 ∨ m = 4 ∨ m = 5 ∨ m = 6 ∨ m = 7 ∨ m = 11 ∨ m = 12 ∨ m = 15 ∨ m = 16 → md m := fun m h => by unfold md; omega
  refine ⟨fun m s hm hf => ?_, fun L a s hL ha hf => ?_⟩
  ·rcases hm with rfl | rfl | rfl | rfl | rfl | rfl | rfl | rfl
   ·have hf : 10 * rem tk s + 8 ≤ f + 1 := hf;rw [pe_0];by_cases h : accB tk kIf s = true
    ·rw [if_pos h];intro hok;have q := (acc_beh h).2;have b1 := B (m := 0) (a := .no) (s := s.adv) (M 0 (by decide));have x1 := X (x := kThen) (s := (pe tk f 0 .no s.adv).2);have b2 := B (m := 0) (a := .no) (s := expP tk kThen (pe tk f 0 .no s.adv).2) (M 0 (by decide));have x2 := X (x := kElse) (s := (pe tk f 0 .no (expP tk kThen (pe tk f 0 .no s.adv).2)).2);have b3 := B (m := 0) (a := .no) (s := expP tk kElse (pe tk f 0 .no (expP tk kThen (pe tk f 0 .no s.adv).2)).2) (M 0 (by decide));have o3 := b3.2 hok;have o2 := x2.2 o3;have o1 := x1.2 (b2.2 o2);exact form_trI (i0 _ (by omega) o1) (i0 _ (by omega) o2) (i0 _ (by omega) hok)
    ·rw [if_neg h]; exact i1 _ (by omega)
   ·have hf : 10 * rem tk s + 7 ≤ f + 1 := hf;rw [pe_1];intro hok;have b1 := B (m := 2) (a := .no) (s := s) (M 2 (by decide));have b2 := B (m := 11) (a := (pe tk f 2 .no s).1) (s := (pe tk f 2 .no s).2) (M 11 (by decide));exact l1 _ _ (i2 _ (by omega) (b2.2 hok)) (by omega) hok
   ·have hf : 10 * rem tk s + 6 ≤ f + 1 := hf;rw [pe_2];intro hok;have b1 := B (m := 3) (a := .no) (s := s) (M 3 (by decide));have b2 := B (m := 12) (a := (pe tk f 3 .no s).1) (s := (pe tk f 3 .no s).2) (M 12 (by decide));exact l2 _ _ (i3 _ (by omega) (b2.2 hok)) (by omega) hok
   ·have hf : 10 * rem tk s + 5 ≤ f + 1 := hf;rw [pe_3];by_cases h : accB tk kNot s = true
    ·rw [if_pos h];intro hok;have q := (acc_beh h).2;exact form_trU (by decide) (by decide) (i3 _ (by omega) hok)
    ·rw [if_neg h]; exact i4 _ (by omega)
   ·have hf : 10 * rem tk s + 4 ≤ f + 1 := hf;rw [pe_4];by_cases h : binO tk (pe tk f 5 .no s).2 relL = true
    ·rw [if_pos h];intro hok;have q := (bin_beh h).2;have b1 := B (m := 5) (a := .no) (s := s) (M 5 (by decide));have b2 := B (m := 5) (a := .no) (s := (pe tk f 5 .no s).2.adv) (M 5 (by decide));have o1 : (pe tk f 5 .no s).2.ok = true := b2.2 hok;obtain ⟨r1, r2, -⟩ := rel_lev h;exact form_trB r1 (by omega) (i5 _ (by omega) o1) (i5 _ (by omega) hok)
    ·rw [if_neg h]; exact i5 _ (by omega)
   ·have hf : 10 * rem tk s + 3 ≤ f + 1 := hf;rw [pe_5];intro hok;have b1 := B (m := 6) (a := .no) (s := s) (M 6 (by decide));have b2 := B (m := 15) (a := (pe tk f 6 .no s).1) (s := (pe tk f 6 .no s).2) (M 15 (by decide));exact l5 _ _ (i6 _ (by omega) (b2.2 hok)) (by omega) hok
   ·have hf : 10 * rem tk s + 2 ≤ f + 1 := hf;rw [pe_6];intro hok;have b1 := B (m := 7) (a := .no) (s := s) (M 7 (by decide));have b2 := B (m := 16) (a := (pe tk f 7 .no s).1) (s := (pe tk f 7 .no s).2) (M 16 (by decide));exact l6 _ _ (i7 _ (by omega) (b2.2 hok)) (by omega) hok
   ·have hf : 10 * rem tk s + 1 ≤ f + 1 := hf;rw [pe_7];by_cases h1 : accB tk kNeg s = true
    ·rw [if_pos h1];intro hok;have q := (acc_beh h1).2;exact form_trU (by decide) (by decide) (i7 _ (by omega) hok)
    rw [if_neg h1];by_cases h2 : accB tk kOpen s = true
    ·rw [if_pos h2];intro hok;have q := (acc_beh h2).2;exact i0 _ (by omega) (X.2 hok)
    rw [if_neg h2];by_cases h3 : accB tk kBest s = true
    ·rw [if_pos h3];intro hok;have o1 : (numP tk 1 45 (expP tk kOpen s.adv)).ok = true := X.2 hok
     have hO : numO tk 1 45 (expP tk kOpen s.adv) = true := by
      unfold numP at o1
      split at o1
      ·assumption
      ·cases o1
     have hb : 1 ≤ numT tk 1 45 (expP tk kOpen s.adv) ∧ numT tk 1 45 (expP tk kOpen s.adv) ≤ 45 := by
      unfold numT;rw [if_pos hO];unfold numO pkT at *
      split at hO
      ·rename_i t ht;simp only [Bool.and_eq_true, decide_eq_true_eq] at hO;omega
      ·cases hO
     exact form_trS hb.1 hb.2
    rw [if_neg h3];by_cases h4 : accB tk kFloor s = true
    ·rw [if_pos h4];intro hok;have q := (acc_beh h4).2;have x1 := X (x := kOpen) (s := s.adv);exact form_trU (by decide) (by decide) (i0 _ (by omega) (X.2 hok))
    rw [if_neg h4];by_cases h5 : binO tk s mmL = true
    ·rw [if_pos h5];intro hok;have q := (bin_beh h5).2;have x1 := X (x := kOpen) (s := s.adv);have b1 := B (m := 0) (a := .no) (s := expP tk kOpen s.adv) (M 0 (by decide));have x2 := X (x := kComma) (s := (pe tk f 0 .no (expP tk kOpen s.adv)).2);have b2 := B (m := 0) (a := .no) (s := expP tk kComma (pe tk f 0 .no (expP tk kOpen s.adv)).2) (M 0 (by decide));have o2 := X.2 hok;have o1 := x2.2 (b2.2 o2);have hm := mm_op h5;exact form_trB (by omega) (by omega) (i0 _ (by omega) o1) (i0 _ (by omega) o2)
    rw [if_neg h5];by_cases h6 : pkK tk s = 2
    ·rw [if_pos h6];intro hok;obtain ⟨t, ht, hk⟩ := pk_two h6;obtain ⟨-, -, hg⟩ := tkAt_some ht;have e : pkT tk s = t.T := by unfold pkT; rw [ht]
     rw [e];exact form_trL (hK t (List.mem_of_getElem? hg) hk)
    ·rw [if_neg h6];intro hok
     have hN : namO tk s = true := by
      have : (namP tk s).ok = true := hok;unfold namP at this
      split at this
      ·assumption
      ·cases this
     have hb : namB (namT tk s) = true := by
      unfold namT;rw [if_pos hN];unfold namO pkT at *
      split at hN
      ·rename_i t ht;simp only [Bool.and_eq_true] at hN;exact hN.2
      ·cases hN
     exact form_trN hb
  ·rcases hL with rfl | rfl | rfl | rfl
   ·show (pe tk (f + 1) 11 a s).2.ok = true → (pe tk (f + 1) 11 a s).1.form = true
    rw [pe_11];by_cases h : accB tk kOr s = true
    ·rw [if_pos h];intro hok;have q := (acc_beh h).2;have b1 := B (m := 2) (a := .no) (s := s.adv) (M 2 (by decide));have b2 := B (m := 11) (a := trB 18 a (pe tk f 2 .no s.adv).1) (s := (pe tk f 2 .no s.adv).2) (M 11 (by decide));exact l1 _ _ (form_trB (by decide) (by decide) ha (i2 _ (by omega) (b2.2 hok))) (by omega) hok
    ·rw [if_neg h]; exact fun _ => ha
   ·show (pe tk (f + 1) 12 a s).2.ok = true → (pe tk (f + 1) 12 a s).1.form = true
    rw [pe_12];by_cases h : accB tk kAnd s = true
    ·rw [if_pos h];intro hok;have q := (acc_beh h).2;have b1 := B (m := 3) (a := .no) (s := s.adv) (M 3 (by decide));have b2 := B (m := 12) (a := trB 17 a (pe tk f 3 .no s.adv).1) (s := (pe tk f 3 .no s.adv).2) (M 12 (by decide));exact l2 _ _ (form_trB (by decide) (by decide) ha (i3 _ (by omega) (b2.2 hok))) (by omega) hok
    ·rw [if_neg h]; exact fun _ => ha
   ·show (pe tk (f + 1) 15 a s).2.ok = true → (pe tk (f + 1) 15 a s).1.form = true
    rw [pe_15];by_cases h : binO tk s sumL = true
    ·rw [if_pos h];intro hok;have q := (bin_beh h).2;obtain ⟨r1, r2, -⟩ := sum_lev h;have b1 := B (m := 6) (a := .no) (s := s.adv) (M 6 (by decide));have b2 := B (m := 15) (a := trB (binT tk s sumL) a (pe tk f 6 .no s.adv).1) (s := (pe tk f 6 .no s.adv).2) (M 15 (by decide));exact l5 _ _ (form_trB r1 (by omega) ha (i6 _ (by omega) (b2.2 hok))) (by omega) hok
    ·rw [if_neg h]; exact fun _ => ha
   ·show (pe tk (f + 1) 16 a s).2.ok = true → (pe tk (f + 1) 16 a s).1.form = true
    rw [pe_16];by_cases h : binO tk s mulL = true
    ·rw [if_pos h];intro hok;have q := (bin_beh h).2;obtain ⟨r1, r2, -⟩ := mul_lev h;have b1 := B (m := 7) (a := .no) (s := s.adv) (M 7 (by decide));have b2 := B (m := 16) (a := trB (binT tk s mulL) a (pe tk f 7 .no s.adv).1) (s := (pe tk f 7 .no s.adv).2) (M 16 (by decide));exact l6 _ _ (form_trB r1 (by omega) ha (i7 _ (by omega) (b2.2 hok))) (by omega) hok
    ·rw [if_neg h]; exact fun _ => ha
end Go.Proofs.YtkghmghjgikihaaGreatDoor.Tree
namespace Go.Proofs.YtkghmghjgikihaaGreatDoor
open Go.RowKit Cal Str Tok Frac Txt Tree
attribute [local go_sem] calmUpon
set_option linter.unusedVariables false
set_option linter.unusedSimpArgs false
theorem rread_all (b G : Nat) (tk : List Tk) (E : Int) (hT : TksOk tk) (hH : TkHd tk) (F : Nat) : ∀ f, f ≤ F → ∀ m, m ≤ 7 → RC b G tk E m f := by
 induction F with
 | zero =>
  intro f hf m hm w s _ h;obtain rfl : f = 0 := by omega
  have := cc_pos m
  omega
 | succ F ih =>
  intro f hf m hm;by_cases h : f ≤ F
  ·exact ih f h m hm
  ·obtain rfl : f = F + 1 := by omega
   rcases (show m = 0 ∨ m = 3 ∨ m = 4 ∨ m = 7 ∨ (m = 1 ∨ m = 2 ∨ m = 5 ∨ m = 6) by omega) with rfl | rfl | rfl | rfl | h
   ·exact rexpr0_step b G tk E hT hH F ih
   ·exact rexpr3_step b G tk E hT hH F ih
   ·exact rexpr4_step b G tk E hT hH F ih
   ·exact rexpr7_step b G tk E hT hH F (rfactor_step b G tk E hT hH F ih)
   ·exact rexprC_step b G tk E hT hH F ih m h
theorem rdr_new {w : World} {base : Nat} {T U : TypeId} {v : Value} {l : List Tk} {E : Int} (hO : w.ownsRow base T 3 v l.length (encL l)) {b : Nat} (hb : b = w.heap.size) : ∃ (G : Nat) (ad : Option Addr) (n cap : Nat), v = .slice ad n cap ∧ (l = [] ∨ base ≤ G) ∧ Rdr (w.alloc (.cells #[v, .int .i64 0, .int .i64 E, .bool false] U)) b G l E ⟨0, true⟩ := by
 subst hb
 rcases hO.2 with ⟨e, h0⟩ | ⟨g, cap, cur, e, hg, hgl, hc, -⟩
 ·have hl : l = [] := List.eq_nil_of_length_eq_zero h0;subst hl;exact ⟨0, none, 0, 0, e, .inl rfl, ⟨by simp, Nat.zero_le _, ⟨none, 0, by rw [e]; simp, fun h => by simp at h⟩, .inl rfl, by simp, by simp, by simp, by simp, by simp⟩⟩
 ·have hlt : g < w.heap.size := by
   rcases Nat.lt_or_ge g w.heap.size with hlt | hge
   ·exact hlt
   ·rw [Array.getElem?_eq_none hge] at hgl; cases hgl
  have r : Rel w (w.alloc (.cells #[v, .int .i64 0, .int .i64 E, .bool false] U)) := (Rel.refl _).alloc _
  have hadd : ∀ m, (⟨g, 0, none⟩ : Addr).add m = ⟨g, m, none⟩ := fun m => by unfold Addr.add; split <;> simp_all
  refine ⟨g, some ⟨g, 0, none⟩, l.length, cap, e, .inr hg, ⟨by simp, Nat.zero_le _, ⟨some ⟨g, 0, none⟩, cap, by rw [e]; simp, fun _ => rfl⟩, .inr ⟨by simp; omega, by omega, fun i t ht => ?_⟩, by simp, by simp, by simp, by simp, by simp⟩⟩;obtain ⟨h1, h2, h3⟩ := encL_get ht;have c1 := hO.cells (g := g) (by rw [e]; rfl) _ _ h1;have c2 := hO.cells (g := g) (by rw [e]; rfl) _ _ h2;have c3 := hO.cells (g := g) (by rw [e]; rfl) _ _ h3;rw [hadd] at c1 c2 c3;exact ⟨r.cell c1, r.cell c2, r.cell c3⟩
def BegRes (s : ByteArray) (w : World) (e : Ending) (w' : World) : Prop := (¬ (allR s).2.2 = 0 ∧ e = .returned (.tuple #[.pointer none, .int .i64 (allR s).2.1, .int .i64 (allR s).2.2]) ∧ Rel w w') ∨
 ((allR s).2.2 = 0 ∧ ∃ b G, e = .returned (.tuple #[.pointer (some ⟨b, 0, none⟩), .int .i64 0, .int .i64 0]) ∧ w.heap.size ≤ b ∧ ((allR s).1 = [] ∨ w.heap.size ≤ G) ∧ Rdr w' b G (allR s).1 s.size ⟨0, true⟩ ∧ Rel w w')
set_option maxHeartbeats 4000000 in
theorem rbegin_any (s : ByteArray) (w : World) (hs : s.size ≤ 140737488355328) : Calls Tryz.prog 43 #[.string s] w (BegRes s w) := by
 have A := Hj fun w => rAll_any s w hs
 unfold AllRes at A;unfold BegRes;obtain ⟨l, hl⟩ : ∃ l, (allR s).1 = l := ⟨_, rfl⟩;obtain ⟨x, hx⟩ : ∃ l, (allR s).2.1 = l := ⟨_, rfl⟩;obtain ⟨c, hc⟩ : ∃ l, (allR s).2.2 = l := ⟨_, rfl⟩;rw [hl, hx, hc] at A ⊢;clear hl hx hc;by_cases hc0 : c = 0
 ·subst hc0;go_enter Tryz.func43, Tryz.ntmps43;go_wp2_with fail;refine (A.out _).mono ?_;rintro e w1 ⟨v, rfl, h1, hO⟩;obtain ⟨G, ad, n, cap, rfl, hG, hP⟩ := rdr_new (U := 90) (E := s.size) hO rfl;have P1 := Hj hP;have R1 := Hj h1;clear hO hP h1;((try simp only []); (repeat (first | go_values | go_skip | go_guarded | go_step | go_upon | go_in)));refine bodyPost_ret (v := .tuple #[.pointer (some ⟨w1.heap.size, 0, none⟩), .int .i64 0, .int .i64 0]) ?_ rfl (.inr ⟨(by first | rfl | trivial), w1.heap.size, G, rfl, R1.out.size, hG, P1.out, R1.out.alloc _⟩);simp [results, Tryz.results43, go_sem]
 ·have ec : (c != 0) = true := by simpa using hc0
  go_enter Tryz.func43, Tryz.ntmps43;go_wp2_with fail;refine (A.out _).mono ?_;rintro e w1 ⟨v, rfl, h1, hO⟩;obtain ⟨G, ad, n, cap, rfl, hG, hP⟩ := rdr_new (U := 90) (E := s.size) hO rfl;have R1 := Hj h1;have HC := Hj hc0;clear hO hP h1 hc0;((try simp only []); (repeat (first | go_values | go_skip | go_guarded | go_step | go_upon | go_in)));refine bodyPost_ret (v := .tuple #[.pointer none, .int .i64 x, .int .i64 c]) ?_ rfl (.inl ⟨HC.out, rfl, R1.out⟩);simp [results, Tryz.results43, go_sem]
set_option maxRecDepth 20000 in
set_option maxHeartbeats 4000000 in
theorem rplace_any (b G : Nat) (tk : List Tk) (E : Int) (s : Pt) (w : World) (h : Rdr w b G tk E s) : Calls Tryz.prog 45 #[.pointer (some ⟨b, 0, none⟩)] w (IntRes (posI tk E s.i) w) := by
 have hlt := h.lt;have c1 := h.c1;have c2 := h.c2;unfold IntRes;by_cases hi : s.i < tk.length
 ·obtain ⟨t, cap, ht, c0, q0, q1, q2⟩ := rdr_at h hi;have e : posI tk E s.i = t.A := by unfold posI; rw [ht]
  rw [e];obtain ⟨n, hn⟩ : ∃ n, tk.length = n := ⟨_, rfl⟩;obtain ⟨i, hi'⟩ : ∃ i, s.i = i := ⟨_, rfl⟩;rw [hn] at c0 hi;rw [hi'] at q0 q1 q2 c1 hi;have ii : (i : Int) < (n : Int) := by omega
  clear h ht hn hi' e;go_enter Tryz.func45, Tryz.ntmps45;go_upto_region 1 with (fail);refine wp_region_calm (fun _ w' => Rel w w') (fun _ => false) [0, 1, 2, 3, 4, 5, 6, 7, 8, 9] 0 (by kernel_rfl) (by kernel_rfl) ?hst ?hS0 (fun w0 h0 => ?_)
  case hst => exact fun _ _ _ h r => h.trans r
  case hS0 => exact Rel.refl _
  iterate 10
   refine wpCalm_go rfl (by kernel_rfl) (fun K hK => ?_);apply Exists.intro;refine ⟨fun M w hM hS => ?_, hK _ ?_⟩
   ·have d0 := hS.cell c0;have d1 := hS.cell c1;unfold calmAt;go_simp;exact ⟨rfl, Rel.refl _⟩
   clear hK K
  refine wpCalm_nil (wpAnyR_end (by kernel_rfl) (fun w3 h3' => ?_));(try simp only [Act.put, List.setIfInBounds_toArray, List.set_cons_zero, List.set_cons_succ]);have h3 := h0.trans h3';have k0 := h3.cell c0;have k1 := h3.cell c1;have kq := h3.cell q2;have R3 := Hj h3;clear h0 h3' h3;go_wp2_with fail;refine wp_region_calm (fun _ w' => Rel w3 w') (fun _ => false) [0, 1, 2, 3, 4, 5, 6, 7, 8, 9, 10, 11] 0 (by kernel_rfl) (by kernel_rfl) ?hst ?hS0 (fun w0 h0 => ?_)
  case hst => exact fun _ _ _ h r => h.trans r
  case hS0 => exact Rel.refl _
  iterate 12
   refine wpCalm_go rfl (by kernel_rfl) (fun K hK => ?_);apply Exists.intro;refine ⟨fun M w hM hS => ?_, hK _ ?_⟩
   ·have d0 := hS.cell k0;have d1 := hS.cell k1;have e1 := hS.cell kq;unfold calmAt;go_simp;exact ⟨rfl, Rel.refl _⟩
   clear hK K
  refine wpAnyR_end (by kernel_rfl) (fun w5 h5' => ?_);(try simp only [Act.put, List.setIfInBounds_toArray, List.set_cons_zero, List.set_cons_succ]);have h5 := h0.trans h5';clear h0 h5';have kz5 := h5.size;(try simp only [World.size_alloc, World.size_setCell, World.size_drew] at kz5);have H5 := Hj h5;clear h5;go_wp2;go_ret;exact ⟨rfl, R3.out.trans H5.out⟩
 ·obtain ⟨ad, cap, c0, -⟩ := h.tok;have e : posI tk E s.i = E := by unfold posI; rw [List.getElem?_eq_none (by omega)]
  rw [e];obtain ⟨n, hn⟩ : ∃ n, tk.length = n := ⟨_, rfl⟩;obtain ⟨i, hi'⟩ : ∃ i, s.i = i := ⟨_, rfl⟩;rw [hn] at c0 hi;rw [hi'] at c1 hi;have ii : decide ((i : Int) < (n : Int)) = false := dF (by omega);clear h hn hi' e;go_enter Tryz.func45, Tryz.ntmps45;go_upto_region 1 with (fail);refine wp_region_calm (fun _ w' => Rel w w') (fun _ => false) [0, 1, 2, 3, 4, 5, 6, 7, 8, 9] 0 (by kernel_rfl) (by kernel_rfl) ?hst ?hS0 (fun w0 h0 => ?_)
  case hst => exact fun _ _ _ h r => h.trans r
  case hS0 => exact Rel.refl _
  iterate 10
   refine wpCalm_go rfl (by kernel_rfl) (fun K hK => ?_);apply Exists.intro;refine ⟨fun M w hM hS => ?_, hK _ ?_⟩
   ·have d0 := hS.cell c0;have d1 := hS.cell c1;unfold calmAt;go_simp;exact ⟨rfl, Rel.refl _⟩
   clear hK K
  refine wpCalm_nil (wpAnyR_end (by kernel_rfl) (fun w3 h3' => ?_));(try simp only [Act.put, List.setIfInBounds_toArray, List.set_cons_zero, List.set_cons_succ]);have h3 := h0.trans h3';have k2 := h3.cell c2;have R3 := Hj h3;clear h0 h3' h3;go_wp2;go_ret;exact ⟨rfl, R3.out⟩
set_option maxRecDepth 20000 in
set_option maxHeartbeats 8000000 in
theorem rParseExpr_any (s : ByteArray) (w : World) (hs : s.size ≤ 140737488355328) : Calls Tryz.prog 15 #[.string s] w (PxRes (prV s) w) := by
 have BG := Hj fun w => rbegin_any s w hs
 unfold BegRes at BG;have BR0 := Hj (BoxAt.new (w := w) (g := w.heap.size) rfl (.int .i64 0) (.int .i64 0) (.int .i64 0) (.int .i64 0) (.string ⟨#[]⟩) (.slice none 0 0) 29);have R0 := Hj ((Rel.refl w).alloc (.cells #[.int .i64 0, .int .i64 0, .int .i64 0, .int .i64 0, .string ⟨#[]⟩, .slice none 0 0] 29));unfold PxRes;by_cases hc0 : (allR s).2.2 = 0
 rotate_left
 ·have hV : prV s = (zeroEx, (allR s).2.1, (allR s).2.2) := by unfold prV; rw [if_neg hc0]
  rw [hV];dsimp only;obtain ⟨x, hx⟩ : ∃ l, (allR s).2.1 = l := ⟨_, rfl⟩;obtain ⟨c, hc⟩ : ∃ l, (allR s).2.2 = l := ⟨_, rfl⟩;rw [hx, hc] at BG;rw [hx, hc];rw [hc] at hc0;have ec : (c != 0) = true := by simpa using hc0
  have HC := Hj hc0;clear hV hx hc hc0;go_enter Tryz.func15, Tryz.ntmps15;go_wp2_with fail;refine (BG.out _).mono ?_;rintro e w1 (⟨-, rfl, h1⟩ | ⟨h0, -⟩)
  rotate_left
  ·exact absurd h0 HC.out
  have BR1 := Hj (BR0.out.rel h1);have R1 := Hj (R0.out.trans h1);clear h1;obtain ⟨rl, rc0, rc1, rc2, rc3, rc4, rc5, rf0, rf1, rf2, rf3, rf4, rf5⟩ := BR1.out;((try simp only []); (repeat (first | go_values | go_skip | go_guarded | go_step | go_upon | go_in)));obtain ⟨g0, g1, g2, g3, g4, g5⟩ : G6 ((((((w1.setCell ⟨w.heap.size, 0, none⟩ (.int .i64 0)).setCell ⟨w.heap.size, 1, none⟩ (.int .i64 0)).setCell ⟨w.heap.size, 2, none⟩ (.int .i64 0)).setCell ⟨w.heap.size, 3, none⟩ (.int .i64 0)).setCell ⟨w.heap.size, 4, none⟩ (.string ⟨#[]⟩)).setCell ⟨w.heap.size, 5, none⟩ (.slice none 0 0)) (w.heap.size) (.int .i64 0) (.int .i64 0) (.int .i64 0) (.int .i64 0) (.string ⟨#[]⟩) (.slice none 0 0) := ⟨by go_simp, by go_simp, by go_simp, by go_simp, by go_simp, by go_simp⟩;refine bodyPost_ret (v := .tuple #[.agg #[.int .i64 0, .int .i64 0, .int .i64 0, .int .i64 0, .string ⟨#[]⟩, .slice none 0 0], .int .i64 x, .int .i64 c]) ?_ rfl ⟨_, rfl, zero_kids _, ((((((R1.out.setCell (p := ⟨w.heap.size, 0, none⟩) (Nat.le_refl _) _).setCell (p := ⟨w.heap.size, 1, none⟩) (Nat.le_refl _) _).setCell (p := ⟨w.heap.size, 2, none⟩) (Nat.le_refl _) _).setCell (p := ⟨w.heap.size, 3, none⟩) (Nat.le_refl _) _).setCell (p := ⟨w.heap.size, 4, none⟩) (Nat.le_refl _) _).setCell (p := ⟨w.heap.size, 5, none⟩) (Nat.le_refl _) _)⟩;simp [results, Tryz.results15, go_sem, g0, g1, g2, g3, g4, g5]
 ·have h8 := all_code s hc0;have hT := tks_ok s h8;have hH := allR_hd s;have hzq := prQ_size s h8;have hform := (pe_form (allR s).1 (fun t ht hk => (hT.each t ht).2.2.2.2 hk) (10 * (allR s).1.length + 8)).1 0 ⟨0, true⟩ (by decide) (by unfold rem; simp [cm]);have RA := fun b G E => rread_all b G (allR s).1 E hT hH (10 * (allR s).1.length + 8) (10 * (allR s).1.length + 8) (Nat.le_refl _) 0 (by decide)
  have hV : prV s = (if finB (allR s).1 (prQ s).2 = true then (if (prQ s).1.valid = true then ((prQ s).1, 0, 0) else (zeroEx, 0, 7)) else (zeroEx, finA (allR s).1 s.size (prQ s).2, 4)) := by unfold prV; rw [if_pos hc0]
  unfold RC at RA;have hQ : prQ s = pe (allR s).1 (10 * (allR s).1.length + 8) 0 .no ⟨0, true⟩ := rfl;rw [hV];rw [← hQ] at hform;obtain ⟨q, hq⟩ : ∃ q, prQ s = q := ⟨_, rfl⟩;rw [hq] at hQ hzq hform ⊢;obtain ⟨r, hr⟩ : ∃ r : Ex × Int × Int, (if finB (allR s).1 q.2 = true then (if q.1.valid = true then (q.1, 0, 0) else (zeroEx, 0, 7)) else (zeroEx, finA (allR s).1 s.size q.2, 4)) = r := ⟨_, rfl⟩;rw [hr];obtain ⟨l, hl⟩ : ∃ l, (allR s).1 = l := ⟨_, rfl⟩;obtain ⟨x, hx⟩ : ∃ l, (allR s).2.1 = l := ⟨_, rfl⟩;obtain ⟨c, hc⟩ : ∃ l, (allR s).2.2 = l := ⟨_, rfl⟩;rw [hl] at RA hQ hT hH;rw [hl, hx, hc] at BG;rw [hl] at hr;rw [hc] at hc0;have RA2 := Hj fun b G E w (hP : Rdr w b G l E ⟨0, true⟩) => (show Calls Tryz.prog 44 #[.pointer (some ⟨b, 0, none⟩), .int .i64 0] w (RRes b G l E q w) from hQ ▸ RA b G E w ⟨0, true⟩ hP (by unfold rem cc; simp))
  unfold RRes at RA2;subst hc0;clear hl hx hc hq hV RA hQ hT hH;obtain ⟨T, s1⟩ := q;dsimp only at RA2 hzq hform hr;have HR := Hj hr;have HZ := Hj hzq;have HFM := Hj hform;clear hr hzq hform;go_enter Tryz.func15, Tryz.ntmps15;go_wp2_with fail;refine (BG.out _).mono ?_;rintro e w1 (⟨h0, -⟩ | ⟨-, b, G, rfl, hb, hG, hP, h1⟩)
  ·first | exact absurd rfl h0 | exact absurd trivial h0
  have BR1 := Hj (BR0.out.rel h1);have R1 := Hj (R0.out.trans h1);have hb1 : w.heap.size + 1 ≤ b := by simpa using hb
  have y1 : w.heap.size + 1 ≤ w1.heap.size := by have := h1.size; simpa using this
  have C := Hj (RA2.out b G s.size w1 hP);clear hP h1 hG;go_wp2_with fail;refine C.out.mono ?_;rintro e w2 ⟨t, x2, rfl, hK2, hq2, hP2, h2⟩;obtain ⟨xa, xc, rfl⟩ := kids_slice (kidsB_to hK2);have nb : w.heap.size ≠ b := by omega
  have y2 : w.heap.size + 1 ≤ w2.heap.size := Nat.le_trans y1 h2.size;have BR2 := Hj ((BR1.out.ro h2 nb).rel ((Rel.refl _).alloc (.cells #[.int .i64 t.op, .int .i64 t.va, .int .i64 t.vb, .int .i64 t.dm, .string t.nm, .slice xa t.cnt xc] 29)));have R2 := Hj ((Ro.rel R1.out h2 (by omega)).alloc (.cells #[.int .i64 t.op, .int .i64 t.va, .int .i64 t.vb, .int .i64 t.dm, .string t.nm, .slice xa t.cnt xc] 29));have P2 := Hj (hP2.rel ((Rel.refl _).alloc (.cells #[.int .i64 t.op, .int .i64 t.va, .int .i64 t.vb, .int .i64 t.dm, .string t.nm, .slice xa t.cnt xc] 29)));have K2 := Hj (kidsB_rl hK2 ((Rel.refl _).alloc (.cells #[.int .i64 t.op, .int .i64 t.va, .int .i64 t.vb, .int .i64 t.dm, .string t.nm, .slice xa t.cnt xc] 29)));have E2 := Hj (BoxAt.new (w := w2) (g := w2.heap.size) rfl (.int .i64 t.op) (.int .i64 t.va) (.int .i64 t.vb) (.int .i64 t.dm) (.string t.nm) (.slice xa t.cnt xc) 29);have Q2 := Hj hq2;have b2 : b < w2.heap.size := hP2.lt;obtain ⟨X, hX⟩ : ∃ X, w2.alloc (.cells #[.int .i64 t.op, .int .i64 t.va, .int .i64 t.vb, .int .i64 t.dm, .string t.nm, .slice xa t.cnt xc] 29) = X := ⟨_, rfl⟩;rw [hX] at BR2 R2 P2 K2 E2;have HX := Hj hX;have zX : w2.heap.size < X.heap.size := by rw [← hX]; simp
  clear hK2 hP2 h2 C hq2;have b3 := P2.out.c3;have b1 := P2.out.c1;obtain ⟨ad, cap, b0, -⟩ := P2.out.tok;obtain ⟨n, hn⟩ : ∃ n, l.length = n := ⟨_, rfl⟩;obtain ⟨i, hi⟩ : ∃ i, s1.i = i := ⟨_, rfl⟩;have hle : i ≤ n := by rw [← hn, ← hi]; exact P2.out.le
  rw [hn] at b0;rw [hi] at b1;have fin2 : Hid (finB l s1 = (s1.ok && decide (i = n))) := by show _ = _; unfold finB; rw [hi, hn]; rfl
  have HI := Hj hi;clear hn hi;obtain ⟨k, hk⟩ : ∃ k, s1.ok = k := ⟨_, rfl⟩;rw [hk] at b3 fin2;have HK := Hj hk;clear hk;cases k
  ·have fB : finB l s1 = false := by rw [fin2.out]; rfl
   have eR := HR.out;rw [fB, if_neg (by simp)] at eR;have eA : finA l s.size s1 = posI l s.size s1.i := by unfold finA; rw [fB]; rfl
   rw [eA] at eR;subst eR;have PL := Hj fun w' (r : Rel X w') => rplace_any b G l s.size s1 w' (P2.out.rel r)
   unfold IntRes at PL;clear eA fB;dsimp only;go_wp2_with fail;(try rw [HX.out]);clear hX HX;refine wp_region_calm (fun _ w' => Rel X w') (fun _ => false) [0, 1, 2, 3, 4, 5, 6, 7, 8, 9, 10, 11, 12, 13, 14, 15] 0 (by kernel_rfl) (by kernel_rfl) ?hst ?hS0 (fun w0 h0 => ?_)
   case hst => exact fun _ _ _ h r => h.trans r
   case hS0 => exact Rel.refl _
   iterate 5
    refine wpCalm_go rfl (by kernel_rfl) (fun K hK => ?_);apply Exists.intro;refine ⟨fun M w hM hS => ?_, hK _ ?_⟩
    ·have d3 := hS.cell b3;unfold calmAt;go_simp;exact ⟨rfl, Rel.refl _⟩
    clear hK K
   iterate 10 (refine wpCalm_no rfl (by kernel_rfl) (fun K hK => hK _ ?_); clear hK K)
   iterate 1
    refine wpCalm_go rfl (by kernel_rfl) (fun K hK => ?_);apply Exists.intro;refine ⟨fun M w hM hS => ?_, hK _ ?_⟩
    ·have d3 := hS.cell b3;unfold calmAt;go_simp;exact ⟨rfl, Rel.refl _⟩
    clear hK K
   refine wpCalm_nil (wpAnyR_end (by kernel_rfl) (fun w3 h3' => ?_));(try simp only [Act.put, List.setIfInBounds_toArray, List.set_cons_zero, List.set_cons_succ]);have h3 := h0.trans h3';have BR3 := Hj (BR2.out.rel h3);have R3 := Hj (R2.out.trans h3);have r3 := Hj h3;clear h0 h3' h3;go_wp2_with fail;refine (PL.out _ r3.out).mono ?_;rintro e w4 ⟨rfl, h4⟩;have BR4 := Hj (BR3.out.rel h4);have R4 := Hj (R3.out.trans h4);clear h4;obtain ⟨rl, rc0, rc1, rc2, rc3, rc4, rc5, rf0, rf1, rf2, rf3, rf4, rf5⟩ := BR4.out;((try simp only []); (repeat (first | go_values | go_skip | go_guarded | go_step | go_upon | go_in)));obtain ⟨g0, g1, g2, g3, g4, g5⟩ : G6 ((((((w4.setCell ⟨w.heap.size, 0, none⟩ (.int .i64 0)).setCell ⟨w.heap.size, 1, none⟩ (.int .i64 0)).setCell ⟨w.heap.size, 2, none⟩ (.int .i64 0)).setCell ⟨w.heap.size, 3, none⟩ (.int .i64 0)).setCell ⟨w.heap.size, 4, none⟩ (.string ⟨#[]⟩)).setCell ⟨w.heap.size, 5, none⟩ (.slice none 0 0)) (w.heap.size) (.int .i64 0) (.int .i64 0) (.int .i64 0) (.int .i64 0) (.string ⟨#[]⟩) (.slice none 0 0) := ⟨by go_simp, by go_simp, by go_simp, by go_simp, by go_simp, by go_simp⟩;refine bodyPost_ret (v := .tuple #[.agg #[.int .i64 0, .int .i64 0, .int .i64 0, .int .i64 0, .string ⟨#[]⟩, .slice none 0 0], .int .i64 (posI l s.size s1.i), .int .i64 4]) ?_ rfl ⟨_, rfl, zero_kids _, ((((((R4.out.setCell (p := ⟨w.heap.size, 0, none⟩) (Nat.le_refl _) _).setCell (p := ⟨w.heap.size, 1, none⟩) (Nat.le_refl _) _).setCell (p := ⟨w.heap.size, 2, none⟩) (Nat.le_refl _) _).setCell (p := ⟨w.heap.size, 3, none⟩) (Nat.le_refl _) _).setCell (p := ⟨w.heap.size, 4, none⟩) (Nat.le_refl _) _).setCell (p := ⟨w.heap.size, 5, none⟩) (Nat.le_refl _) _)⟩;simp [results, Tryz.results15, go_sem, g0, g1, g2, g3, g4, g5]
  ·by_cases hin : i = n
   ·have fB : finB l s1 = true := by rw [fin2.out]; simpa using hin
    have eR := HR.out;rw [fB, if_pos rfl] at eR;obtain rfl := Q2.out HK.out;have ht := HFM.out HK.out;have ii : decide ((i : Int) < (n : Int)) = false := dF (by omega);have hz := HZ.out;have KX := Hj (kidsB_to K2.out);have D := Hj fun w' (r : Rel X w') => rDepth_any t _ w' (kids_rel KX.out r) (by omega)
    have S := Hj fun w' (r : Rel X w') => rSize_any t _ w' (kids_rel KX.out r) (by omega)
    have hv : t.valid = (decide (t.depth ≤ 10) && (decide (t.size ≤ 60) && t.form)) := rfl;rw [ht] at hv;unfold IntRes at D S;obtain ⟨dd, hd⟩ : ∃ d, t.depth = d := ⟨_, rfl⟩;obtain ⟨zz, hzz⟩ : ∃ d, t.size = d := ⟨_, rfl⟩;obtain ⟨V, hVV⟩ : ∃ d, t.valid = d := ⟨_, rfl⟩;rw [hd, hzz, hVV] at hv;rw [hd] at D;rw [hzz] at S;rw [hVV] at eR;clear hd hzz hVV ht hz fB HFM HZ HR;go_wp2_with fail;(try rw [HX.out]);clear hX HX;refine wp_region_calm (fun _ w' => Rel X w') (fun _ => false) [0, 1, 2, 3, 4, 5, 6, 7, 8, 9, 10, 11, 12, 13, 14, 15] 0 (by kernel_rfl) (by kernel_rfl) ?hst ?hS0 (fun w0 h0 => ?_)
    case hst => exact fun _ _ _ h r => h.trans r
    case hS0 => exact Rel.refl _
    iterate 16
     refine wpCalm_go rfl (by kernel_rfl) (fun K hK => ?_);apply Exists.intro;refine ⟨fun M w hM hS => ?_, hK _ ?_⟩
     ·have d3 := hS.cell b3;have d1 := hS.cell b1;have d0 := hS.cell b0;unfold calmAt;go_simp;exact ⟨rfl, Rel.refl _⟩
     clear hK K
    refine wpCalm_nil (wpAnyR_end (by kernel_rfl) (fun w3 h3' => ?_));(try simp only [Act.put, List.setIfInBounds_toArray, List.set_cons_zero, List.set_cons_succ]);have h3 := h0.trans h3';have E3 := Hj (E2.out.rel h3);have BR3 := Hj (BR2.out.rel h3);have R3 := Hj (R2.out.trans h3);have K3 := Hj (kidsB_rl K2.out h3);have r3 := Hj h3;obtain ⟨el, m0, m1, m2, m3, m4, m5, -⟩ := E3.out;clear h0 h3' h3;go_wp2_with fail;refine (D.out _ r3.out).mono ?_;rintro e w4 ⟨rfl, h4⟩;have E4 := Hj (E3.out.rel h4);have BR4 := Hj (BR3.out.rel h4);have R4 := Hj (R3.out.trans h4);have K4 := Hj (kidsB_rl K3.out h4);have r4 := Hj (r3.out.trans h4);clear h4 el m0 m1 m2 m3 m4 m5;by_cases hd10 : 10 < dd
    ·have ed : decide (10 < dd) = true := decide_eq_true hd10;have eV : V = false := by rw [hv, show decide (dd ≤ 10) = false from dF (by omega)]; rfl
     rw [eV, if_neg (by simp)] at eR;subst eR;dsimp only;obtain ⟨rl, rc0, rc1, rc2, rc3, rc4, rc5, rf0, rf1, rf2, rf3, rf4, rf5⟩ := BR4.out;((try simp only []); (repeat (first | go_values | go_skip | go_guarded | go_step | go_upon | go_in)));obtain ⟨g0, g1, g2, g3, g4, g5⟩ : G6 ((((((w4.setCell ⟨w.heap.size, 0, none⟩ (.int .i64 0)).setCell ⟨w.heap.size, 1, none⟩ (.int .i64 0)).setCell ⟨w.heap.size, 2, none⟩ (.int .i64 0)).setCell ⟨w.heap.size, 3, none⟩ (.int .i64 0)).setCell ⟨w.heap.size, 4, none⟩ (.string ⟨#[]⟩)).setCell ⟨w.heap.size, 5, none⟩ (.slice none 0 0)) (w.heap.size) (.int .i64 0) (.int .i64 0) (.int .i64 0) (.int .i64 0) (.string ⟨#[]⟩) (.slice none 0 0) := ⟨by go_simp, by go_simp, by go_simp, by go_simp, by go_simp, by go_simp⟩;refine bodyPost_ret (v := .tuple #[.agg #[.int .i64 0, .int .i64 0, .int .i64 0, .int .i64 0, .string ⟨#[]⟩, .slice none 0 0], .int .i64 0, .int .i64 7]) ?_ rfl ⟨_, rfl, zero_kids _, ((((((R4.out.setCell (p := ⟨w.heap.size, 0, none⟩) (Nat.le_refl _) _).setCell (p := ⟨w.heap.size, 1, none⟩) (Nat.le_refl _) _).setCell (p := ⟨w.heap.size, 2, none⟩) (Nat.le_refl _) _).setCell (p := ⟨w.heap.size, 3, none⟩) (Nat.le_refl _) _).setCell (p := ⟨w.heap.size, 4, none⟩) (Nat.le_refl _) _).setCell (p := ⟨w.heap.size, 5, none⟩) (Nat.le_refl _) _)⟩;simp [results, Tryz.results15, go_sem, g0, g1, g2, g3, g4, g5]
    ·have ed : decide (10 < dd) = false := decide_eq_false hd10;obtain ⟨el, m0, m1, m2, m3, m4, m5, -⟩ := E4.out;go_wp2_with fail;refine (S.out _ r4.out).mono ?_;rintro e w5 ⟨rfl, h5⟩;have E5 := Hj (E4.out.rel h5);have BR5 := Hj (BR4.out.rel h5);have R5 := Hj (R4.out.trans h5);have K5 := Hj (kidsB_rl K4.out h5);clear h5 el m0 m1 m2 m3 m4 m5;by_cases hz60 : 60 < zz
     ·have ez : decide (60 < zz) = true := decide_eq_true hz60;have eV : V = false := by rw [hv, show decide (zz ≤ 60) = false from dF (by omega)]; simp
      rw [eV, if_neg (by simp)] at eR;subst eR;dsimp only;obtain ⟨rl, rc0, rc1, rc2, rc3, rc4, rc5, rf0, rf1, rf2, rf3, rf4, rf5⟩ := BR5.out;((try simp only []); (repeat (first | go_values | go_skip | go_guarded | go_step | go_upon | go_in)));obtain ⟨g0, g1, g2, g3, g4, g5⟩ : G6 ((((((w5.setCell ⟨w.heap.size, 0, none⟩ (.int .i64 0)).setCell ⟨w.heap.size, 1, none⟩ (.int .i64 0)).setCell ⟨w.heap.size, 2, none⟩ (.int .i64 0)).setCell ⟨w.heap.size, 3, none⟩ (.int .i64 0)).setCell ⟨w.heap.size, 4, none⟩ (.string ⟨#[]⟩)).setCell ⟨w.heap.size, 5, none⟩ (.slice none 0 0)) (w.heap.size) (.int .i64 0) (.int .i64 0) (.int .i64 0) (.int .i64 0) (.string ⟨#[]⟩) (.slice none 0 0) := ⟨by go_simp, by go_simp, by go_simp, by go_simp, by go_simp, by go_simp⟩;refine bodyPost_ret (v := .tuple #[.agg #[.int .i64 0, .int .i64 0, .int .i64 0, .int .i64 0, .string ⟨#[]⟩, .slice none 0 0], .int .i64 0, .int .i64 7]) ?_ rfl ⟨_, rfl, zero_kids _, ((((((R5.out.setCell (p := ⟨w.heap.size, 0, none⟩) (Nat.le_refl _) _).setCell (p := ⟨w.heap.size, 1, none⟩) (Nat.le_refl _) _).setCell (p := ⟨w.heap.size, 2, none⟩) (Nat.le_refl _) _).setCell (p := ⟨w.heap.size, 3, none⟩) (Nat.le_refl _) _).setCell (p := ⟨w.heap.size, 4, none⟩) (Nat.le_refl _) _).setCell (p := ⟨w.heap.size, 5, none⟩) (Nat.le_refl _) _)⟩;simp [results, Tryz.results15, go_sem, g0, g1, g2, g3, g4, g5]
     ·have ez : decide (60 < zz) = false := decide_eq_false hz60;have eV : V = true := by rw [hv, show decide (dd ≤ 10) = true from dT (by omega), show decide (zz ≤ 60) = true from dT (by omega)]; rfl
      rw [eV, if_pos rfl] at eR;subst eR;dsimp only;obtain ⟨el, m0, m1, m2, m3, m4, m5, -⟩ := E5.out;obtain ⟨rl, rc0, rc1, rc2, rc3, rc4, rc5, rf0, rf1, rf2, rf3, rf4, rf5⟩ := BR5.out;((try simp only []); (repeat (first | go_values | go_skip | go_guarded | go_step | go_upon | go_in)));obtain ⟨g0, g1, g2, g3, g4, g5⟩ : G6 ((((((w5.setCell ⟨w.heap.size, 0, none⟩ (.int .i64 t.op)).setCell ⟨w.heap.size, 1, none⟩ (.int .i64 t.va)).setCell ⟨w.heap.size, 2, none⟩ (.int .i64 t.vb)).setCell ⟨w.heap.size, 3, none⟩ (.int .i64 t.dm)).setCell ⟨w.heap.size, 4, none⟩ (.string t.nm)).setCell ⟨w.heap.size, 5, none⟩ (.slice xa t.cnt xc)) (w.heap.size) (.int .i64 t.op) (.int .i64 t.va) (.int .i64 t.vb) (.int .i64 t.dm) (.string t.nm) (.slice xa t.cnt xc) := ⟨by go_simp, by go_simp, by go_simp, by go_simp, by go_simp, by go_simp⟩;refine bodyPost_ret (v := .tuple #[.agg #[.int .i64 t.op, .int .i64 t.va, .int .i64 t.vb, .int .i64 t.dm, .string t.nm, .slice xa t.cnt xc], .int .i64 0, .int .i64 0]) ?_ rfl ⟨_, rfl, kidsB_to (kidsB_p6 K5.out (g := w.heap.size) (Q := fun _ => True) (fun q _ hq => ⟨by omega, trivial⟩) _ _ _ _ _ _), ((((((R5.out.setCell (p := ⟨w.heap.size, 0, none⟩) (Nat.le_refl _) _).setCell (p := ⟨w.heap.size, 1, none⟩) (Nat.le_refl _) _).setCell (p := ⟨w.heap.size, 2, none⟩) (Nat.le_refl _) _).setCell (p := ⟨w.heap.size, 3, none⟩) (Nat.le_refl _) _).setCell (p := ⟨w.heap.size, 4, none⟩) (Nat.le_refl _) _).setCell (p := ⟨w.heap.size, 5, none⟩) (Nat.le_refl _) _)⟩;simp [results, Tryz.results15, go_sem, g0, g1, g2, g3, g4, g5]
   ·have fB : finB l s1 = false := by rw [fin2.out]; simpa using hin
    have eR := HR.out;rw [fB, if_neg (by simp)] at eR;have eA : finA l s.size s1 = posI l s.size s1.i := by unfold finA; rw [fB]; rfl
    rw [eA] at eR;subst eR;have ii : (i : Int) < (n : Int) := by omega
    have PL := Hj fun w' (r : Rel X w') => rplace_any b G l s.size s1 w' (P2.out.rel r)
    unfold IntRes at PL;clear eA fB;dsimp only;go_wp2_with fail;(try rw [HX.out]);clear hX HX;refine wp_region_calm (fun _ w' => Rel X w') (fun _ => false) [0, 1, 2, 3, 4, 5, 6, 7, 8, 9, 10, 11, 12, 13, 14, 15] 0 (by kernel_rfl) (by kernel_rfl) ?hst ?hS0 (fun w0 h0 => ?_)
    case hst => exact fun _ _ _ h r => h.trans r
    case hS0 => exact Rel.refl _
    iterate 16
     refine wpCalm_go rfl (by kernel_rfl) (fun K hK => ?_);apply Exists.intro;refine ⟨fun M w hM hS => ?_, hK _ ?_⟩
     ·have d3 := hS.cell b3;have d1 := hS.cell b1;have d0 := hS.cell b0;unfold calmAt;go_simp;exact ⟨rfl, Rel.refl _⟩
     clear hK K
    refine wpCalm_nil (wpAnyR_end (by kernel_rfl) (fun w3 h3' => ?_));(try simp only [Act.put, List.setIfInBounds_toArray, List.set_cons_zero, List.set_cons_succ]);have h3 := h0.trans h3';have BR3 := Hj (BR2.out.rel h3);have R3 := Hj (R2.out.trans h3);have r3 := Hj h3;clear h0 h3' h3;go_wp2_with fail;refine (PL.out _ r3.out).mono ?_;rintro e w4 ⟨rfl, h4⟩;have BR4 := Hj (BR3.out.rel h4);have R4 := Hj (R3.out.trans h4);clear h4;obtain ⟨rl, rc0, rc1, rc2, rc3, rc4, rc5, rf0, rf1, rf2, rf3, rf4, rf5⟩ := BR4.out;((try simp only []); (repeat (first | go_values | go_skip | go_guarded | go_step | go_upon | go_in)));obtain ⟨g0, g1, g2, g3, g4, g5⟩ : G6 ((((((w4.setCell ⟨w.heap.size, 0, none⟩ (.int .i64 0)).setCell ⟨w.heap.size, 1, none⟩ (.int .i64 0)).setCell ⟨w.heap.size, 2, none⟩ (.int .i64 0)).setCell ⟨w.heap.size, 3, none⟩ (.int .i64 0)).setCell ⟨w.heap.size, 4, none⟩ (.string ⟨#[]⟩)).setCell ⟨w.heap.size, 5, none⟩ (.slice none 0 0)) (w.heap.size) (.int .i64 0) (.int .i64 0) (.int .i64 0) (.int .i64 0) (.string ⟨#[]⟩) (.slice none 0 0) := ⟨by go_simp, by go_simp, by go_simp, by go_simp, by go_simp, by go_simp⟩;refine bodyPost_ret (v := .tuple #[.agg #[.int .i64 0, .int .i64 0, .int .i64 0, .int .i64 0, .string ⟨#[]⟩, .slice none 0 0], .int .i64 (posI l s.size s1.i), .int .i64 4]) ?_ rfl ⟨_, rfl, zero_kids _, ((((((R4.out.setCell (p := ⟨w.heap.size, 0, none⟩) (Nat.le_refl _) _).setCell (p := ⟨w.heap.size, 1, none⟩) (Nat.le_refl _) _).setCell (p := ⟨w.heap.size, 2, none⟩) (Nat.le_refl _) _).setCell (p := ⟨w.heap.size, 3, none⟩) (Nat.le_refl _) _).setCell (p := ⟨w.heap.size, 4, none⟩) (Nat.le_refl _) _).setCell (p := ⟨w.heap.size, 5, none⟩) (Nat.le_refl _) _)⟩;simp [results, Tryz.results15, go_sem, g0, g1, g2, g3, g4, g5]
end Go.Proofs.YtkghmghjgikihaaGreatDoor

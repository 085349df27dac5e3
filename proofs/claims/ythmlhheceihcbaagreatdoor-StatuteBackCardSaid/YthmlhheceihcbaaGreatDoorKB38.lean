/- Lemmas, each as it is printed; no conditions but those printed. -/
import Derived.Test.YthmlhheceihcbaaGreatDoorKB37
namespace Go.Proofs.YthmlhheceihcbaaGreatDoor
set_option maxHeartbeats 16000000
open Go.RowKit Cal Str Tok Frac Txt Tree Go.Proofs.Tryz
set_option linter.unusedVariables false
structure PAll (b G : Nat) (tk : List Tk) (E : Int) (f : Nat) : Prop where
 p0 : PC b G tk E 85 0 f
 p1 : PC b G tk E 124 1 f
 p2 : PC b G tk E 161 2 f
 p3 : PC b G tk E 183 3 f
 p4 : PC b G tk E 194 4 f
 p5 : PC b G tk E 201 5 f
 p6 : PC b G tk E 205 6 f
 p7 : PC b G tk E 206 7 f
theorem cc_pos (m : Nat) : 1 <= cc m := by unfold cc; (repeat' split) <;> omega
theorem pc_zero (b G : Nat) (tk : List Tk) (E : Int) (fn : FuncId) (m : Nat) : PC b G tk E fn m 0 := fun w s _ h => by
 have := cc_pos m; omega
theorem parse_upto (b G : Nat) (tk : List Tk) (E : Int) (hT : TksOk tk) (F : Nat) : ∀ f, f <= F -> PAll b G tk E f := by
 induction F with
 | zero =>
  intro f hf;obtain rfl : f = 0 := by omega
  exact ⟨pc_zero _ _ _ _ _ _, pc_zero _ _ _ _ _ _, pc_zero _ _ _ _ _ _, pc_zero _ _ _ _ _ _, pc_zero _ _ _ _ _ _, pc_zero _ _ _ _ _ _, pc_zero _ _ _ _ _ _, pc_zero _ _ _ _ _ _⟩
 | succ F ih =>
  intro f hf;by_cases h : f <= F
  ·exact ih f h
  ·obtain rfl : f = F + 1 := by omega
   exact ⟨pexpr_step b G tk E F (fun g hg => (ih g hg).p0) (fun g hg => (ih g hg).p1), por_step b G tk E F (.inl ⟨rfl, rfl, rfl, rfl, rfl⟩) (fun g hg => (ih g hg).p2), por_step b G tk E F (.inr ⟨rfl, rfl, rfl, rfl, rfl⟩) (fun g hg => (ih g hg).p3), pnot_step b G tk E F (fun g hg => (ih g hg).p3) (fun g hg => (ih g hg).p4),
    prel_step b G tk E F (fun g hg => (ih g hg).p5), psum_step b G tk E F (.inl ⟨rfl, rfl, rfl, rfl⟩) (fun g hg => (ih g hg).p6), psum_step b G tk E F (.inr ⟨rfl, rfl, rfl, rfl⟩) (fun g hg => (ih g hg).p7), pfactor_step b G tk E hT F (fun g hg => (ih g hg).p0) (fun g hg => (ih g hg).p7)⟩
theorem parse_all (b G : Nat) (tk : List Tk) (E : Int) (hT : TksOk tk) (f : Nat) : PAll b G tk E f := parse_upto b G tk E hT f f (Nat.le_refl _)
/-! How large the trees are -/
theorem sz_trB (op : Int) (a b : Ex) : (trB op a b).size = a.size + b.size + 1 := by unfold trB; rw [size_mk]; simp [smK]
theorem sz_trU (op : Int) (a : Ex) : (trU op a).size = a.size + 1 := by unfold trU; rw [size_mk]; simp [smK]
theorem sz_trI (a b c : Ex) : (trI a b c).size = a.size + b.size + c.size + 1 := by unfold trI; rw [size_mk]; simp [smK]
theorem sz_trN (s : ByteArray) : (trN s).size = 1 := by unfold trN; rw [size_mk]; simp [smK]
theorem sz_trL (a b d : Int) : (trL a b d).size = 1 := by unfold trL; rw [size_mk]; simp [smK]
theorem sz_trS (n : Int) : (trS n).size = 1 := by unfold trS; rw [size_mk]; simp [smK]
theorem pe_size (tk : List Tk) (f : Nat) : (∀ m a s, (m = 11 \/ m = 12 \/ m = 15 \/ m = 16) -> (pe tk f m a s).1.size + 3 * (s.i : Int) <= a.size + 3 * ((pe tk f m a s).2.i : Int)) /\ (∀ m s, (m = 0 \/ m = 1 \/ m = 2 \/ m = 3 \/ m = 4 \/ m = 5 \/ m = 6 \/ m = 7) -> (pe tk f m .no s).1.size + 3 * (s.i : Int) <= 1 + 3 * ((pe tk f m .no s).2.i : Int)) := by
 induction f with
 | zero => exact ⟨fun m a s _ => Int.le_refl _, fun m s _ => Int.le_refl _⟩
 | succ f ih =>
  obtain ⟨il, in'⟩ := ih;have l11 := fun a s => il 11 a s (by decide)
  have l12 := fun a s => il 12 a s (by decide)
  have l15 := fun a s => il 15 a s (by decide)
  have l16 := fun a s => il 16 a s (by decide)
  have i0 := fun s => in' 0 s (by decide)
  have i1 := fun s => in' 1 s (by decide)
  have i2 := fun s => in' 2 s (by decide)
  have i3 := fun s => in' 3 s (by decide)
  have i4 := fun s => in' 4 s (by decide)
  have i5 := fun s => in' 5 s (by decide)
  have i6 := fun s => in' 6 s (by decide)
  have i7 := fun s => in' 7 s (by decide)
  have ad : ∀ s : Pt, (s.adv.i : Int) = s.i + 1 := fun s => by unfold Pt.adv; simp
  have ex : ∀ x (s : Pt), (s.i : Int) <= (expP tk x s).i := fun x s => by have := (exp_beh tk x s).1; omega
  refine ⟨fun m a s hm => ?_, fun m s hm => ?_⟩
  ·rcases hm with rfl | rfl | rfl | rfl
   ·rw [pe_11];by_cases h : accB tk kOr s = true
    ·rw [if_pos h];have h1 := i2 s.adv;have h2 := l11 (trB 18 a (pe tk f 2 .no s.adv).1) (pe tk f 2 .no s.adv).2;rw [sz_trB] at h2;have := ad s;omega
    ·rw [if_neg h]; exact Int.le_refl _
   ·rw [pe_12];by_cases h : accB tk kAnd s = true
    ·rw [if_pos h];have h1 := i3 s.adv;have h2 := l12 (trB 17 a (pe tk f 3 .no s.adv).1) (pe tk f 3 .no s.adv).2;rw [sz_trB] at h2;have := ad s;omega
    ·rw [if_neg h]; exact Int.le_refl _
   ·rw [pe_15];by_cases h : binO tk s sumL = true
    ·rw [if_pos h];have h1 := i6 s.adv;have h2 := l15 (trB (binT tk s sumL) a (pe tk f 6 .no s.adv).1) (pe tk f 6 .no s.adv).2;rw [sz_trB] at h2;have := ad s;omega
    ·rw [if_neg h]; exact Int.le_refl _
   ·rw [pe_16];by_cases h : binO tk s mulL = true
    ·rw [if_pos h];have h1 := i7 s.adv;have h2 := l16 (trB (binT tk s mulL) a (pe tk f 7 .no s.adv).1) (pe tk f 7 .no s.adv).2;rw [sz_trB] at h2;have := ad s;omega
    ·rw [if_neg h]; exact Int.le_refl _
  ·rcases hm with rfl | rfl | rfl | rfl | rfl | rfl | rfl | rfl
   ·rw [pe_0];by_cases h : accB tk kIf s = true
    ·rw [if_pos h];dsimp only;rw [sz_trI];have h1 := i0 s.adv;have h2 := i0 (expP tk kThen (pe tk f 0 .no s.adv).2);have h3 := i0 (expP tk kElse (pe tk f 0 .no (expP tk kThen (pe tk f 0 .no s.adv).2)).2);have h4 := ex kThen (pe tk f 0 .no s.adv).2;have h5 := ex kElse (pe tk f 0 .no (expP tk kThen (pe tk f 0 .no s.adv).2)).2;have := ad s;omega
    ·rw [if_neg h]; exact i1 s
   ·rw [pe_1];have h1 := i2 s;have h2 := l11 (pe tk f 2 .no s).1 (pe tk f 2 .no s).2;omega
   ·rw [pe_2];have h1 := i3 s;have h2 := l12 (pe tk f 3 .no s).1 (pe tk f 3 .no s).2;omega
   ·rw [pe_3];by_cases h : accB tk kNot s = true
    ·rw [if_pos h];dsimp only;rw [sz_trU];have h1 := i3 s.adv;have := ad s;omega
    ·rw [if_neg h]; exact i4 s
   ·rw [pe_4];by_cases h : binO tk (pe tk f 5 .no s).2 relL = true
    ·rw [if_pos h];dsimp only;rw [sz_trB];have h1 := i5 s;have h2 := i5 (pe tk f 5 .no s).2.adv;have := ad (pe tk f 5 .no s).2;omega
    ·rw [if_neg h]; exact i5 s
   ·rw [pe_5];have h1 := i6 s;have h2 := l15 (pe tk f 6 .no s).1 (pe tk f 6 .no s).2;omega
   ·rw [pe_6];have h1 := i7 s;have h2 := l16 (pe tk f 7 .no s).1 (pe tk f 7 .no s).2;omega
   ·rw [pe_7];have hs := ad s;by_cases h1 : accB tk kNeg s = true
    ·rw [if_pos h1];dsimp only;rw [sz_trU];have := i7 s.adv;omega
    rw [if_neg h1];by_cases h2 : accB tk kOpen s = true
    ·rw [if_pos h2];dsimp only;have a1 := i0 s.adv;have a2 := ex kShut (pe tk f 0 .no s.adv).2;omega
    rw [if_neg h2];by_cases h3 : accB tk kBest s = true
    ·rw [if_pos h3];dsimp only;rw [sz_trS];have a1 := ex kOpen s.adv;have a2 := (num_beh tk 1 45 (expP tk kOpen s.adv)).1;have a3 := ex kShut (numP tk 1 45 (expP tk kOpen s.adv));omega
    rw [if_neg h3];by_cases h4 : accB tk kFloor s = true
    ·rw [if_pos h4];dsimp only;rw [sz_trU];have a1 := ex kOpen s.adv;have a2 := i0 (expP tk kOpen s.adv);have a3 := ex kShut (pe tk f 0 .no (expP tk kOpen s.adv)).2;omega
    rw [if_neg h4];by_cases h5 : binO tk s mmL = true
    ·rw [if_pos h5];dsimp only;rw [sz_trB];have a1 := ex kOpen s.adv;have a2 := i0 (expP tk kOpen s.adv);have a3 := ex kComma (pe tk f 0 .no (expP tk kOpen s.adv)).2;have a4 := i0 (expP tk kComma (pe tk f 0 .no (expP tk kOpen s.adv)).2);have a5 := ex kShut (pe tk f 0 .no (expP tk kComma (pe tk f 0 .no (expP tk kOpen s.adv)).2)).2;omega
    rw [if_neg h5];by_cases h6 : pkK tk s = 2
    ·rw [if_pos h6];dsimp only;rw [sz_trL];omega
    rw [if_neg h6];dsimp only;rw [sz_trN];have := (nam_beh tk s).1;omega
/-! The tokens of a text -/
def TkG (s : ByteArray) (t : Tk) : Prop := t.T.size <= s.size /\ 0 <= t.A /\ t.A <= s.size /\ (t.K = 1 \/ t.K = 2 \/ t.K = 3 \/ t.K = 4) /\ (t.K = 2 -> decB t.T = true)
theorem tokK_ways {s : ByteArray} {a : Nat} (h : ¬ tokK s a = 0) : a < s.size /\ (tokK s a = 1 \/ tokK s a = 2 \/ tokK s a = 3 \/ tokK s a = 4) /\ (tokK s a = 2 -> decB (s.extract a (a + tokN s a)) = true) := by
 unfold tokK tokN at *;by_cases ha : a < s.size
 ·rw [dif_pos ha] at h |-;rw [dif_pos ha];refine ⟨ha, ?_, ?_⟩
  ·repeat' split at h
   all_goals first | (exact absurd rfl h) | skip
   all_goals (repeat' split) <;> simp_all
  ·intro h2
   repeat' split at h2
   all_goals first | (exact absurd h2 (by decide)) | skip
   all_goals simp_all
 ·rw [dif_neg ha] at h; exact absurd rfl h
theorem allF_ok (s : ByteArray) (f : Nat) : ∀ a acc, a <= s.size -> acc.length <= a -> (∀ t ∈ acc, TkG s t) -> (allF s f a acc).1.length <= s.size /\ ∀ t ∈ (allF s f a acc).1, TkG s t := by
 induction f with
 | zero => intro a acc ha hl h; exact ⟨Nat.le_trans hl ha, h⟩
 | succ f ih =>
  intro a acc ha hl h;simp only [allF];split
  ·exact ⟨Nat.le_trans hl ha, h⟩
  ·split
   ·exact ⟨Nat.zero_le _, fun t ht => by cases ht⟩
   ·rename_i h1 h2;obtain ⟨q1, q2, q3⟩ := tokK_ways h2;have q4 := tok_le q1;have q5 := tokN_pos h2;have q6 := skp_le ha;refine ih _ _ q4 (by rw [List.length_append]; simp; omega) (fun t ht => ?_)
    rcases List.mem_append.1 ht with ht | ht
    ·exact h t ht
    ·simp at ht;subst ht;exact ⟨by simp; omega, by show (0 : Int) <= ((skp s a : Nat) : Int); omega, by show ((skp s a : Nat) : Int) <= _; omega, q2, q3⟩
theorem tks_ok (s : ByteArray) (h8 : s.size <= 8000) : TksOk (allR s).1 := by
 unfold allR;rw [if_pos h8];obtain ⟨h1, h2⟩ := allF_ok s (s.size + 1) 0 [] (by omega) (by simp) (fun t ht => by cases ht);refine ⟨by omega, fun t ht => ?_⟩;obtain ⟨a, b, c, d, e⟩ := h2 t ht;exact ⟨by omega, by omega, by omega, d, e⟩
end Go.Proofs.YthmlhheceihcbaaGreatDoor
namespace Go.Proofs.YthmlhheceihcbaaGreatDoor
set_option maxHeartbeats 16000000
open Go.RowKit Cal Str Tok Frac Txt Tree Go.Proofs.Tryz
attribute [local go_sem] calmUpon
set_option linter.unusedVariables false
set_option linter.unusedSimpArgs false
theorem encL_get {t : Tk} : ∀ {l : List Tk} {i : Nat}, l[i]? = some t -> (encL l)[i * 3]? = some (.int .i64 t.K) /\ (encL l)[i * 3 + 1]? = some (.string t.T) /\ (encL l)[i * 3 + 2]? = some (.int .i64 t.A) := by
 intro l
 induction l with
 | nil => intro i h; simp at h
 | cons q l ih =>
  intro i h;have e : encL (q :: l) = .int .i64 q.K :: .string q.T :: .int .i64 q.A :: encL l := by unfold encL; simp [encT]
  rw [e]
  cases i with
  | zero => simp at h; subst h; exact ⟨rfl, rfl, rfl⟩
  | succ i =>
   simp only [List.getElem?_cons_succ] at h;obtain ⟨h1, h2, h3⟩ := ih h;rw [show (i + 1) * 3 = i * 3 + 1 + 1 + 1 by omega, show i * 3 + 1 + 1 + 1 + 1 = (i * 3 + 1) + 1 + 1 + 1 by omega, show i * 3 + 1 + 1 + 1 + 2 = (i * 3 + 2) + 1 + 1 + 1 by omega];simp only [List.getElem?_cons_succ];exact ⟨h1, h2, h3⟩
theorem prs_new {w : World} {base : Nat} {T U : TypeId} {v : Value} {l : List Tk} {E : Int} (hO : w.ownsRow base T 3 v l.length (encL l)) {b : Nat} (hb : b = w.heap.size) : ∃ (G : Nat) (ad : Option Addr) (n cap : Nat), v = .slice ad n cap /\ (l = [] \/ base <= G) /\ Prs (w.alloc (.cells #[v, .int .i64 E, .bool false, .int .i64 0] U)) b G l E ⟨0, true⟩ := by
 subst hb
 rcases hO.2 with ⟨e, h0⟩ | ⟨g, cap, cur, e, hg, hgl, hc, -⟩
 ·have hl : l = [] := List.eq_nil_of_length_eq_zero h0;subst hl;refine ⟨0, none, 0, 0, e, .inl rfl, ⟨by simp, Nat.zero_le _, ⟨none, 0, by rw [e]; simp, Nat.le_refl _, fun h => by simp at h⟩, .inl rfl, by simp, by simp, by simp, by simp, by simp, by simp⟩⟩
 ·have hlt : g < w.heap.size := by
   rcases Nat.lt_or_ge g w.heap.size with hlt | hge
   ·exact hlt
   ·rw [Array.getElem?_eq_none hge] at hgl; cases hgl
  have r : Rel w (w.alloc (.cells #[v, .int .i64 E, .bool false, .int .i64 0] U)) := (Rel.refl _).alloc _
  have hadd : ∀ m, (⟨g, 0, none⟩ : Addr).add m = ⟨g, m, none⟩ := fun m => by unfold Addr.add; split <;> simp_all
  refine ⟨g, some ⟨g, 0, none⟩, l.length, cap, e, .inr hg, ⟨by simp, Nat.zero_le _, ⟨some ⟨g, 0, none⟩, cap, by rw [e]; simp, by simpa using hc, fun _ => by simp⟩, .inr ⟨by simp; omega, by omega, fun i t ht => ?_⟩, by simp, by simp, by simp, by simp, by simp, by simp⟩⟩;obtain ⟨h1, h2, h3⟩ := encL_get ht;have c1 := hO.cells (g := g) (by rw [e]; rfl) _ _ h1;have c2 := hO.cells (g := g) (by rw [e]; rfl) _ _ h2;have c3 := hO.cells (g := g) (by rw [e]; rfl) _ _ h3;rw [hadd] at c1 c2 c3;exact ⟨r.cell c1, r.cell c2, r.cell c3⟩
def StartRes (s : ByteArray) (w : World) (e : Ending) (w' : World) : Prop := ∃ b G, e = .returned (.tuple #[.pointer (some ⟨b, 0, none⟩), .int .i64 (allR s).2.1, .int .i64 (allR s).2.2]) /\ w.heap.size <= b /\ ((allR s).1 = [] \/ w.heap.size <= G) /\ Prs w' b G (allR s).1 s.size ⟨0, true⟩ /\ Rel w w'
theorem pstart_any (s : ByteArray) (w : World) (hs : s.size <= 140737488355328) : Calls prog 22 #[.string s] w (StartRes s w) := by
 have A := Hj fun w => All_any s w hs
 unfold AllRes at A;unfold StartRes;obtain ⟨l, hl⟩ : ∃ l, (allR s).1 = l := ⟨_, rfl⟩;obtain ⟨x, hx⟩ : ∃ l, (allR s).2.1 = l := ⟨_, rfl⟩;obtain ⟨c, hc⟩ : ∃ l, (allR s).2.2 = l := ⟨_, rfl⟩;rw [hl, hx, hc] at A |-;clear hl hx hc;go_enter func22, ntmps22;go_wp2_with fail;refine (A.out _).mono ?_;rintro e w1 ⟨v, rfl, h1, hO⟩;obtain ⟨G, ad, n, cap, rfl, hG, hP⟩ := prs_new (U := 127) (E := s.size) hO rfl;have P1 := Hj hP;have R1 := Hj h1;clear hO hP h1;refine gw ?_;refine bodyPost_ret (v := .tuple #[.pointer (some ⟨w1.heap.size, 0, none⟩), .int .i64 x, .int .i64 c]) ?_ rfl ⟨w1.heap.size, G, rfl, R1.out.size, hG, P1.out, R1.out.alloc _⟩;simp [results, results22, go_sem]
theorem Toks.set {w : World} {b G : Nat} {tk : List Tk} (h : Toks w b G tk) {g i : Nat} {v : Value} (hne : tk = [] \/ G ≠ g) : Toks (w.setCell ⟨g, i, none⟩ v) b G tk := by
 rcases h with h | ⟨h1, h2, h3⟩
 ·exact .inl h
 ·rcases hne with hne | hne
  ·exact .inl hne
  ·have oc : ∀ j, (w.setCell ⟨g, i, none⟩ v).cell? ⟨G, j, none⟩ = w.cell? ⟨G, j, none⟩ := fun j => World.cell?_setCell_other _ _ _ _ (by intro e; injection e; omega)
   exact .inr ⟨by simpa [World.setCell] using h1, h2, fun i t ht => ⟨(oc _).trans (h3 i t ht).1, (oc _).trans (h3 i t ht).2.1, (oc _).trans (h3 i t ht).2.2⟩⟩
theorem Prs.put {w : World} {b G : Nat} {tk : List Tk} {E : Int} {s : Pt} (h : Prs w b G tk E s) {g i : Nat} {v : Value} (hb : g ≠ b) (hne : tk = [] \/ G ≠ g) : Prs (w.setCell ⟨g, i, none⟩ v) b G tk E s := h.other hb (h.toks.set hne)
def finB (tk : List Tk) (s : Pt) : Bool := s.ok && (s.i == tk.length)
def finA (tk : List Tk) (E : Int) (s : Pt) : Int := if finB tk s = true then 0 else posI tk E s.i
def FinRes (b : Nat) (tk : List Tk) (E : Int) (s : Pt) (w : World) (e : Ending) (w' : World) : Prop := e = .returned (.tuple #[.int .i64 (finA tk E s), .bool (finB tk s)]) /\ Ro b w w'
theorem finish_any (b G : Nat) (tk : List Tk) (E : Int) (s : Pt) (w : World) (h : Prs w b G tk E s) : Calls prog 28 #[.pointer (some ⟨b, 0, none⟩)] w (FinRes b tk E s w) := by
 have HP := Hj h;obtain ⟨ad, cap, t0, hcap, hT⟩ := h.tok;have hlt := h.lt;have hle := h.le;have c2 := h.c2;have c3 := h.c3;unfold FinRes;obtain ⟨n, hn⟩ : ∃ n, tk.length - s.i = n := ⟨_, rfl⟩;rw [hn] at t0;clear h hcap hT;by_cases hz : 0 < n
 ·have e1 : decide ((0 : Int) < (n : Int)) = true := dT (by omega)
  have hB : finB tk s = false := by
   unfold finB;rw [show (s.i == tk.length) = false by rw [zn]; omega]; simp
  have hA : finA tk E s = posI tk E s.i := by unfold finA; rw [if_neg (by rw [hB]; simp)]
  rw [hA, hB];obtain ⟨A, hA'⟩ : ∃ A, posI tk E s.i = A := ⟨_, rfl⟩;rw [hA'];have HA := Hj hA';clear hn hA hB hA' c2 c3;go_enter func28, ntmps28;go_wp2_with fail;refine (fail_any b G tk E s _ HP.out).mono ?_;unfold UnRes;rintro e w1 ⟨⟨v, rfl⟩, hP, h1⟩;have d2 : w1.cell? ⟨b, 2, none⟩ = some (.bool true) := hP.c2;have d3 : w1.cell? ⟨b, 3, none⟩ = some (.int .i64 A) := by have := hP.c3; rw [show (s.no).ok = false from rfl, if_neg (by simp), show (s.no).i = s.i from rfl, HA.out] at this; exact this
  have R1 := Hj h1;clear hP h1 t0;go_wp2_with fail;refine wp_region_calm (fun _ w' => w'.cell? ⟨b, 2, none⟩ = some (.bool true) /\ w'.cell? ⟨b, 3, none⟩ = some (.int .i64 A)) (fun _ => false) [0, 1, 2, 3, 4, 5, 6, 7, 8, 9, 10] 0 (by kernel_rfl) (by kernel_rfl) ?hst ?hS0 (fun w0 h0 => ?_)
  case hst => exact fun _ _ _ h r => ⟨r.cell h.1, r.cell h.2⟩
  case hS0 => exact ⟨d2, d3⟩
  iterate 11
   refine wcg ?_;apply ei
   ·intro M w hM hS;have q1 := hS.1;have q2 := hS.2;unfold calmAt;go_simp;exact ⟨rfl, Rel.refl _⟩
  refine wpAnyR_end (by kernel_rfl) (fun w3 h3' => ?_);(try simp only [Act.put, zla, zlb, zlc]);have h3 := h0.trans h3';clear h0 h3';have kz3 := h3.size;(try simp only [zsa, zsc, zsd] at kz3);have H3 := Hj h3;clear h3;go_wp2;refine bodyPost_ret (v := .tuple #[.int .i64 A, .bool false]) ?_ rfl ⟨rfl, R1.out.trans (Ro.of H3.out)⟩;simp [results, results28, go_sem]
 ·have e1 : decide ((0 : Int) < (n : Int)) = false := dF (by omega)
  have hB : finB tk s = s.ok := by
   unfold finB;rw [show (s.i == tk.length) = true by rw [beq_iff_eq]; omega]; simp
  have hA : finA tk E s = if s.ok = true then 0 else posI tk E s.i := by unfold finA; rw [hB]
  rw [hA, hB];obtain ⟨A, hA'⟩ : ∃ A, (if s.ok = true then 0 else posI tk E s.i) = A := ⟨_, rfl⟩;rw [hA'] at c3 |-;obtain ⟨k, hk⟩ : ∃ k, s.ok = k := ⟨_, rfl⟩;rw [hk] at c2 |-;clear hn hA hB hA' hk;go_enter func28, ntmps28;go_wp2_with fail;refine wp_region_calm (fun _ w' => w'.cell? ⟨b, 2, none⟩ = some (.bool (!k)) /\ w'.cell? ⟨b, 3, none⟩ = some (.int .i64 A)) (fun _ => false) [0, 1, 2, 3, 4, 5, 6, 7, 8, 9, 10] 0 (by kernel_rfl) (by kernel_rfl) ?hst ?hS0 (fun w0 h0 => ?_)
  case hst => exact fun _ _ _ h r => ⟨r.cell h.1, r.cell h.2⟩
  case hS0 => exact ⟨c2, c3⟩
  iterate 11
   refine wcg ?_;apply ei
   ·intro M w hM hS;have q1 := hS.1;have q2 := hS.2;unfold calmAt;go_simp;exact ⟨rfl, Rel.refl _⟩
  refine wpAnyR_end (by kernel_rfl) (fun w3 h3' => ?_);(try simp only [Act.put, zla, zlb, zlc]);have h3 := h0.trans h3';clear h0 h3';have kz3 := h3.size;(try simp only [zsa, zsc, zsd] at kz3);have H3 := Hj h3;clear h3;go_wp2;refine bodyPost_ret (v := .tuple #[.int .i64 A, .bool k]) ?_ rfl ⟨rfl, Ro.of H3.out⟩;simp [results, results28, go_sem]
def zeroEx : Ex := .mk 0 0 0 0 ⟨#[]⟩ 0 (fun _ => .no)
noncomputable def prQ (s : ByteArray) : Ex × Pt := pe (allR s).1 (10 * (allR s).1.length + 8) 0 .no ⟨0, true⟩
noncomputable def prV (s : ByteArray) : Ex × Int × Int :=
 if (allR s).2.2 = 0 then (if finB (allR s).1 (prQ s).2 = true then (if (prQ s).1.valid = true then ((prQ s).1, 0, 0) else (zeroEx, 0, 7)) else (zeroEx, finA (allR s).1 s.size (prQ s).2, 4)) else (zeroEx, (allR s).2.1, (allR s).2.2)
def PxRes (r : Ex × Int × Int) (w : World) (e : Ending) (w' : World) : Prop :=
 ∃ x, e = .returned (.tuple #[.agg #[.int .i64 r.1.op, .int .i64 r.1.va, .int .i64 r.1.vb, .int .i64 r.1.dm, .string r.1.nm, x], .int .i64 r.2.1, .int .i64 r.2.2]) /\ ExKids r.1 w' x /\ Rel w w'
theorem prQ_size (s : ByteArray) (h8 : s.size <= 8000) : (prQ s).1.size <= 1000000 := by
 have h1 := (pe_size (allR s).1 (10 * (allR s).1.length + 8)).2 0 ⟨0, true⟩ (by decide);have h2 := (pe_beh (allR s).1 (10 * (allR s).1.length + 8) 0 .no ⟨0, true⟩ (by unfold md; decide)).2.2 (Nat.zero_le _);have h3 := (tks_ok s h8).len;unfold prQ;have h4 : (((⟨0, true⟩ : Pt).i : Nat) : Int) = 0 := rfl;omega
theorem all_code (s : ByteArray) (h : (allR s).2.2 = 0) : s.size <= 8000 := by
 unfold allR at h
 split at h
 ·assumption
 ·cases h
def PxResB (r : Ex × Int × Int) (w : World) (e : Ending) (w' : World) : Prop :=
 ∃ x, e = .returned (.tuple #[.agg #[.int .i64 r.1.op, .int .i64 r.1.va, .int .i64 r.1.vb, .int .i64 r.1.dm, .string r.1.nm, x], .int .i64 r.2.1, .int .i64 r.2.2]) /\ ExKidsB (fun g => w.heap.size <= g) r.1 w' x /\ Rel w w'
theorem zero_kidsB (P : Nat -> Prop) (w : World) : ExKidsB P zeroEx w (.slice none 0 0) := ⟨⟨by decide, by decide, by decide, by decide, by decide, by decide, by decide, by decide, by decide⟩, by decide, none, 0, rfl, fun h => absurd h (by decide)⟩
theorem p6_c {w0 w : World} {g : Nat} {f : FuncId} {ar : Array Value} {Q : Ending -> World -> Prop} {T : TypeId} {l : List Value} {u0 u1 u2 u3 u4 u5 : Value} (R : Rel w0 w) (hg : w0.heap.size <= g) (B : Blk w g T l) (hl : l.length = 6) (h : ∀ Z, Ro g w Z -> Blk Z g T [u0, u1, u2, u3, u4, u5] -> Rel w0 Z -> Calls prog f ar Z Q) : Calls prog f ar ((((((w.setCell ⟨g, 0, none⟩ u0).setCell ⟨g, 1, none⟩ u1).setCell ⟨g, 2, none⟩ u2).setCell ⟨g, 3, none⟩ u3).setCell ⟨g, 4, none⟩ u4).setCell ⟨g, 5, none⟩ u5) Q :=
 h _ (Ro.p6 0) (six_at _ B hl) ((((((R.setCell (p := ⟨g, 0, none⟩) hg _).setCell (p := ⟨g, 1, none⟩) hg _).setCell (p := ⟨g, 2, none⟩) hg _).setCell (p := ⟨g, 3, none⟩) hg _).setCell (p := ⟨g, 4, none⟩) hg _).setCell (p := ⟨g, 5, none⟩) hg _)
theorem px_ret {fn : Func} {ac : Act} {tm ti tj : Tmp} {w W : World} {T : TypeId} {l : List Value} {t : Ex} {A C : Int} {xa : Option Addr} {xc : Nat} {r : Ex × Int × Int} (e : r = (t, A, C)) (R : Rel w W) (B : Blk W w.heap.size T l) (K : ExKidsB (fun q => w.heap.size < q) t W (.slice xa t.cnt xc)) (hl : l.length = 6 := by rfl) (h : fn.results = #[.cell tm 59, .tmp ti, .tmp tj] := by rfl) (ht : ac.tmps.getD tm undef = .pointer (some ⟨w.heap.size, 0, none⟩) := by rfl) (hi : ac.tmps.getD ti undef = .int .i64 A := by rfl) (hj : ac.tmps.getD tj undef = .int .i64 C := by rfl) (hd : ac.defers = [] := by rfl) :
  bodyPost prog fn (PxResB r w) .ret ac ((((((W.setCell ⟨w.heap.size, 0, none⟩ (.int .i64 t.op)).setCell ⟨w.heap.size, 1, none⟩ (.int .i64 t.va)).setCell ⟨w.heap.size, 2, none⟩ (.int .i64 t.vb)).setCell ⟨w.heap.size, 3, none⟩ (.int .i64 t.dm)).setCell ⟨w.heap.size, 4, none⟩ (.string t.nm)).setCell ⟨w.heap.size, 5, none⟩ (.slice xa t.cnt xc)) := by
 subst e;have n := Nat.le_refl w.heap.size;have k := (six_at (v0 := .int .i64 t.op) (v1 := .int .i64 t.va) (v2 := .int .i64 t.vb) (v3 := .int .i64 t.dm) (v4 := .string t.nm) (v5 := .slice xa t.cnt xc) _ B hl).cs;rw [Array.getD_eq_getD_getElem?] at ht hi hj;refine bodyPost_ret (v := .tuple #[.agg #[.int .i64 t.op, .int .i64 t.va, .int .i64 t.vb, .int .i64 t.dm, .string t.nm, .slice xa t.cnt xc], .int .i64 A, .int .i64 C]) ?_ hd ⟨_, rfl, kidsB_mono (kidsB_ro K (Ro.p6 0) fun q hq => by omega) fun q _ hq => by omega, (((((R.setCell (p := ⟨_, 0, none⟩) n _).setCell (p := ⟨_, 1, none⟩) n _).setCell (p := ⟨_, 2, none⟩) n _).setCell (p := ⟨_, 3, none⟩) n _).setCell (p := ⟨_, 4, none⟩) n _).setCell (p := ⟨_, 5, none⟩) n _⟩;simp [results, h, ht, hi, hj, go_sem, k]
theorem ParseExpr_anyB (s : ByteArray) (w : World) (hs : s.size <= 140737488355328) (ht : Hid (TabW w)) : Calls prog 37 #[.string s] w (PxResB (prV s) w) := by
 have ST := Hj fun w => pstart_any s w hs
 unfold StartRes at ST;have h8 := all_code s;have hT := tks_ok s;have hq := prQ_size s;have hQ : prQ s = pe (allR s).1 (10 * (allR s).1.length + 8) 0 .no ⟨0, true⟩ := rfl;obtain ⟨RES, hR⟩ : ∃ r, prV s = r := ⟨_, rfl⟩;rw [hR];unfold prV at hR;generalize prQ s = q at *;generalize (allR s).1 = l at *;generalize (allR s).2.1 = x at *;generalize (allR s).2.2 = c at *;go_enter func37, ntmps37;go_wp2_with fail;refine al_c fun X BX RX hX => ?_
 refine (ST.out X).mono ?_;rintro e w1 ⟨b, G, rfl, hb, hG, hP, h1⟩;have B := BX.rel h1;have R := RX.trans h1;have zB := B.lt;by_cases hc0 : c = 0
 ·subst hc0;replace h8 := h8 rfl;obtain ⟨t, s1⟩ := q;have C := PX.of hP;have hb1 := hP.lt;have tG : l = [] \/ G ≠ w.heap.size := hG.imp id fun h => by omega
  rw [if_pos rfl] at hR;go_wp2_with fail;refine (((parse_all b G l s.size (hT h8) (10 * l.length + 8)).p0).at 8 C (by unfold rem; simp)).mono ?_;rintro e w2 ⟨t', xa, xc, s', hp, rfl, K, S, r, -⟩;obtain ⟨rfl, rfl⟩ : t = t' /\ s1 = s' := Prod.mk.inj (hQ.trans hp);have hz := hq h8;have B := B.ro r (by omega);have R := Ro.rel R r (by omega);have k1 := B.cs;have f1 := B.f;have l1 := B.lt;go_wp2_with fail;clear k1 f1 l1;refine p6_c R (Nat.le_refl _) B rfl fun Z rZ BZ R => ?_
  have P := S.P.eq rZ.size (rZ.block b S.P.lt (by omega)) (by
   rcases S.hG with h | h
   ·exact .inl h
   ·exact tG.imp id fun n => rZ.block G (Nat.lt_of_lt_of_le h S.R.size) n)
  have K := kidsB_ro K rZ fun q hq => by omega
  refine (finish_any b G l s.size s1 Z P).mono ?_;rintro e w4 ⟨rfl, r4⟩;have R := Ro.rel R r4 (by omega);have B := BZ.ro r4 (by omega);have K := kids_up (m := w.heap.size) (kidsB_ro K r4 fun q hq => by have := S.hb; omega);generalize finA l s.size s1 = fa at *;obtain ⟨fb, hfb⟩ : ∃ k, finB l s1 = k := ⟨_, rfl⟩;rw [hfb] at hR |-;clear BX RX h1 C hP S P rZ BZ r4 hT hQ hfb;have k1 := B.cs;have f1 := B.f;have l1 := B.lt;cases fb
  ·refine gw ?_;exact px_ret (t := zeroEx) hR.symm R B (zero_kidsB _ _)
  ·rw [if_pos rfl] at hR;go_wp2_with fail;refine (ValidExpr_any t _ w4 (kidsB_to K) (by omega) (Hj (ht.out.rel R))).mono ?_;unfold BRes;rintro e w5 ⟨rfl, h5⟩;obtain ⟨V, hV⟩ : ∃ V, t.valid = V := ⟨_, rfl⟩;rw [hV] at hR |-;replace B := B.rel h5;clear k1 f1 l1 hV;have k1 := B.cs;have f1 := B.f;have l1 := B.lt;cases V
   all_goals refine gw ?_
   ·exact px_ret (t := zeroEx) hR.symm (R.trans h5) B (zero_kidsB _ _)
   ·exact px_ret (t := t) hR.symm (R.trans h5) B (kidsB_rl K h5)
 ·rw [if_neg hc0] at hR;have ec : (c == 0) = false := by rw [zn]; exact hc0
  have k1 := B.cs;have f1 := B.f;refine gw ?_;exact px_ret (t := zeroEx) hR.symm R B (zero_kidsB _ _)
/-! The example of chapter 6 -/
def awS : ByteArray := ⟨#[97, 32, 45, 32, 98, 32, 45, 32, 99]⟩
def awT : Ex := trB 8 (trB 8 (trN ⟨#[97]⟩) (trN ⟨#[98]⟩)) (trN ⟨#[99]⟩)
theorem ParseExpr_any (s : ByteArray) (w : World) (hs : s.size <= 140737488355328) (ht : Hid (TabW w)) : Calls prog 37 #[.string s] w (PxRes (prV s) w) := by
 refine (ParseExpr_anyB s w hs ht).mono ?_;rintro e w1 ⟨x, rfl, hK, h1⟩;exact ⟨x, rfl, kidsB_to hK, h1⟩
end Go.Proofs.YthmlhheceihcbaaGreatDoor

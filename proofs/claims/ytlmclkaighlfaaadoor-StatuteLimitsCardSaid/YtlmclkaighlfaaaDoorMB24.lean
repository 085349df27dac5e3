/- Bundle of texts: each says at its head what it proves; no conditions but those printed. -/
import Derived.Test.YtlmclkaighlfaaaDoorMB19
import Derived.Test.YtlmclkaighlfaaaDoorMB22
import Derived.Test.YtlmclkaighlfaaaDoorMB18
import Derived.Test.YtlmclkaighlfaaaDoorMB15
import Derived.Test.YtlmclkaighlfaaaDoorMB0
namespace Go.Proofs.YtlmclkaighlfaaaDoor
set_option maxHeartbeats 16000000
open Cal Str Tok Frac Txt Tree
set_option linter.unusedVariables false
set_option linter.unusedSimpArgs false
abbrev Tx := Int × List UInt8
/-! Steps over tokens. -/
section
variable {tk : List Tk} {i : Nat} {ts : List Tx}
theorem exp_st {x : List UInt8} {K : Int} (hK : K = 1 ∨ K = 4) (h : (tk.drop i).map pj = (K, x) :: ts) : expP tk x ⟨i, true⟩ = ⟨i + 1, true⟩ := exp_eq h (by rcases hK with rfl | rfl <;> simp [hdB])
theorem tab_nm {l : List (List UInt8 × Int)} {z : Int} (hl : (l = kndL ∧ 5 ≤ z ∧ z ≤ 10) ∨ (l = benL ∧ 1 ≤ z ∧ z ≤ 5) ∨ (l = modL ∧ 1 ≤ z ∧ z ≤ 4)) : tabI l ⟨(nmI l z).toArray⟩ = z ∧ ¬ z = 0 := by
 rcases hl with ⟨rfl, h1, h2⟩ | ⟨rfl, h1, h2⟩ | ⟨rfl, h1, h2⟩
 ·rcases (show z = 5 ∨ z = 6 ∨ z = 7 ∨ z = 8 ∨ z = 9 ∨ z = 10 by omega) with rfl | rfl | rfl | rfl | rfl | rfl <;> exact ⟨by decide, by decide⟩
 ·rcases (show z = 1 ∨ z = 2 ∨ z = 3 ∨ z = 4 ∨ z = 5 by omega) with rfl | rfl | rfl | rfl | rfl <;> exact ⟨by decide, by decide⟩
 ·rcases (show z = 1 ∨ z = 2 ∨ z = 3 ∨ z = 4 by omega) with rfl | rfl | rfl | rfl <;> exact ⟨by decide, by decide⟩
theorem wrd_st {l : List (List UInt8 × Int)} {z : Int} (hl : (l = kndL ∧ 5 ≤ z ∧ z ≤ 10) ∨ (l = benL ∧ 1 ≤ z ∧ z ≤ 5) ∨ (l = modL ∧ 1 ≤ z ∧ z ≤ 4)) (h : (tk.drop i).map pj = (1, nmI l z) :: ts) : wrdT tk l ⟨i, true⟩ = z ∧ wrdP tk l ⟨i, true⟩ = ⟨i + 1, true⟩ := by
 obtain ⟨t, h1, h2, h3, h4, h5⟩ := pk_hd h;obtain ⟨e1, e2⟩ := tab_nm hl;have eT : pkT tk ⟨i, true⟩ = ⟨(nmI l z).toArray⟩ := by rw [h5]; exact ba_ext (by rw [h3, mk_list])
 have hO : wrdO tk l ⟨i, true⟩ = true := by unfold wrdO; rw [h4, eT, e1]; simp [e2]
 unfold wrdT wrdP;rw [if_pos hO, if_pos hO, eT, e1]; exact ⟨rfl, rfl⟩
theorem num_st {y : List UInt8} {lo hi a : Int} (hw : whoB ⟨y.toArray⟩ = true) (hd : decN ⟨y.toArray⟩ = a) (h0 : lo ≤ a) (h1 : a ≤ hi) (h : (tk.drop i).map pj = (2, y) :: ts) : numT tk lo hi ⟨i, true⟩ = a ∧ numP tk lo hi ⟨i, true⟩ = ⟨i + 1, true⟩ := by
 obtain ⟨t, k1, k2, k3, k4, k5⟩ := pk_hd h;have eT : t.T = ⟨y.toArray⟩ := ba_ext (by rw [k3, mk_list]);have hO : numO tk lo hi ⟨i, true⟩ = true := by unfold numO; rw [k1]; simp only []; rw [k2, eT, hw, hd]; simp [h0, h1]
 unfold numT numP;rw [if_pos hO, if_pos hO, k5, eT, hd]; exact ⟨rfl, rfl⟩
theorem nam_st {s : ByteArray} (hn : namB s = true) (h : (tk.drop i).map pj = (1, s.data.toList) :: ts) : namT tk ⟨i, true⟩ = s ∧ namP tk ⟨i, true⟩ = ⟨i + 1, true⟩ := by
 obtain ⟨t, k1, k2, k3, k4, k5⟩ := pk_hd h;have eT : t.T = s := ba_ext k3;have hO : namO tk ⟨i, true⟩ = true := by unfold namO; rw [k1]; simp only []; rw [k2, eT, hn]; rfl
 unfold namT namP;rw [if_pos hO, if_pos hO, k5, eT]; exact ⟨rfl, rfl⟩
theorem fac_st {a b : Int} (hf : fdB a b 2 = true) (h1 : 1 ≤ a) (h : (tk.drop i).map pj = (2, (fdT a b 2).data.toList) :: ts) : facT tk ⟨i, true⟩ = (a, b) ∧ facP tk ⟨i, true⟩ = ⟨i + 1, true⟩ := by
 obtain ⟨t, k1, k2, k3, k4, k5⟩ := pk_hd h;obtain ⟨b1, b2, b3, b4⟩ := fd_back hf;have eT : pkT tk ⟨i, true⟩ = fdT a b 2 := by rw [k5]; exact ba_ext k3
 have hO : facO tk ⟨i, true⟩ = true := by unfold facO; rw [k4, eT, b1, b2, b4]; simp [h1]
 unfold facT facP;rw [if_pos hO, if_pos hO, eT, b2, b3]; exact ⟨rfl, rfl⟩
theorem dat_st {y : List UInt8} {d : Int} (hd : prsN ⟨y.toArray⟩ = d) (h : (tk.drop i).map pj = (3, 64 :: y) :: ts) : datT tk ⟨i, true⟩ = d ∧ datP tk ⟨i, true⟩ = ⟨i + 1, true⟩ := by
 obtain ⟨t, k1, k2, k3, k4, k5⟩ := pk_hd h
 have eT : (pkT tk ⟨i, true⟩).extract 1 (pkT tk ⟨i, true⟩).size = ⟨y.toArray⟩ := by
  rw [k5];refine ba_ext ?_;rw [ext_data, k3, mk_list, List.drop_succ_cons, List.drop_zero, List.take_of_length_le];have : t.T.size = (64 :: y).length := by rw [← k3]; exact (size_list _).symm
  simp at this; omega
 unfold datT datP;rw [k4, if_pos rfl, if_pos rfl, eT, hd]; exact ⟨rfl, rfl⟩
theorem tree_st {t : Ex} (hF : t.form = true) (hf : Fol 0 ts) (h : (tk.drop i).map pj = t.tp 0 ++ ts) : ∃ e, t.same e = true ∧ pq tk ⟨i, true⟩ = (e, ⟨i + (t.tp 0).length, true⟩) := by
 obtain ⟨e, h1, h2⟩ := (tree_tg tk t hF).a0 i ts h hf;refine ⟨e, h1, ?_⟩;unfold pq;refine h2.at (by unfold md; decide) ?_;have := rem_le tk ⟨i, true⟩;unfold cm; simp only [if_true]; omega
end
theorem fol_pay (L : Int) (ts : List Tx) : Fol L ((1, kPay) :: ts) := ⟨fun _ => rfl, fun _ => rfl, fun _ => rfl, fun _ => rfl, fun _ => rfl⟩
/-! The tokens -/
def nT (n : Int) : Tx := (2, (numS n).data.toList)
inductive Cls where
 | c (p : Int × Int)
 | s (p : Int × Int × Int)
 | l (p : ByteArray × Ex)
 | g (p : Int × Ex × Ex)
 | r (p : Int × Ex)
def Cls.tk : Cls → List Tx
 | .c p => (1, kCredit) :: (1, nmI kndL p.1) :: ((if 0 < p.2 then [(1, kLimit), nT p.2] else []) ++ [(4, kSemi)])
 | .s p => [(1, kIndex), nT p.1, (2, (fdT p.2.1 p.2.2 2).data.toList), (4, kSemi)]
 | .l p => (1, kLet) :: (1, p.1.data.toList) :: (4, kEq) :: (p.2.tp 0 ++ [(4, kSemi)])
 | .g p => (1, kGrant) :: (1, nmI benL p.1) :: (1, kIf) :: (p.2.1.tp 0 ++ (1, kPay) :: (p.2.2.tp 0 ++ [(4, kSemi)]))
 | .r p => (1, kReduce) :: (1, nmI benL p.1) :: (1, kBy) :: (p.2.tp 0 ++ [(4, kSemi)])
def NumOk (n : Int) : Prop := whoB (numS n) = true ∧ decN (numS n) = n
def Cls.ok : Cls → Prop
 | .c p => crV p = true ∧ (0 < p.2 → NumOk p.2)
 | .s p => seV p = true ∧ NumOk p.1
 | .l p => leV p = true
 | .g p => grV p = true
 | .r p => reV p = true
def Cls.put (v : Ver) : Cls → Ver
 | .c p => v.cr1 p
 | .s p => v.se1 p
 | .l p => v.le1 p
 | .g p => v.gr1 p
 | .r p => v.re1 p
def Cls.sm : Cls → Cls → Prop
 | .c p, .c q => p = q
 | .s p, .s q => p = q
 | .l p, .l q => p.1 = q.1 ∧ p.2.same q.2 = true
 | .g p, .g q => p.1 = q.1 ∧ p.2.1.same q.2.1 = true ∧ p.2.2.same q.2.2 = true
 | .r p, .r q => p.1 = q.1 ∧ p.2.same q.2 = true
 | _, _ => False
theorem bw_of2 {lo hi z : Int} (h : bwB lo hi z = true) : lo ≤ z ∧ z ≤ hi := by unfold bwB at h; simpa using h
theorem valid_form {t : Ex} (h : t.valid = true) : t.form = true := by unfold Ex.valid at h; simp only [Bool.and_eq_true] at h; exact h.2.2
theorem numok_data {n : Int} : (⟨((numS n).data.toList).toArray⟩ : ByteArray) = numS n := ba_ext (by rw [mk_list])
theorem cls_back {tk : List Tk} (c : Cls) (hc : c.ok) (v : Ver) {i : Nat} {ts : List Tx} (h : (tk.drop i).map pj = c.tk ++ ts) :
  ∃ c', c.sm c' ∧ claO tk ⟨i, true⟩ = true ∧ claQ tk v ⟨i, true⟩ = (Cls.put v c', ⟨i + c.tk.length, true⟩) := by
 cases c with
 | c p =>
  obtain ⟨h1, h2⟩ := hc;unfold crV at h1;simp only [Bool.and_eq_true] at h1;have k1 := bw_of2 h1.1;have k2 := bw_of2 h1.2;have d1 := drop_one h;obtain ⟨w1, w2⟩ := wrd_st (.inl ⟨rfl, k1⟩) d1;have d2 := drop_one d1;have a1 : accB tk kCredit ⟨i, true⟩ = true := (acc_eq h _).trans rfl;obtain ⟨q1, q2⟩ := claQ_cr (v := v) a1;refine ⟨.c p, rfl, q2, ?_⟩;rw [q1];have eA : (⟨i, true⟩ : Pt).adv = ⟨i + 1, true⟩ := rfl;unfold crQ;rw [eA, w1, w2];by_cases hl : 0 < p.2
  ·rw [if_pos hl] at d2;have a2 : accB tk kLimit ⟨i + 1 + 1, true⟩ = true := (acc_eq d2 _).trans rfl;have d3 := drop_one d2;obtain ⟨hw, hn⟩ := h2 hl;obtain ⟨n1, n2⟩ := num_st (lo := 1) (hi := 73049) (y := (numS p.2).data.toList) (by rw [numok_data]; exact hw) (by rw [numok_data]; exact hn) (by omega) k2.2 d3;have d4 := drop_one d3;rw [limQ_yes a2, show (⟨i + 1 + 1, true⟩ : Pt).adv = ⟨i + 1 + 1 + 1, true⟩ from rfl, n1, n2, exp_st (.inr rfl) d4];simp [Cls.tk, hl, Cls.put]
  ·rw [if_neg hl] at d2;have a2 : accB tk kLimit ⟨i + 1 + 1, true⟩ = false := (acc_eq d2 _).trans rfl;rw [limQ_no a2, exp_st (.inr rfl) d2];obtain ⟨k0, l0⟩ := p;have e0 : l0 = 0 := by dsimp only at hl k2; omega
   subst e0
   simp [Cls.tk, Cls.put]
 | s p =>
  obtain ⟨h1, hw, hn⟩ := hc;unfold seV at h1;simp only [Bool.and_eq_true, decide_eq_true_eq] at h1;have k1 := bw_of2 h1.1;have d1 := drop_one h;obtain ⟨n1, n2⟩ := num_st (lo := 1900) (hi := 2099) (y := (numS p.1).data.toList) (by rw [numok_data]; exact hw) (by rw [numok_data]; exact hn) k1.1 k1.2 d1;have d2 := drop_one d1;obtain ⟨f1, f2⟩ := fac_st h1.2.1 h1.2.2 d2;have d3 := drop_one d2;have a0 : accB tk kCredit ⟨i, true⟩ = false := (acc_eq h _).trans rfl;have a1 : accB tk kIndex ⟨i, true⟩ = true := (acc_eq h _).trans rfl;obtain ⟨q1, q2⟩ := claQ_se (v := v) a0 a1;refine ⟨.s p, rfl, q2, ?_⟩;rw [q1];unfold seQ;rw [show (⟨i, true⟩ : Pt).adv = ⟨i + 1, true⟩ from rfl, n1, n2, f1, f2, exp_st (.inr rfl) d3]
  rfl
 | l p =>
  have h1 : leV p = true := hc;unfold leV at h1;simp only [Bool.and_eq_true] at h1;have d1 := drop_one h;obtain ⟨n1, n2⟩ := nam_st h1.1 d1;have d2 := drop_one d1;have d3 : (tk.drop (i + 1 + 1 + 1)).map pj = p.2.tp 0 ++ (4, kSemi) :: ts := (drop_one d2).trans (by show (p.2.tp 0 ++ [(4, kSemi)]) ++ ts = _; rw [List.append_assoc]; rfl);obtain ⟨e, hs, hq⟩ := tree_st (valid_form h1.2) (fol_semi 0 ts) d3;have d4 := drop_app d3;have a0 : accB tk kCredit ⟨i, true⟩ = false := (acc_eq h _).trans rfl;have a1 : accB tk kIndex ⟨i, true⟩ = false := (acc_eq h _).trans rfl;have a2 : accB tk kLet ⟨i, true⟩ = true := (acc_eq h _).trans rfl;obtain ⟨q1, q2⟩ := claQ_le (v := v) a0 a1 a2;refine ⟨.l (p.1, e), ⟨rfl, hs⟩, q2, ?_⟩;rw [q1];unfold leQ;rw [show (⟨i, true⟩ : Pt).adv = ⟨i + 1, true⟩ from rfl, n1, n2, exp_st (.inr rfl) d2, hq, exp_st (.inr rfl) d4]
  simp [Cls.tk, Cls.put]; omega
 | g p =>
  have h1 : grV p = true := hc;unfold grV at h1;simp only [Bool.and_eq_true] at h1;have k1 := bw_of2 h1.1;have d1 := drop_one h;obtain ⟨w1, w2⟩ := wrd_st (.inr (.inl ⟨rfl, k1⟩)) d1;have d2 := drop_one d1;have d3 : (tk.drop (i + 1 + 1 + 1)).map pj = p.2.1.tp 0 ++ (1, kPay) :: (p.2.2.tp 0 ++ (4, kSemi) :: ts) := (drop_one d2).trans (by show (p.2.1.tp 0 ++ (1, kPay) :: (p.2.2.tp 0 ++ [(4, kSemi)])) ++ ts = _; rw [List.append_assoc, List.cons_append, List.append_assoc]; rfl);obtain ⟨e, hs, hq⟩ := tree_st (valid_form h1.2.1) (fol_pay 0 _) d3;have d4 := drop_app d3;have d5 := drop_one d4;obtain ⟨e', hs', hq'⟩ := tree_st (valid_form h1.2.2) (fol_semi 0 ts) d5;have d6 := drop_app d5;have a0 : accB tk kCredit ⟨i, true⟩ = false := (acc_eq h _).trans rfl;have a1 : accB tk kIndex ⟨i, true⟩ = false := (acc_eq h _).trans rfl;have a2 : accB tk kLet ⟨i, true⟩ = false := (acc_eq h _).trans rfl;have a3 : accB tk kGrant ⟨i, true⟩ = true := (acc_eq h _).trans rfl;obtain ⟨q1, q2⟩ := claQ_gr (v := v) a0 a1 a2 a3;refine ⟨.g (p.1, e, e'), ⟨rfl, hs, hs'⟩, q2, ?_⟩;rw [q1];unfold grQ;dsimp only;rw [show (⟨i, true⟩ : Pt).adv = ⟨i + 1, true⟩ from rfl, w1, w2, exp_st (.inl rfl) d2, hq, exp_st (.inl rfl) d4, hq', exp_st (.inr rfl) d6]
  simp [Cls.tk, Cls.put]; omega
 | r p =>
  have h1 : reV p = true := hc;unfold reV at h1;simp only [Bool.and_eq_true] at h1;have k1 := bw_of2 h1.1;have d1 := drop_one h;obtain ⟨w1, w2⟩ := wrd_st (.inr (.inl ⟨rfl, k1⟩)) d1;have d2 := drop_one d1;have d3 : (tk.drop (i + 1 + 1 + 1)).map pj = p.2.tp 0 ++ (4, kSemi) :: ts := (drop_one d2).trans (by show (p.2.tp 0 ++ [(4, kSemi)]) ++ ts = _; rw [List.append_assoc]; rfl);obtain ⟨e, hs, hq⟩ := tree_st (valid_form h1.2) (fol_semi 0 ts) d3;have d4 := drop_app d3;have a0 : accB tk kCredit ⟨i, true⟩ = false := (acc_eq h _).trans rfl;have a1 : accB tk kIndex ⟨i, true⟩ = false := (acc_eq h _).trans rfl;have a2 : accB tk kLet ⟨i, true⟩ = false := (acc_eq h _).trans rfl;have a3 : accB tk kGrant ⟨i, true⟩ = false := (acc_eq h _).trans rfl;have a4 : accB tk kReduce ⟨i, true⟩ = true := (acc_eq h _).trans rfl;obtain ⟨q1, q2⟩ := claQ_re (v := v) a0 a1 a2 a3 a4;refine ⟨.r (p.1, e), ⟨rfl, hs⟩, q2, ?_⟩;rw [q1];unfold reQ;rw [show (⟨i, true⟩ : Pt).adv = ⟨i + 1, true⟩ from rfl, w1, w2, exp_st (.inl rfl) d2, hq, exp_st (.inr rfl) d4];simp [Cls.tk, Cls.put]; omega
/-! Rows of clauses -/
def clsR : List Cls → List Cls → Prop
 | [], [] => True
 | a :: L, b :: M => a.sm b ∧ clsR L M
 | _, _ => False
theorem cla_end {tk : List Tk} {i : Nat} {ts : List Tx} (h : (tk.drop i).map pj = (4, kR) :: ts) : claO tk ⟨i, true⟩ = false := by
 unfold claO;rw [acc_eq h, acc_eq h, acc_eq h, acc_eq h, acc_eq h]; rfl
theorem claL_back {tk : List Tk} : ∀ (cs : List Cls) (f : Nat) (v : Ver) (i : Nat) (ts : List Tx), (∀ c ∈ cs, c.ok) → (tk.drop i).map pj = cs.flatMap Cls.tk ++ (4, kR) :: ts → cs.length + 1 ≤ f →
  ∃ cs', clsR cs cs' ∧ claL tk f v ⟨i, true⟩ = (cs'.foldl Cls.put v, ⟨i + (cs.flatMap Cls.tk).length, true⟩) := by
 intro cs
 induction cs with
 | nil =>
  intro f v i ts _ h hf;refine ⟨[], trivial, ?_⟩
  cases f with
  | zero => simp at hf
  | succ f => simp only [claL]; rw [if_neg (by rw [cla_end (by simpa using h)]; simp)]; rfl
 | cons c cs ih =>
  intro f v i ts hc h hf
  cases f with
  | zero => simp at hf
  | succ f =>
   rw [List.flatMap_cons, List.append_assoc] at h;obtain ⟨c', h1, h2, h3⟩ := cls_back c (hc c (List.mem_cons_self ..)) v h;have d := drop_app h;obtain ⟨cs', k1, k2⟩ := ih f (Cls.put v c') _ ts (fun c hc' => hc c (List.mem_cons_of_mem _ hc')) d (by simp at hf; omega);refine ⟨c' :: cs', ⟨h1, k1⟩, ?_⟩;simp only [claL];rw [if_pos h2, h3];dsimp only;rw [k2, List.flatMap_cons, List.length_append, Nat.add_assoc]; rfl
/-! Versions -/
def lR {α : Type} (f : α → α → Prop) (L M : List α) : Prop := L.length = M.length ∧ ∀ (i : Nat) p q, L[i]? = some p → M[i]? = some q → f p q
theorem lR_nil {α : Type} {f : α → α → Prop} : lR f [] [] := ⟨rfl, fun i p q h => by simp at h⟩
theorem lR_snoc {α : Type} {f : α → α → Prop} {L M : List α} {p q : α} (h : lR f L M) (hf : f p q) : lR f (L ++ [p]) (M ++ [q]) := by
 obtain ⟨h1, h2⟩ := h;refine ⟨by simp [h1], fun i a b ha hb => ?_⟩
 rcases Nat.lt_or_ge i L.length with hi | hi
 ·rw [List.getElem?_append_left hi] at ha;rw [List.getElem?_append_left (by omega)] at hb;exact h2 i a b ha hb
 ·rw [List.getElem?_append_right hi] at ha;rw [List.getElem?_append_right (by omega)] at hb
  have : i - L.length = 0 := by
   rcases Nat.eq_zero_or_pos (i - L.length) with e | e
   ·exact e
   ·rw [List.getElem?_eq_none (by simp; omega)] at ha; cases ha
  rw [this] at ha;rw [← h1, this] at hb;simp at ha hb;subst ha hb; exact hf
def leP (p q : ByteArray × Ex) : Prop := p.1 = q.1 ∧ p.2.same q.2 = true
def grP (p q : Int × Ex × Ex) : Prop := p.1 = q.1 ∧ p.2.1.same q.2.1 = true ∧ p.2.2.same q.2.2 = true
def reP (p q : Int × Ex) : Prop := p.1 = q.1 ∧ p.2.same q.2 = true
structure VerR (v u : Ver) : Prop where
 f : v.frm = u.frm
 m : v.mode = u.mode
 n : v.unit = u.unit
 c : v.cr = u.cr
 s : v.se = u.se
 l : lR leP v.le u.le
 g : lR grP v.gr u.gr
 r : lR reP v.re u.re
theorem put_R {v u : Ver} {a b : Cls} (h : VerR v u) (k : a.sm b) : VerR (Cls.put v a) (Cls.put u b) := by
 cases a with
 | c p => cases b with
  | c q => cases k; exact { h with c := by show v.cr ++ [p] = u.cr ++ [p]; rw [h.c] }
  | s q => cases k
  | l q => cases k
  | g q => cases k
  | r q => cases k
 | s p => cases b with
  | s q => cases k; exact { h with s := by show v.se ++ [p] = u.se ++ [p]; rw [h.s] }
  | c q => cases k
  | l q => cases k
  | g q => cases k
  | r q => cases k
 | l p => cases b with
  | l q => exact { h with l := lR_snoc h.l k }
  | c q => cases k
  | s q => cases k
  | g q => cases k
  | r q => cases k
 | g p => cases b with
  | g q => exact { h with g := lR_snoc h.g k }
  | c q => cases k
  | s q => cases k
  | l q => cases k
  | r q => cases k
 | r p => cases b with
  | r q => exact { h with r := lR_snoc h.r k }
  | c q => cases k
  | s q => cases k
  | l q => cases k
  | g q => cases k
theorem fold_R : ∀ (cs cs' : List Cls) (v u : Ver), VerR v u → clsR cs cs' → VerR (cs.foldl Cls.put v) (cs'.foldl Cls.put u) := by
 intro cs
 induction cs with
 | nil => intro cs' v u h k; cases cs' with
  | nil => exact h
  | cons => exact k.elim
 | cons c cs ih => intro cs' v u h k; cases cs' with
  | nil => exact k.elim
  | cons c' cs' => exact ih cs' _ _ (put_R h k.1) k.2
def Ver.cls (v : Ver) : List Cls := v.cr.map .c ++ (v.se.map .s ++ (v.le.map .l ++ (v.gr.map .g ++ v.re.map .r)))
theorem fold_c (L : List (Int × Int)) : ∀ v : Ver, (L.map Cls.c).foldl Cls.put v = { v with cr := v.cr ++ L } := by
 induction L with
 | nil => intro v; simp
 | cons p L ih => intro v; simp only [List.map_cons, List.foldl_cons, ih]; simp [Cls.put, Ver.cr1]
theorem fold_s (L : List (Int × Int × Int)) : ∀ v : Ver, (L.map Cls.s).foldl Cls.put v = { v with se := v.se ++ L } := by
 induction L with
 | nil => intro v; simp
 | cons p L ih => intro v; simp only [List.map_cons, List.foldl_cons, ih]; simp [Cls.put, Ver.se1]
theorem fold_l (L : List (ByteArray × Ex)) : ∀ v : Ver, (L.map Cls.l).foldl Cls.put v = { v with le := v.le ++ L } := by
 induction L with
 | nil => intro v; simp
 | cons p L ih => intro v; simp only [List.map_cons, List.foldl_cons, ih]; simp [Cls.put, Ver.le1]
theorem fold_g (L : List (Int × Ex × Ex)) : ∀ v : Ver, (L.map Cls.g).foldl Cls.put v = { v with gr := v.gr ++ L } := by
 induction L with
 | nil => intro v; simp
 | cons p L ih => intro v; simp only [List.map_cons, List.foldl_cons, ih]; simp [Cls.put, Ver.gr1]
theorem fold_r (L : List (Int × Ex)) : ∀ v : Ver, (L.map Cls.r).foldl Cls.put v = { v with re := v.re ++ L } := by
 induction L with
 | nil => intro v; simp
 | cons p L ih => intro v; simp only [List.map_cons, List.foldl_cons, ih]; simp [Cls.put, Ver.re1]
theorem fold_cls (v : Ver) : v.cls.foldl Cls.put ⟨v.frm, v.mode, v.unit, [], [], [], [], []⟩ = v := by
 unfold Ver.cls;rw [List.foldl_append, List.foldl_append, List.foldl_append, List.foldl_append, fold_c, fold_s, fold_l, fold_g, fold_r];simp
theorem verR_refl0 (v : Ver) : VerR ⟨v.frm, v.mode, v.unit, [], [], [], [], []⟩ ⟨v.frm, v.mode, v.unit, [], [], [], [], []⟩ := ⟨rfl, rfl, rfl, rfl, rfl, lR_nil, lR_nil, lR_nil⟩
section
variable (dx : Int → List UInt8)
def verTk (v : Ver) : List Tx := (3, 64 :: dx v.frm) :: (4, kL) :: (1, kRound) :: (1, nmI modL v.mode) :: nT v.unit :: (4, kSemi) :: (v.cls.flatMap Cls.tk ++ [(4, kR)])
structure VerOk (v : Ver) : Prop where
 d : prsN ⟨(dx v.frm).toArray⟩ = v.frm
 m : 1 ≤ v.mode ∧ v.mode ≤ 4
 u : 1 ≤ v.unit ∧ v.unit ≤ 100000
 n : NumOk v.unit
 c : ∀ c ∈ v.cls, c.ok
theorem ver_back {tk : List Tk} {v : Ver} (hv : VerOk dx v) {i : Nat} {ts : List Tx} (h : (tk.drop i).map pj = verTk dx v ++ ts) : ∃ u, VerR v u ∧ verQ tk ⟨i, true⟩ = (u, ⟨i + (verTk dx v).length, true⟩) := by
 obtain ⟨a1, a2⟩ := dat_st hv.d h;have d1 := drop_one h;have d2 := drop_one d1;have d3 := drop_one d2;obtain ⟨b1, b2⟩ := wrd_st (.inr (.inr ⟨rfl, hv.m⟩)) d3;have d4 := drop_one d3;obtain ⟨c1, c2⟩ := num_st (lo := 1) (hi := 100000) (y := (numS v.unit).data.toList) (by rw [numok_data]; exact hv.n.1) (by rw [numok_data]; exact hv.n.2) hv.u.1 hv.u.2 d4;have d5 := drop_one d4;have d6 : (tk.drop (i + 1 + 1 + 1 + 1 + 1 + 1)).map pj = v.cls.flatMap Cls.tk ++ (4, kR) :: ts := (drop_one d5).trans (by show (v.cls.flatMap Cls.tk ++ [(4, kR)]) ++ ts = _; rw [List.append_assoc]; rfl)
 have eH : verH tk ⟨i, true⟩ = (⟨v.frm, v.mode, v.unit, [], [], [], [], []⟩, ⟨i + 1 + 1 + 1 + 1 + 1 + 1, true⟩) := by
  unfold verH;dsimp only;rw [a1, a2, exp_st (.inr rfl) d1, exp_st (.inl rfl) d2, b1, b2, c1, c2, exp_st (.inr rfl) d5]
 have hl : v.cls.length + 1 ≤ tk.length + 1 := by
  have h1 := congrArg List.length d6;simp only [List.length_map, List.length_drop, List.length_append] at h1
  have h2 : v.cls.length ≤ (v.cls.flatMap Cls.tk).length := by
   generalize v.cls = cs
   induction cs with
   | nil => simp
   | cons c cs ih =>
    rw [List.flatMap_cons, List.length_append, List.length_cons]
    have : 1 ≤ c.tk.length := by cases c <;> simp [Cls.tk]
    omega
  omega
 obtain ⟨cs', k1, k2⟩ := claL_back v.cls (tk.length + 1) ⟨v.frm, v.mode, v.unit, [], [], [], [], []⟩ _ ts hv.c d6 hl;have d7 := drop_app d6;have hR := fold_R v.cls cs' _ _ (verR_refl0 v) k1;rw [fold_cls] at hR;refine ⟨_, hR, ?_⟩;unfold verQ;dsimp only;rw [eH];dsimp only;rw [k2];dsimp only;rw [exp_st (.inr rfl) d7];unfold verTk;simp only [List.length_cons, List.length_append, List.length_nil, Prod.mk.injEq, Pt.mk.injEq, and_true, true_and];omega
theorem verL_back {tk : List Tk} : ∀ (vs : List Ver) (f : Nat) (L : List Ver) (i : Nat) (ts : List Tx), (∀ v ∈ vs, VerOk dx v) → (tk.drop i).map pj = vs.flatMap (fun v => (1, kFrom) :: verTk dx v) ++ (4, kR) :: ts → vs.length + 1 ≤ f →
  ∃ us, lR VerR vs us ∧ verL tk f L ⟨i, true⟩ = (L ++ us, ⟨i + (vs.flatMap (fun v => ((1, kFrom) : Tx) :: verTk dx v)).length, true⟩) := by
 intro vs
 induction vs with
 | nil =>
  intro f L i ts _ h hf;refine ⟨[], lR_nil, ?_⟩
  cases f with
  | zero => simp at hf
  | succ f =>
   simp only [verL]
   rw [if_neg (by rw [acc_eq (by simpa using h)]; simp [hdB, kFrom, kR])]; simp
 | cons v vs ih =>
  intro f L i ts hv h hf
  cases f with
  | zero => simp at hf
  | succ f =>
   rw [List.flatMap_cons, List.append_assoc, List.cons_append] at h;have a1 : accB tk kFrom ⟨i, true⟩ = true := (acc_eq h _).trans rfl;have d1 := drop_one h;obtain ⟨u, h1, h2⟩ := ver_back dx (hv v (List.mem_cons_self ..)) d1;have d2 := drop_app d1;obtain ⟨us, k1, k2⟩ := ih f (L ++ [u]) _ ts (fun v hv' => hv v (List.mem_cons_of_mem _ hv')) d2 (by simp at hf; omega);refine ⟨u :: us, ⟨by simp [k1.1], fun j p q hp hq => ?_⟩, ?_⟩
   ·cases j with
    | zero => simp at hp hq; subst hp hq; exact h1
    | succ j => exact k1.2 j p q (by simpa using hp) (by simpa using hq)
   ·simp only [verL];rw [if_pos a1, show (⟨i, true⟩ : Pt).adv = ⟨i + 1, true⟩ from rfl, h2];dsimp only;rw [k2];simp only [List.append_assoc, List.cons_append, List.nil_append, List.flatMap_cons, List.length_append, List.length_cons, Prod.mk.injEq, Pt.mk.injEq, and_true, true_and];omega
def staTk (s : Sta) : List Tx := (1, kStatute) :: (1, s.nm.data.toList) :: (1, kCurrency) :: nT s.cur :: (4, kL) :: (s.vs.flatMap (fun v => ((1, kFrom) : Tx) :: verTk dx v) ++ [(4, kR)])
theorem sta_back {tk : List Tk} {s : Sta} (hn : namB s.nm = true) (hc : 1 ≤ s.cur ∧ s.cur ≤ 999) (hN : NumOk s.cur) (h1 : 1 ≤ s.vs.length) (hv : ∀ v ∈ s.vs, VerOk dx v) (h : tk.map pj = staTk dx s) :
  ∃ us, lR VerR s.vs us ∧ staQ tk = (⟨s.nm, s.cur, us⟩, ⟨tk.length, true⟩) := by
 have h0 : (tk.drop 0).map pj = staTk dx s := by rw [List.drop_zero]; exact h
 have hlen : tk.length = (staTk dx s).length := by rw [← h, List.length_map]
 have d1 := drop_one h0;obtain ⟨n1, n2⟩ := nam_st hn d1;have d2 := drop_one d1;have d3 := drop_one d2;obtain ⟨c1, c2⟩ := num_st (lo := 1) (hi := 999) (y := (numS s.cur).data.toList) (by rw [numok_data]; exact hN.1) (by rw [numok_data]; exact hN.2) hc.1 hc.2 d3;have d4 := drop_one d3;have d5 := drop_one d4;obtain ⟨nm, cur, vs⟩ := s;dsimp only at hn hc hN h1 hv d1 d2 d3 d4 d5 n1 n2 c1 c2 hlen ⊢
 cases vs with
 | nil => simp at h1
 | cons v vs =>
  rw [List.flatMap_cons, List.append_assoc, List.cons_append] at d5;have d6 := drop_one d5;obtain ⟨u, k1, k2⟩ := ver_back dx (hv v (List.mem_cons_self ..)) d6;have d7 := drop_app d6
  have hl : vs.length + 1 ≤ tk.length + 1 := by
   have h2 : vs.length ≤ (vs.flatMap (fun v => ((1, kFrom) : Tx) :: verTk dx v)).length := by
    clear h h0 hv hlen d1 d2 d3 d4 d5 d6 d7 h1
    induction vs with
    | nil => simp
    | cons c cs ih => rw [List.flatMap_cons, List.length_append, List.length_cons, List.length_cons]; omega
   have h3 := congrArg List.length d7;simp only [List.length_map, List.length_drop, List.length_append] at h3;omega
  obtain ⟨us, e1, e2⟩ := verL_back dx vs (tk.length + 1) [u] _ [] (fun v hv' => hv v (List.mem_cons_of_mem _ hv')) d7 hl;have d8 := drop_app d7;refine ⟨u :: us, ⟨by simp [e1.1], fun j p q hp hq => ?_⟩, ?_⟩
  ·cases j with
   | zero => simp at hp hq; subst hp hq; exact k1
   | succ j => exact e1.2 j p q (by simpa using hp) (by simpa using hq)
  ·unfold staQ;dsimp only;rw [exp_st (.inl rfl) h0, n1, n2, exp_st (.inl rfl) d2, c1, c2, exp_st (.inr rfl) d4, exp_st (.inl rfl) d5, k2];dsimp only;rw [e2];dsimp only;rw [exp_st (.inr rfl) d8, hlen];unfold staTk;simp only [List.flatMap_cons, List.length_cons, List.length_append, List.length_nil, List.cons_append, List.nil_append, Prod.mk.injEq, Pt.mk.injEq, and_true, true_and];omega
end
/-! The form of a statute depends on its trees up to sameness. -/
theorem all_R {α : Type} {f : α → α → Prop} {g : α → Bool} {L M : List α} (h : lR f L M) (hf : ∀ p q, f p q → g p = g q) : L.all g = M.all g := by
 have e : L.map g = M.map g := by
  refine List.ext_getElem? fun i => ?_
  rw [List.getElem?_map, List.getElem?_map]
  rcases Nat.lt_or_ge i L.length with hi | hi
  ·obtain ⟨p, hp⟩ := get_some hi;obtain ⟨q, hq⟩ : ∃ q, M[i]? = some q := get_some (by rw [← h.1]; exact hi);rw [hp, hq, Option.map_some, Option.map_some, hf p q (h.2 i p q hp hq)]
  ·rw [List.getElem?_eq_none hi, List.getElem?_eq_none (by rw [← h.1]; exact hi)]
 have e2 : (L.map g).all id = (M.map g).all id := by rw [e]
 rw [List.all_map, List.all_map] at e2;exact e2
theorem valid_R {v u : Ver} (h : VerR v u) : v.valid = u.valid := by
 unfold Ver.valid;rw [h.f, h.m, h.n, h.c, h.s, h.l.1, h.g.1, h.r.1, all_R (g := leV) h.l (fun p q k => by unfold leV; rw [k.1, same_valid k.2]), all_R (g := grV) h.g (fun p q k => by unfold grV; rw [k.1, same_valid k.2.1, same_valid k.2.2]), all_R (g := reV) h.r (fun p q k => by unfold reV; rw [k.1, same_valid k.2])]
theorem staValid_R {nm : ByteArray} {cur : Int} {L M : List Ver} (h : lR VerR L M) : (⟨nm, cur, L⟩ : Sta).valid = (⟨nm, cur, M⟩ : Sta).valid := by
 unfold Sta.valid;dsimp only;rw [h.1, all_R (g := Ver.valid) h (fun p q k => valid_R k)]
/-! The text -/
def limD : List UInt8 := [49, 57, 54, 48, 45, 48, 49, 45, 48, 49]
def limA : ByteArray := ⟨#[97]⟩
def limX : List UInt8 := [32, 108, 101, 116, 32, 97, 32, 61, 32, 49, 59]
def limF : List UInt8 := [32, 102, 114, 111, 109, 32, 64, 49, 57, 54, 48, 45, 48, 49, 45, 48, 49, 32, 123, 32, 114, 111, 117, 110, 100, 32, 100, 111, 119, 110, 32, 49, 59]
def limE : List UInt8 := [32, 125]
def limH : List UInt8 := [115, 116, 97, 116, 117, 116, 101, 32, 108, 97, 119, 32, 99, 117, 114, 114, 101, 110, 99, 121, 32, 49, 32, 123]
def repL (x : List UInt8) : Nat → List UInt8
 | 0 => []
 | n + 1 => repL x n ++ x
theorem repL_cons (x : List UInt8) (n : Nat) : repL x (n + 1) = x ++ repL x n := by
 induction n with
 | zero => simp [repL]
 | succ n ih =>
  show repL x (n + 1) ++ x = x ++ (repL x n ++ x)
  rw [ih, List.append_assoc]
theorem repL_len (x : List UInt8) (n : Nat) : (repL x n).length = n * x.length := by
 induction n with
 | zero => simp [repL]
 | succ n ih => rw [repL, List.length_append, ih, Nat.add_mul]; omega
def limV (l : Nat) : List UInt8 := limF ++ (repL limX l ++ limE)
def limS (v l : Nat) : List UInt8 := limH ++ (repL (limV l) v ++ limE)
def limVer (l : Nat) : Ver := ⟨prsN ⟨limD.toArray⟩, 1, 1, [], [], List.replicate l (limA, trL 1 1 2), [], []⟩
def limSta (v l : Nat) : Sta := ⟨lawS', 1, List.replicate v (limVer l)⟩
where lawS' : ByteArray := ⟨#[108, 97, 119]⟩
theorem one_num : nT 1 = (2, [49]) := by unfold nT; rw [show (numS 1).data.toList = [49] by kernel_rfl]
theorem one_tp : (trL 1 1 2).tp 0 = [(2, [49])] := by kernel_rfl
theorem lx_1 {l : List UInt8} {ts : List Tx} (hs : Stop inn l) (hl : Lx l ts) : Lx (49 :: l) ((2, [49]) :: ts) := .num (t := []) rfl (by decide) rfl (by kernel_rfl) hs hl
theorem stop_1 {p : UInt8 → Bool} {c : UInt8} {l : List UInt8} (h : p c = false) : Stop p (c :: l) := stop_cons l h
theorem lx_let {l : List UInt8} {ts : List Tx} (hl : Lx l ts) : Lx (limX ++ l) ((Cls.l (limA, trL 1 1 2)).tk ++ ts) := by
 have e : (Cls.l (limA, trL 1 1 2)).tk ++ ts = (1, kLet) :: (1, [97]) :: (4, kEq) :: (2, [49]) :: (4, kSemi) :: ts := by
  simp only [Cls.tk, one_tp]; rfl
 rw [e];exact lx_sp (lx_word kLet (l := 32 :: 97 :: 32 :: 61 :: 32 :: 49 :: 59 :: l) (by decide) (by decide) (by decide) (stop_1 (by decide)) (lx_sp (lx_word [97] (l := 32 :: 61 :: 32 :: 49 :: 59 :: l) (by decide) (by decide) (by decide) (stop_1 (by decide)) (lx_sp (lx_one 61 (by decide) (by decide) (by decide) (lx_sp (lx_1 (stop_1 (by decide)) (lx_one 59 (by decide) (by decide) (by decide) hl))))))))
theorem lx_lets {l : List UInt8} {ts : List Tx} (hl : Lx l ts) : ∀ n, Lx (repL limX n ++ l) ((List.replicate n (limA, trL 1 1 2)).flatMap (fun p => (Cls.l p).tk) ++ ts) := by
 intro n
 induction n with
 | zero => simpa [repL] using hl
 | succ n ih =>
  rw [repL_cons, List.append_assoc, List.replicate_succ, List.flatMap_cons, List.append_assoc];exact lx_let ih
theorem lim_cls (l : Nat) : (limVer l).cls.flatMap Cls.tk = (List.replicate l (limA, trL 1 1 2)).flatMap (fun p => (Cls.l p).tk) := by
 unfold Ver.cls limVer;simp only [List.map_nil, List.nil_append, List.append_nil, List.flatMap_map]
theorem lx_end {l : List UInt8} {ts : List Tx} (hl : Lx l ts) : Lx (limE ++ l) ((4, kR) :: ts) := lx_sp (lx_one 125 (by decide) (by decide) (by decide) hl)
theorem lx_ver (n : Nat) {l : List UInt8} {ts : List Tx} (hl : Lx l ts) : Lx (limV n ++ l) ((1, kFrom) :: (verTk (fun _ => limD) (limVer n) ++ ts)) := by
 have h1 : Lx (repL limX n ++ (limE ++ l)) ((limVer n).cls.flatMap Cls.tk ++ (4, kR) :: ts) := by rw [lim_cls]; exact lx_lets (lx_end hl) n
 have e : (1, kFrom) :: (verTk (fun _ => limD) (limVer n) ++ ts) = (1, kFrom) :: (3, 64 :: limD) :: (4, kL) :: (1, kRound) :: (1, [100, 111, 119, 110]) :: (2, [49]) :: (4, kSemi) :: ((limVer n).cls.flatMap Cls.tk ++ (4, kR) :: ts) := by
  unfold verTk;simp only [List.cons_append, List.append_assoc, List.nil_append];rw [show (limVer n).unit = 1 from rfl, show (limVer n).mode = 1 from rfl, one_num]; rfl
 have e2 : limV n ++ l = limF ++ (repL limX n ++ (limE ++ l)) := by unfold limV; simp only [List.append_assoc]
 rw [e, e2];generalize repL limX n ++ (limE ++ l) = L at h1;generalize (limVer n).cls.flatMap Cls.tk ++ (4, kR) :: ts = M at h1
 exact lx_sp (lx_word kFrom (l := 32 :: 64 :: (limD ++ 32 :: 123 :: 32 :: 114 :: 111 :: 117 :: 110 :: 100 :: 32 :: 100 :: 111 :: 119 :: 110 :: 32 :: 49 :: 59 :: L)) (by decide) (by decide) (by decide) (stop_1 (by decide))
  (lx_sp (.date (t := limD) (l := 32 :: 123 :: 32 :: 114 :: 111 :: 117 :: 110 :: 100 :: 32 :: 100 :: 111 :: 119 :: 110 :: 32 :: 49 :: 59 :: L) rfl rfl (by kernel_rfl)
  (lx_sp (lx_one 123 (by decide) (by decide) (by decide) (lx_sp (lx_word kRound (l := 32 :: 100 :: 111 :: 119 :: 110 :: 32 :: 49 :: 59 :: L) (by decide) (by decide) (by decide) (stop_1 (by decide))
  (lx_sp (lx_word [100, 111, 119, 110] (l := 32 :: 49 :: 59 :: L) (by decide) (by decide) (by decide) (stop_1 (by decide)) (lx_sp (lx_1 (stop_1 (by decide)) (lx_one 59 (by decide) (by decide) (by decide) h1))))))))))))
theorem lx_vers (n : Nat) {l : List UInt8} {ts : List Tx} (hl : Lx l ts) : ∀ k, Lx (repL (limV n) k ++ l) ((List.replicate k (limVer n)).flatMap (fun v => ((1, kFrom) : Tx) :: verTk (fun _ => limD) v) ++ ts) := by
 intro k
 induction k with
 | zero => simpa [repL] using hl
 | succ k ih =>
  rw [repL_cons, List.append_assoc, List.replicate_succ, List.flatMap_cons, List.append_assoc];exact lx_ver n ih
theorem lx_lim (v l : Nat) : Lx (limS v l) (staTk (fun _ => limD) (limSta v l)) := by
 have h1 : Lx (repL (limV l) v ++ limE) ((limSta v l).vs.flatMap (fun v => ((1, kFrom) : Tx) :: verTk (fun _ => limD) v) ++ [(4, kR)]) := lx_vers l (by have := lx_end Lx.nil; rwa [List.append_nil] at this) v
 have e : staTk (fun _ => limD) (limSta v l) = (1, kStatute) :: (1, [108, 97, 119]) :: (1, kCurrency) :: (2, [49]) :: (4, kL) :: ((limSta v l).vs.flatMap (fun v => ((1, kFrom) : Tx) :: verTk (fun _ => limD) v) ++ [(4, kR)]) := by
  unfold staTk;rw [show (limSta v l).cur = 1 from rfl, one_num]; rfl
 rw [e];unfold limS;generalize repL (limV l) v ++ limE = L at h1;generalize (limSta v l).vs.flatMap (fun v => ((1, kFrom) : Tx) :: verTk (fun _ => limD) v) ++ [(4, kR)] = M at h1
 exact lx_word kStatute (l := 32 :: 108 :: 97 :: 119 :: 32 :: 99 :: 117 :: 114 :: 114 :: 101 :: 110 :: 99 :: 121 :: 32 :: 49 :: 32 :: 123 :: L) (by decide) (by decide) (by decide) (stop_1 (by decide))
  (lx_sp (lx_word [108, 97, 119] (l := 32 :: 99 :: 117 :: 114 :: 114 :: 101 :: 110 :: 99 :: 121 :: 32 :: 49 :: 32 :: 123 :: L) (by decide) (by decide) (by decide) (stop_1 (by decide))
  (lx_sp (lx_word kCurrency (l := 32 :: 49 :: 32 :: 123 :: L) (by decide) (by decide) (by decide) (stop_1 (by decide)) (lx_sp (lx_1 (stop_1 (by decide)) (lx_sp (lx_one 123 (by decide) (by decide) (by decide) h1))))))))
theorem limS_len (v l : Nat) : (limS v l).length = 26 + v * (35 + l * 11) := by
 unfold limS limV;simp only [List.length_append, repL_len];rw [show limH.length = 24 from rfl, show limE.length = 2 from rfl, show limF.length = 33 from rfl, show limX.length = 11 from rfl, show 33 + (l * 11 + 2) = 35 + l * 11 by omega];omega
theorem num_one : NumOk 1 := ⟨by kernel_rfl, by kernel_rfl⟩
theorem let_ok : leV (limA, trL 1 1 2) = true := by kernel_rfl
theorem lim_ok (l : Nat) : VerOk (fun _ => limD) (limVer l) :=
 ⟨rfl, (show (1 : Int) ≤ 1 ∧ (1 : Int) ≤ 4 by decide), (show (1 : Int) ≤ 1 ∧ (1 : Int) ≤ 100000 by decide), num_one, fun c hc => by
  unfold Ver.cls limVer at hc;simp at hc;obtain ⟨-, rfl⟩ := hc
  exact let_ok⟩
theorem limVer_valid (l : Nat) : (limVer l).valid = decide (l ≤ 10) := by
 unfold Ver.valid limVer;have h1 : bwB 0 73048 (prsN ⟨limD.toArray⟩) = true := by kernel_rfl
 have h2 : (List.replicate l (limA, trL 1 1 2)).all leV = true := by
  rw [List.all_replicate, let_ok]; simp
 simp only [List.length_replicate, List.length_nil, List.all_nil, h1, h2];simp [bwB]
theorem limSta_valid (v l : Nat) (hv : 1 ≤ v) : (limSta v l).valid = (decide (v ≤ 6) && decide (l ≤ 10)) := by
 unfold Sta.valid limSta;have h1 : namB limSta.lawS' = true := by kernel_rfl
 have h2 : (List.replicate v (limVer l)).all Ver.valid = decide (l ≤ 10) := by
  rw [List.all_replicate, limVer_valid, if_neg (by omega)]
 simp only [List.length_replicate, h1, h2];rw [decide_eq_true hv];simp [bwB]
theorem lim_parse (v l : Nat) (hv : 1 ≤ v) (hv2 : v ≤ 8) (hl : l ≤ 12) (S : ByteArray) (hS : S.data.toList = limS v l) :
  (v ≤ 6 ∧ l ≤ 10 → ∃ us : List Ver, staV S = (⟨limSta.lawS', 1, us⟩, 0, 0) ∧ us.length = v ∧ ∀ u, us[0]? = some u → u.le.length = l) ∧ (¬ (v ≤ 6 ∧ l ≤ 10) → staV S = (zeroSta, 0, 7)) := by
 have hsz : S.size ≤ 8000 := by
  have h1 : S.size = S.data.toList.length := (size_list S).symm;rw [h1, hS, limS_len];have h2 : v * (35 + l * 11) ≤ 8 * (35 + 12 * 11) := Nat.mul_le_mul hv2 (by omega);omega
 obtain ⟨tk, e1, e2⟩ := lx_allR hsz (by rw [hS]; exact lx_lim v l)
 obtain ⟨us, k1, k2⟩ := sta_back (fun _ => limD) (s := limSta v l) (by kernel_rfl) (show (1 : Int) ≤ 1 ∧ (1 : Int) ≤ 999 by decide) num_one (by unfold limSta; simpa using hv) (fun u hu => by
  unfold limSta at hu;simp at hu
  rw [hu.2]; exact lim_ok l) e2
 have hf : finB tk (⟨tk.length, true⟩ : Pt) = true := by unfold finB; simp
 have hV : (⟨limSta.lawS', 1, us⟩ : Sta).valid = (decide (v ≤ 6) && decide (l ≤ 10)) := by
  rw [← limSta_valid v l hv, ← staValid_R k1]; rfl
 have hk : staQ tk = ((⟨limSta.lawS', 1, us⟩, ⟨tk.length, true⟩) : Sta × Pt) := k2
 have hs : staV S = if (⟨limSta.lawS', 1, us⟩ : Sta).valid = true then (⟨limSta.lawS', 1, us⟩, 0, 0) else (zeroSta, 0, 7) := by
  unfold staV;rw [e1]; dsimp only;rw [if_pos rfl, hk, hf, if_pos rfl]
 have hlen : us.length = v := by have := k1.1; unfold limSta at this; simpa using this.symm
 refine ⟨fun h => ⟨us, ?_, hlen, fun u hu => ?_⟩, fun h => ?_⟩
 ·rw [hs, hV, decide_eq_true h.1, decide_eq_true h.2]; rfl
 ·have h0 : (limSta v l).vs[0]? = some (limVer l) := by
   unfold limSta;simp only [List.getElem?_replicate];rw [if_pos (by omega)]
  have := (k1.2 0 _ _ h0 hu).l.1;unfold limVer at this;simpa using this.symm
 ·rw [hs, hV, if_neg (by
   intro e;simp only [Bool.and_eq_true, decide_eq_true_eq] at e
   exact h e)]
end Go.Proofs.YtlmclkaighlfaaaDoor

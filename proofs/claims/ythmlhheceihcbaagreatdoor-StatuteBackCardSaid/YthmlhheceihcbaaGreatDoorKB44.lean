/- Lemmas, each as it is printed; no conditions but those printed. -/
import Derived.Test.YthmlhheceihcbaaGreatDoorKB43
import Derived.Test.YthmlhheceihcbaaGreatDoorKB34
import Derived.Test.YthmlhheceihcbaaGreatDoorKB33
namespace Go.Proofs.YthmlhheceihcbaaGreatDoor.Tree
set_option maxHeartbeats 16000000
open Str Frac Tok Txt
set_option linter.unusedVariables false
def Stop (p : UInt8 -> Bool) (l : List UInt8) : Prop := ∀ c m, l = c :: m -> p c = false
theorem stop_rn {p : UInt8 -> Bool} {l : List UInt8} (h : Stop p l) : rn p l = 0 := by
 cases l with
 | nil => rfl
 | cons c m => exact rn_no m (h c m rfl)
theorem stop_cons {p : UInt8 -> Bool} {c : UInt8} (l : List UInt8) (h : p c = false) : Stop p (c :: l) := fun x m e => by injection e with e1 _; rw [<- e1]; exact h
inductive Lx : List UInt8 -> List (Int × List UInt8) -> Prop
 | nil : Lx [] []
 | blank {l0 : List UInt8} {c : UInt8} {l : List UInt8} {ts : List (Int × List UInt8)} (e : l0 = c :: l) (h : (c.toNat : Int) = 10 \/ (c.toNat : Int) = 9 \/ (c.toNat : Int) = 13 \/ (c.toNat : Int) = 32) : Lx l ts -> Lx l0 ts
 | word {l0 : List UInt8} {x : UInt8} {t l : List UInt8} {ts : List (Int × List UInt8)} (e : l0 = x :: (t ++ l)) (h : low x = true) (ht : t.all inw = true) (hn : t.length + 1 <= 12) (hs : Stop inw l) : Lx l ts -> Lx l0 ((1, x :: t) :: ts)
 | num {l0 : List UInt8} {x : UInt8} {t l : List UInt8} {ts : List (Int × List UInt8)} (e : l0 = x :: (t ++ l)) (h : dgb x = true) (ht : t.all inn = true) (hd : decB ⟨(x :: t).toArray⟩ = true) (hs : Stop inn l) : Lx l ts -> Lx l0 ((2, x :: t) :: ts)
 | sign {l0 : List UInt8} {x : UInt8} {t l : List UInt8} {ts : List (Int × List UInt8)} (e : l0 = x :: (t ++ l)) (h : sgl (x :: (t ++ l)) = t.length + 1) (hx : sg1 x = true) : Lx l ts -> Lx l0 ((4, x :: t) :: ts)
 | date {l0 : List UInt8} {t l : List UInt8} {ts : List (Int × List UInt8)} (e : l0 = 64 :: (t ++ l)) (ht : t.length = 10) (hp : prsB ⟨t.toArray⟩ = true) : Lx l ts -> Lx l0 ((3, 64 :: t) :: ts)
theorem low_bd {c : UInt8} (h : low c = true) : 97 <= (c.toNat : Int) /\ (c.toNat : Int) <= 122 := by unfold low at h; simpa using h
theorem dgb_bd {c : UInt8} (h : dgb c = true) : 48 <= (c.toNat : Int) /\ (c.toNat : Int) <= 57 := by unfold dgb at h; simpa using h
theorem sg1_bd {c : UInt8} (h : sg1 c = true) : (c.toNat : Int) = 60 \/ (c.toNat : Int) = 62 \/ (c.toNat : Int) = 61 \/ (c.toNat : Int) = 43 \/ (c.toNat : Int) = 45 \/ (c.toNat : Int) = 42 \/ (c.toNat : Int) = 47 \/ (c.toNat : Int) = 40 \/ (c.toNat : Int) = 41 \/ (c.toNat : Int) = 123 \/ (c.toNat : Int) = 125 \/ (c.toNat : Int) = 44 \/ (c.toNat : Int) = 59 := by
 unfold sg1 at h; simpa only [Bool.or_eq_true, beq_iff_eq] using h
theorem low_no {c : UInt8} (h : ¬ (97 <= (c.toNat : Int) /\ (c.toNat : Int) <= 122)) : low c = false := by
 cases hx : low c
 ·rfl
 ·exact absurd (low_bd hx) h
theorem dgb_no {c : UInt8} (h : ¬ (48 <= (c.toNat : Int) /\ (c.toNat : Int) <= 57)) : dgb c = false := by
 cases hx : dgb c
 ·rfl
 ·exact absurd (dgb_bd hx) h
def Hd (l : List UInt8) (ts : List (Int × List UInt8)) : Prop := ∃ K x t m us, l = x :: (t ++ m) /\ ts = (K, x :: t) :: us /\ Lx m us /\
 ((K = 1 /\ low x = true /\ t.all inw = true /\ t.length + 1 <= 12 /\ Stop inw m) \/ (K = 2 /\ dgb x = true /\ t.all inn = true /\ decB ⟨(x :: t).toArray⟩ = true /\ Stop inn m) \/ (K = 4 /\ sgl (x :: (t ++ m)) = t.length + 1 /\ sg1 x = true) \/ (K = 3 /\ x = 64 /\ t.length = 10 /\ prsB ⟨t.toArray⟩ = true))
theorem lx_skl {l : List UInt8} {ts : List (Int × List UInt8)} (h : Lx l ts) : Lx (l.drop (skl false l)) ts /\ (l.drop (skl false l) = [] /\ ts = [] \/ Hd (l.drop (skl false l)) ts) := by
 induction h with
 | nil => exact ⟨.nil, .inl ⟨rfl, rfl⟩⟩
 | @blank l0 c l ts e h _ ih =>
  subst e
  have : skl false (c :: l) = skl false l + 1 := by
   rcases h with h | h | h | h
   ·exact skl_10 _ _ h
   ·exact skl_bl _ _ (by omega)
   ·exact skl_bl _ _ (by omega)
   ·exact skl_bl _ _ (by omega)
  rw [this, List.drop_succ_cons]; exact ih
 | @word l0 x t l ts e h ht hn hs hl _ =>
  subst e;have := low_bd h;rw [skl_no _ (by omega) (by omega) (by omega), List.drop_zero]
  exact ⟨.word rfl h ht hn hs hl, .inr ⟨1, x, t, l, ts, rfl, rfl, hl, .inl ⟨rfl, h, ht, hn, hs⟩⟩⟩
 | @num l0 x t l ts e h ht hd hs hl _ =>
  subst e;have := dgb_bd h;rw [skl_no _ (by omega) (by omega) (by omega), List.drop_zero]
  exact ⟨.num rfl h ht hd hs hl, .inr ⟨2, x, t, l, ts, rfl, rfl, hl, .inr (.inl ⟨rfl, h, ht, hd, hs⟩)⟩⟩
 | @sign l0 x t l ts e h hx hl _ =>
  subst e;have := sg1_bd hx;rw [skl_no _ (by omega) (by omega) (by omega), List.drop_zero]
  exact ⟨.sign rfl h hx hl, .inr ⟨4, x, t, l, ts, rfl, rfl, hl, .inr (.inr (.inl ⟨rfl, h, hx⟩))⟩⟩
 | @date l0 t l ts e ht hp hl _ =>
  subst e;rw [skl_no _ (by decide) (by decide) (by decide), List.drop_zero];exact ⟨.date rfl ht hp hl, .inr ⟨3, 64, t, l, ts, rfl, rfl, hl, .inr (.inr (.inr ⟨rfl, rfl, ht, hp⟩))⟩⟩
def pj (t : Tk) : Int × List UInt8 := (t.K, t.T.data.toList)
theorem lx_tok {s : ByteArray} {b : Nat} {ts : List (Int × List UInt8)} (hb : b <= s.size) (h : Hd (s.data.toList.drop b) ts) :
  b < s.size /\ ∃ K x t us n, ts = (K, x :: t) :: us /\ n = t.length + 1 /\ tokK s b = K /\ tokN s b = n /\ ¬ K = 0 /\ (s.extract b (b + n)).data.toList = x :: t /\ Lx (s.data.toList.drop (b + n)) us := by
 obtain ⟨K, x, t, m, us, e, rfl, hl, hk⟩ := h;have hlen := congrArg List.length e;rw [drop_len, List.length_cons, List.length_append] at hlen;have hbs : b < s.size := by omega
 have hd := drop_cons s b hbs;have hx : s[b] = x := by rw [e] at hd; injection hd with h1 _; exact h1.symm
 have htk : (s.data.toList.drop b).take (t.length + 1) = x :: t := by
  rw [e, List.take_succ_cons, List.take_left'];rfl
 have hex : (s.extract b (b + (t.length + 1))).data.toList = x :: t := by
  rw [ext_data, show b + (t.length + 1) - b = t.length + 1 by omega, htk]
 have hex' : s.extract b (b + (t.length + 1)) = ⟨(x :: t).toArray⟩ := ba_ext (by rw [hex, mk_list])
 have hrest : Lx (s.data.toList.drop (b + (t.length + 1))) us := by
  rw [<- List.drop_drop, e, List.drop_succ_cons, List.drop_left']
  ·exact hl
  ·rfl
 refine ⟨hbs, K, x, t, us, t.length + 1, rfl, rfl, ?_⟩
 rcases hk with ⟨rfl, h1, h2, h3, h4⟩ | ⟨rfl, h1, h2, h3, h4⟩ | ⟨rfl, h1, h2⟩ | ⟨rfl, rfl, h2, h3⟩
 ·have hr : rn inw (s.data.toList.drop b) = t.length + 1 := by
   rw [e, rn_yes _ (low_inw h1), rn_app h2, stop_rn h4]
  obtain ⟨k1, k2⟩ := tok_w1 hbs (by rw [hx]; exact h1) (by rw [hr]; exact h3);exact ⟨k2, k1.trans hr, by decide, hex, hrest⟩
 ·have hi : inn x = true := by unfold inn inw; rw [h1]; simp
  have hr : rn inn (s.data.toList.drop b) = t.length + 1 := by
   rw [e, rn_yes _ hi, rn_app h2, stop_rn h4]
  have hlo : low s[b] = false := by rw [hx]; have := dgb_bd h1; exact low_no (by omega)
  obtain ⟨k1, k2⟩ := tok_n1 hbs hlo (by rw [hx]; exact h1) (by rw [hr, hex']; exact h3);exact ⟨k2, k1.trans hr, by decide, hex, hrest⟩
 ·have hbd := sg1_bd h2;have hlo : low s[b] = false := by rw [hx]; exact low_no (by omega)
  have hdg : dgb s[b] = false := by rw [hx]; exact dgb_no (by omega)
  obtain ⟨k1, k2⟩ := tok_s hbs hlo hdg (by rw [hx]; omega);rw [e, h1] at k1 k2;rw [if_pos (by omega)] at k2;exact ⟨k2, k1, by decide, hex, hrest⟩
 ·have h64 : (s[b].toNat : Int) = 64 := by rw [hx]; rfl
  have e1 : s.extract (b + 1) (b + 11) = ⟨t.toArray⟩ := ba_ext (by
   rw [ext_data, mk_list, <- List.drop_drop, e, List.drop_succ_cons, List.drop_zero, show b + 11 - (b + 1) = t.length by omega, List.take_left])
  obtain ⟨k1, k2⟩ := tok_d1 hbs (low_no (by omega)) (dgb_no (by omega)) h64 (by omega) (by rw [e1]; exact h3);rw [h2];exact ⟨k2, k1, by decide, by rw [h2] at hex; exact hex, by rw [h2] at hrest; exact hrest⟩
theorem lx_all (s : ByteArray) : ∀ (f a : Nat) (acc : List Tk) (ts : List (Int × List UInt8)), a <= s.size -> s.size + 1 <= f + a -> Lx (s.data.toList.drop a) ts -> ∃ l, allF s f a acc = (acc ++ l, 0, 0) /\ l.map pj = ts := by
 intro f
 induction f with
 | zero => intro a acc ts ha hf; omega
 | succ f ih =>
  intro a acc ts ha hf h;obtain ⟨h1, h2⟩ := lx_skl h;rw [List.drop_drop] at h1 h2;have hs := skp_le ha;have hsk : a + skl false (s.data.toList.drop a) = skp s a := rfl;rw [hsk] at h1 h2;simp only [allF];by_cases he : skp s a = s.size
  ·rw [if_pos he];have hn : s.data.toList.drop (skp s a) = [] := drop_end s _ (by omega)
   rcases h2 with ⟨-, rfl⟩ | ⟨K, x, t, m, us, e, -⟩
   ·exact ⟨[], by simp, rfl⟩
   ·rw [hn] at e; cases e
  ·rw [if_neg he]
   rcases h2 with ⟨e, -⟩ | h2
   ·have := congrArg List.length e;rw [drop_len] at this; simp at this; omega
   ·obtain ⟨hb, K, x, t, us, n, rfl, hn, k1, k2, k3, k4, k5⟩ := lx_tok hs.1 h2;have hle := tok_le hb;rw [if_neg (by rw [k1]; exact k3)];rw [k2] at hle;obtain ⟨l, e, el⟩ := ih (skp s a + tokN s (skp s a)) (acc ++ [⟨tokK s (skp s a), s.extract (skp s a) (skp s a + tokN s (skp s a)), (skp s a : Int)⟩]) us (by rw [k2]; exact hle) (by rw [k2]; omega) (by rw [k2]; exact k5);refine ⟨⟨tokK s (skp s a), s.extract (skp s a) (skp s a + tokN s (skp s a)), (skp s a : Int)⟩ :: l, by rw [e]; simp, ?_⟩;rw [List.map_cons, el];unfold pj;simp only [];rw [k1, k2, k4]
theorem lx_allR {s : ByteArray} {ts : List (Int × List UInt8)} (hs : s.size <= 8000) (h : Lx s.data.toList ts) : ∃ l, allR s = (l, 0, 0) /\ l.map pj = ts := by
 obtain ⟨l, e, el⟩ := lx_all s (s.size + 1) 0 [] ts (Nat.zero_le _) (by omega) (by rw [List.drop_zero]; exact h);exact ⟨l, by unfold allR; rw [if_pos hs, e]; simp, el⟩
/-! Steps. -/
theorem lx_one (c : UInt8) (h : sg1 c = true) (h0 : ¬ (c.toNat : Int) = 60) (h2 : ¬ (c.toNat : Int) = 62) {l : List UInt8} {ts : List (Int × List UInt8)} (hl : Lx l ts) : Lx (c :: l) ((4, [c]) :: ts) := by
 refine .sign (t := []) rfl ?_ h hl;rw [List.nil_append]
 match l with
 | [] => simp only [sgl]; rw [if_pos h]; rfl
 | d :: m =>
  have : sg2 c d = false := by unfold sg2; simp [h0, h2]
  simp only [sgl]; rw [if_neg (by simp [this]), if_pos h]; rfl
theorem lx_sp {l : List UInt8} {ts : List (Int × List UInt8)} (hl : Lx l ts) : Lx (32 :: l) ts := .blank rfl (by decide) hl
theorem lx_open {l : List UInt8} {ts : List (Int × List UInt8)} (hl : Lx l ts) : Lx (40 :: l) ((4, [40]) :: ts) := lx_one 40 (by decide) (by decide) (by decide) hl
theorem lx_shut {l : List UInt8} {ts : List (Int × List UInt8)} (hl : Lx l ts) : Lx (41 :: l) ((4, [41]) :: ts) := lx_one 41 (by decide) (by decide) (by decide) hl
theorem lx_word (w : List UInt8) {l : List UInt8} {ts : List (Int × List UInt8)} (h : okL w = true) (h0 : ¬ w = []) (hn : w.length <= 12) (hs : Stop inw l) (hl : Lx l ts) : Lx (w ++ l) ((1, w) :: ts) := by
 cases w with
 | nil => exact absurd rfl h0
 | cons x t =>
  simp only [okL, Bool.and_eq_true] at h;exact .word rfl h.1 h.2 (by simpa using hn) hs hl
theorem okL_name {s : ByteArray} (h : namB s = true) : okL s.data.toList = true /\ ¬ s.data.toList = [] /\ s.data.toList.length <= 12 := by
 unfold namB wordB at h;simp only [Bool.and_eq_true, decide_eq_true_eq] at h;obtain ⟨⟨h1, h2, h3⟩, -⟩ := h;refine ⟨h1, ?_, by rw [size_list]; exact h3⟩;intro e;have : s.size = 0 := by rw [<- size_list, e]; rfl
 omega
theorem allD_inn {l : List UInt8} (h : allD l = true) : l.all inn = true /\ ∀ x t, l = x :: t -> dgb x = true := by
 unfold allD at h;rw [List.all_eq_true] at h;have hd : ∀ x ∈ l, dgb x = true := fun x hx => h x hx
 refine ⟨?_, fun x t e => hd x (by rw [e]; simp)⟩;rw [List.all_eq_true];intro x hx;unfold inn inw; rw [hd x hx]; simp
theorem all_app {l m : List UInt8} {p : UInt8 -> Bool} (h : l.all p = true) (k : m.all p = true) : (l ++ m).all p = true := by rw [List.all_append, h, k]; rfl
theorem lit_form {a b d : Int} (h : fdB a b d = true) : ∃ x t, (fdT a b d).data.toList = x :: t /\ dgb x = true /\ t.all inn = true := by
 obtain ⟨hC, h2, h4, -⟩ := fdB_iff.1 h;obtain ⟨p1, p2, p3, p4⟩ := bare_parts hC;obtain ⟨r1, r2, r3, r4, r5, r6, r7, r8, r9⟩ := rest_facts hC;rw [fd_yes h, mk_list];unfold fdL;have hq : numL (a / b) = dl 40 (a / b).toNat 1 := numL_pos (Int.ediv_nonneg (by omega) (by omega));obtain ⟨i1, i2⟩ := allD_inn p1
 have hT : (tailF (restN a b)).all inn = true := by
  unfold tailF;split
  ·rfl
  ·obtain ⟨j1, -⟩ := allD_inn (dg_allD 4 (restN a b) r8);rw [List.all_cons, j1]; rfl
 have hS : (sufL d).all inn = true := by
  unfold sufL;split
  ·decide
  ·split <;> decide
 cases hN : numL (a / b) with
 | nil =>
  rw [hq, dl_step 39 _ 1 (.inr (by decide))] at hN
  exact absurd (congrArg List.length hN) (by simp)
 | cons x t =>
  rw [hN, List.all_cons, Bool.and_eq_true] at i1;exact ⟨x, t ++ (tailF (restN a b) ++ sufL d), rfl, i2 x t hN, all_app i1.2 (all_app hT hS)⟩
theorem lx_lit {a b d : Int} (h : fdB a b d = true) {l : List UInt8} {ts : List (Int × List UInt8)} (hs : Stop inn l) (hl : Lx l ts) : Lx ((fdT a b d).data.toList ++ l) ((2, (fdT a b d).data.toList) :: ts) := by
 obtain ⟨x, t, e, h1, h2⟩ := lit_form h;have hd := (fd_back h).1;have e' : fdT a b d = ⟨(x :: t).toArray⟩ := ba_ext (by rw [e, mk_list]);rw [e];exact .num rfl h1 h2 (by rw [<- e']; exact hd) hs hl
theorem num_small {a : Int} (h0 : 1 <= a) (h1 : a <= 45) : (numS a).data.toList = (fdT a 1 2).data.toList /\ fdB a 1 2 = true /\ whoB (numS a) = true /\ decN (numS a) = a := by
 obtain ⟨n, rfl⟩ : ∃ n : Nat, a = n := ⟨a.toNat, by omega⟩;have : ∀ n : Nat, n < 46 -> 1 <= n -> (numS (n : Int)).data.toList = (fdT (n : Int) 1 2).data.toList /\ fdB (n : Int) 1 2 = true /\ whoB (numS (n : Int)) = true /\ decN (numS (n : Int)) = (n : Int) := by decide +kernel
 exact this n (by omega) (by omega)
def Aft (l : List UInt8) : Prop := ∀ c m, l = c :: m -> c = 32 \/ c = 41 \/ c = 44 \/ c = 59 \/ c = 10
theorem Aft.w {l : List UInt8} (h : Aft l) : Stop inw l := fun c m e => by rcases h c m e with rfl | rfl | rfl | rfl | rfl <;> decide
theorem Aft.n {l : List UInt8} (h : Aft l) : Stop inn l := fun c m e => by rcases h c m e with rfl | rfl | rfl | rfl | rfl <;> decide
theorem aft_32 (l : List UInt8) : Aft (32 :: l) := fun c m e => by injection e with e _; exact .inl e.symm
theorem aft_41 (l : List UInt8) : Aft (41 :: l) := fun c m e => by injection e with e _; exact .inr (.inl e.symm)
theorem aft_44 (l : List UInt8) : Aft (44 :: l) := fun c m e => by injection e with e _; exact .inr (.inr (.inl e.symm))
/-! The tokens of a tree's text. -/
def kMin : List UInt8 := [109, 105, 110]
def kMax : List UInt8 := [109, 97, 120]
def sgK (op : Int) : Int := if op = 17 \/ op = 18 then 1 else 4
def parT (b : Bool) (x : List (Int × List UInt8)) : List (Int × List UInt8) := if b = true then (4, [40]) :: (x ++ [(4, [41])]) else x
def ndT (op a b d : Int) (s : ByteArray) (p : Nat -> Int -> List (Int × List UInt8)) : List (Int × List UInt8) :=
 if op = 1 then [(2, (fdT a b d).data.toList)] else if op = 2 then [(1, s.data.toList)] else if op = 3 then [(1, kBest), (4, [40]), (2, (numS a).data.toList), (4, [41])]
 else if op = 4 then (4, [45]) :: p 0 7 else if op = 5 then (1, kNot) :: p 0 3
 else if op = 6 then (1, kFloor) :: (4, [40]) :: (p 0 0 ++ [(4, [41])])
 else if op = 19 then (1, kMin) :: (4, [40]) :: (p 0 0 ++ (4, [44]) :: (p 1 0 ++ [(4, [41])]))
 else if op = 20 then (1, kMax) :: (4, [40]) :: (p 0 0 ++ (4, [44]) :: (p 1 0 ++ [(4, [41])]))
 else if op = 21 then (1, kIf) :: (p 0 0 ++ (1, kThen) :: (p 1 0 ++ (1, kElse) :: p 2 0))
 else p 0 (if levI op = 4 then 5 else levI op) ++ (sgK op, (sgS op).data.toList) :: p 1 (levI op + 1)
def Ex.tb : Ex -> List (Int × List UInt8)
 | .no => []
 | .mk op a b d s n kid => ndT op a b d s fun i l => parT (decide (levI (kid i).op < l)) (kid i).tb
def Ex.tp (t : Ex) (l : Int) : List (Int × List UInt8) := parT (decide (levI t.op < l)) t.tb
theorem tb_mk (op a b d : Int) (s : ByteArray) (n : Nat) (kid : Nat -> Ex) : (Ex.mk op a b d s n kid).tb = ndT op a b d s fun i l => (kid i).tp l := rfl
theorem app_list (a b : ByteArray) : (a ++ b).data.toList = a.data.toList ++ b.data.toList := by simp
theorem lx_sgn {op : Int} (h0 : 7 <= op) (h1 : op <= 18) {l : List UInt8} {ts : List (Int × List UInt8)} (hl : Lx l ts) : Lx ((sgS op).data.toList ++ 32 :: l) ((sgK op, (sgS op).data.toList) :: ts) := by
 have hw : ∀ w : List UInt8, okL w = true -> ¬ w = [] -> w.length <= 12 -> Lx (w ++ 32 :: l) ((1, w) :: ts) := fun w a b c => lx_word w a b c (stop_cons l (by decide)) (lx_sp hl)
 have h1' : ∀ c : UInt8, sg1 c = true -> ¬ (c.toNat : Int) = 60 -> ¬ (c.toNat : Int) = 62 -> Lx (c :: 32 :: l) ((4, [c]) :: ts) := fun c a b d => lx_one c a b d (lx_sp hl)
 rcases (show op = 7 \/ op = 8 \/ op = 9 \/ op = 10 \/ op = 11 \/ op = 12 \/ op = 13 \/ op = 14 \/ op = 15 \/ op = 16 \/ op = 17 \/ op = 18 by omega) with rfl | rfl | rfl | rfl | rfl | rfl | rfl | rfl | rfl | rfl | rfl | rfl
 ·exact h1' 43 (by decide) (by decide) (by decide)
 ·exact h1' 45 (by decide) (by decide) (by decide)
 ·exact h1' 42 (by decide) (by decide) (by decide)
 ·exact h1' 47 (by decide) (by decide) (by decide)
 ·exact .sign (x := 60) (t := []) (l := 32 :: l) rfl rfl (by decide) (lx_sp hl)
 ·exact .sign (x := 60) (t := [61]) (l := 32 :: l) rfl rfl (by decide) (lx_sp hl)
 ·exact h1' 61 (by decide) (by decide) (by decide)
 ·exact .sign (x := 60) (t := [62]) (l := 32 :: l) rfl rfl (by decide) (lx_sp hl)
 ·exact .sign (x := 62) (t := []) (l := 32 :: l) rfl rfl (by decide) (lx_sp hl)
 ·exact .sign (x := 62) (t := [61]) (l := 32 :: l) rfl rfl (by decide) (lx_sp hl)
 ·exact hw [97, 110, 100] (by decide) (by decide) (by decide)
 ·exact hw [111, 114] (by decide) (by decide) (by decide)
theorem lx_par {x : ByteArray} {y : List (Int × List UInt8)} (h : ∀ rest ts, Aft rest -> Lx rest ts -> Lx (x.data.toList ++ rest) (y ++ ts)) (b : Bool) : ∀ rest ts, Aft rest -> Lx rest ts -> Lx ((parS b x).data.toList ++ rest) (parT b y ++ ts) := by
 intro rest ts ha hl;unfold parS parT;cases b
 ·exact h rest ts ha hl
 ·rw [if_pos rfl, if_pos rfl];simp only [app_list, List.append_assoc, List.cons_append, List.nil_append];exact lx_open (h _ _ (aft_41 _) (lx_shut hl))
theorem tree_lx (t : Ex) : t.form = true -> ∀ rest ts, Aft rest -> Lx rest ts -> Lx (t.bare.data.toList ++ rest) (t.tb ++ ts) := by
 induction t with
 | no => intro h; simp [Ex.form] at h
 | mk op a b d s n kid ih =>
  intro h rest ts ha hl;obtain ⟨h1, h2⟩ := form_of h;obtain ⟨o1, o2⟩ := op_of h1;have hn := nod_ar h1;have P : ∀ i, i < n -> ∀ (l : Int) rest ts, Aft rest -> Lx rest ts -> Lx (((kid i).put l).data.toList ++ rest) ((kid i).tp l ++ ts) := fun i hi l => lx_par (ih i (h2 i hi)) _
  rw [bare_mk, tb_mk];unfold ndS ndT;have A : ∀ {i : Nat} {l : Int} {rest : List UInt8} {ts : List (Int × List UInt8)}, i < n -> Aft rest -> Lx rest ts -> Lx (((kid i).put l).data.toList ++ rest) ((kid i).tp l ++ ts) := fun hi => P _ hi _ _ _
  have L : ∀ x : List UInt8, (⟨x.toArray⟩ : ByteArray).data.toList = x := mk_list;have W : ∀ (w : List UInt8) {l : List UInt8} {ts : List (Int × List UInt8)}, okL w = true -> ¬ w = [] -> w.length <= 12 -> Lx l ts -> Lx (w ++ 32 :: l) ((1, w) :: ts) := fun w l ts a b c hl => lx_word w a b c (stop_cons l (by decide)) (lx_sp hl)
  have V : ∀ (w : List UInt8) {l : List UInt8} {ts : List (Int × List UInt8)}, okL w = true -> ¬ w = [] -> w.length <= 12 -> Lx l ts -> Lx (w ++ 40 :: l) ((1, w) :: (4, [40]) :: ts) := fun w l ts a b c hl => lx_word w a b c (stop_cons l (by decide)) (lx_open hl)
  by_cases e1 : op = 1
  ·rw [if_pos e1, if_pos e1]; subst e1;exact lx_lit (nod_lit h1).1 ha.n hl
  rw [if_neg e1, if_neg e1];by_cases e2 : op = 2
  ·rw [if_pos e2, if_pos e2]; subst e2
   have hs : namB s = true := by
    unfold nodB at h1;simp at h1;exact h1.2.1
   obtain ⟨n1, n2, n3⟩ := okL_name hs;exact lx_word _ n1 n2 n3 ha.w hl
  rw [if_neg e2, if_neg e2];by_cases e3 : op = 3
  ·rw [if_pos e3, if_pos e3]; subst e3
   have hs : 1 <= a /\ a <= 45 := by
    unfold nodB at h1;simp at h1;omega
   obtain ⟨m1, m2, -⟩ := num_small hs.1 hs.2;rw [app_list, app_list, List.append_assoc, List.append_assoc, m1];exact V kBest (by decide) (by decide) (by decide) (lx_lit m2 (stop_cons _ (by decide)) (lx_shut hl))
  rw [if_neg e3, if_neg e3];by_cases e4 : op = 4
  ·rw [if_pos e4, if_pos e4]; subst e4;obtain rfl : n = 1 := by simp [arI] at hn; omega
   rw [app_list, List.append_assoc, List.cons_append];exact lx_one 45 (by decide) (by decide) (by decide) (A (by decide) ha hl)
  rw [if_neg e4, if_neg e4];by_cases e5 : op = 5
  ·rw [if_pos e5, if_pos e5]; subst e5;obtain rfl : n = 1 := by simp [arI] at hn; omega
   rw [app_list, List.append_assoc, List.cons_append];exact W kNot (by decide) (by decide) (by decide) (A (by decide) ha hl)
  rw [if_neg e5, if_neg e5];by_cases e6 : op = 6
  ·rw [if_pos e6, if_pos e6]; subst e6;obtain rfl : n = 1 := by simp [arI] at hn; omega
   simp only [app_list, List.append_assoc, List.cons_append, List.nil_append];exact V kFloor (by decide) (by decide) (by decide) (A (by decide) (aft_41 _) (lx_shut hl))
  rw [if_neg e6, if_neg e6];by_cases e19 : op = 19
  ·rw [if_pos e19, if_pos e19]; subst e19;obtain rfl : n = 2 := by simp [arI] at hn; omega
   simp only [app_list, List.append_assoc, List.cons_append, List.nil_append];exact V kMin (by decide) (by decide) (by decide) (A (by decide) (aft_44 _) (lx_one 44 (by decide) (by decide) (by decide) (lx_sp (A (by decide) (aft_41 _) (lx_shut hl)))))
  rw [if_neg e19, if_neg e19];by_cases e20 : op = 20
  ·rw [if_pos e20, if_pos e20]; subst e20;obtain rfl : n = 2 := by simp [arI] at hn; omega
   simp only [app_list, List.append_assoc, List.cons_append, List.nil_append];exact V kMax (by decide) (by decide) (by decide) (A (by decide) (aft_44 _) (lx_one 44 (by decide) (by decide) (by decide) (lx_sp (A (by decide) (aft_41 _) (lx_shut hl)))))
  rw [if_neg e20, if_neg e20];by_cases e21 : op = 21
  ·rw [if_pos e21, if_pos e21]; subst e21;obtain rfl : n = 3 := by simp [arI] at hn; omega
   simp only [app_list, List.append_assoc, List.cons_append, List.nil_append];exact W kIf (by decide) (by decide) (by decide) (A (by decide) (aft_32 _) (lx_sp (W kThen (by decide) (by decide) (by decide) (A (by decide) (aft_32 _) (lx_sp (W kElse (by decide) (by decide) (by decide) (A (by decide) ha hl)))))))
  rw [if_neg e21, if_neg e21]
  obtain rfl : n = 2 := by
   unfold arI at hn;rw [if_neg (by omega), if_neg (by omega), if_pos (by omega)] at hn;omega
  simp only [app_list, List.append_assoc, List.cons_append, List.nil_append];exact A (by decide) (aft_32 _) (lx_sp (lx_sgn (by omega) (by omega) (A (by decide) ha hl)))
theorem put_lx {t : Ex} (h : t.form = true) (l : Int) {rest : List UInt8} {ts : List (Int × List UInt8)} (ha : Aft rest) (hl : Lx rest ts) : Lx ((t.put l).data.toList ++ rest) (t.tp l ++ ts) := lx_par (tree_lx t h) _ rest ts ha hl
end Go.Proofs.YthmlhheceihcbaaGreatDoor.Tree
namespace Go.Proofs.YthmlhheceihcbaaGreatDoor.Tree
set_option maxHeartbeats 16000000
open Str Frac Tok Txt
set_option linter.unusedVariables false
/-! Same trees. -/
theorem same_mk {op a b d : Int} {s : ByteArray} {n : Nat} {kid : Nat -> Ex} {u : Ex} (h : (Ex.mk op a b d s n kid).same u = true) : ∃ kid', u = .mk op a b d s n kid' /\ ∀ i, i < n -> (kid i).same (kid' i) = true := by
 cases u with
 | no => simp [Ex.same] at h
 | mk op' a' b' d' s' n' kid' =>
  simp only [Ex.same, Bool.and_eq_true, beq_iff_eq] at h;obtain ⟨rfl, ⟨rfl, rfl⟩, rfl, hs, rfl, hk⟩ := h;obtain rfl := ba_ext hs;exact ⟨kid', rfl, alK_lt hk⟩
theorem mk_same {op a b d : Int} {s : ByteArray} {n : Nat} {kid kid' : Nat -> Ex} (h : ∀ i, i < n -> (kid i).same (kid' i) = true) : (Ex.mk op a b d s n kid).same (.mk op a b d s n kid') = true := by
 simp only [Ex.same, beq_self_eq_true, Bool.true_and];exact alK_of h
theorem mxK_eq {f g : Nat -> Int} {n : Nat} (h : ∀ i, i < n -> f i = g i) : mxK f n = mxK g n := by
 induction n with
 | zero => rfl
 | succ n ih => simp only [mxK]; rw [ih (fun i hi => h i (by omega)), h n (by omega)]
theorem smK_eq {f g : Nat -> Int} {n : Nat} (h : ∀ i, i < n -> f i = g i) : smK f n = smK g n := by
 induction n with
 | zero => rfl
 | succ n ih => simp only [smK]; rw [ih (fun i hi => h i (by omega)), h n (by omega)]
theorem alK_eq {f g : Nat -> Bool} {n : Nat} (h : ∀ i, i < n -> f i = g i) : alK f n = alK g n := by
 induction n with
 | zero => rfl
 | succ n ih => simp only [alK]; rw [ih (fun i hi => h i (by omega)), h n (by omega)]
theorem same_meas (t : Ex) : ∀ u, t.same u = true -> t.depth = u.depth /\ t.size = u.size /\ t.form = u.form /\ t.op = u.op := by
 induction t with
 | no => intro u h; cases u with
  | no => exact ⟨rfl, rfl, rfl, rfl⟩
  | mk => simp [Ex.same] at h
 | mk op a b d s n kid ih =>
  intro u h;obtain ⟨kid', rfl, hk⟩ := same_mk h;refine ⟨?_, ?_, ?_, rfl⟩
  ·rw [depth_mk, depth_mk, mxK_eq (fun i hi => (ih i _ (hk i hi)).1)]
  ·rw [size_mk, size_mk, smK_eq (fun i hi => (ih i _ (hk i hi)).2.1)]
  ·rw [form_mk, form_mk, alK_eq (fun i hi => (ih i _ (hk i hi)).2.2.1)]
theorem same_valid {t u : Ex} (h : t.same u = true) : t.valid = u.valid := by
 obtain ⟨h1, h2, h3, -⟩ := same_meas t u h;unfold Ex.valid; rw [h1, h2, h3]
/-! What stands at the head of a row of tokens. -/
def hdB (x : List UInt8) : List (Int × List UInt8) -> Bool
 | (K, y) :: _ => (K == 1 || K == 4) && y == x
 | [] => false
def hdO : List (List UInt8 × Int) -> List (Int × List UInt8) -> Bool
 | [], _ => false
 | p :: l, ts => if hdB p.1 ts = true then true else hdO l ts
def hdI : List (List UInt8 × Int) -> List (Int × List UInt8) -> Int
 | [], _ => 0
 | p :: l, ts => if hdB p.1 ts = true then p.2 else hdI l ts
theorem at_drop (tk : List Tk) (i : Nat) : tkAt tk ⟨i, true⟩ = (tk.drop i).head? := by
 unfold tkAt;rw [if_pos rfl, List.head?_drop]
theorem acc_eq {tk : List Tk} {i : Nat} {ts : List (Int × List UInt8)} (h : (tk.drop i).map pj = ts) (x : List UInt8) : accB tk x ⟨i, true⟩ = hdB x ts := by
 subst h;unfold accB;rw [at_drop]
 cases tk.drop i with
 | nil => rfl
 | cons t l => rfl
theorem bin_eq {tk : List Tk} {i : Nat} {ts : List (Int × List UInt8)} (h : (tk.drop i).map pj = ts) (l : List (List UInt8 × Int)) : binO tk ⟨i, true⟩ l = hdO l ts /\ binT tk ⟨i, true⟩ l = hdI l ts := by
 induction l with
 | nil => exact ⟨rfl, rfl⟩
 | cons p l ih => simp only [binO, binT, hdO, hdI, acc_eq h]; rw [ih.1, ih.2]; exact ⟨rfl, rfl⟩
theorem drop_app {tk : List Tk} {i : Nat} {xs ts : List (Int × List UInt8)} (h : (tk.drop i).map pj = xs ++ ts) : (tk.drop (i + xs.length)).map pj = ts := by
 rw [<- List.drop_drop, List.map_drop, h, List.drop_left]
theorem drop_one {tk : List Tk} {i : Nat} {x : Int × List UInt8} {ts : List (Int × List UInt8)} (h : (tk.drop i).map pj = x :: ts) : (tk.drop (i + 1)).map pj = ts := drop_app (xs := [x]) h
theorem exp_eq {tk : List Tk} {i : Nat} {ts : List (Int × List UInt8)} (h : (tk.drop i).map pj = ts) {x : List UInt8} (hx : hdB x ts = true) : expP tk x ⟨i, true⟩ = ⟨i + 1, true⟩ := by
 unfold expP; rw [if_pos (by rw [acc_eq h]; exact hx)]; rfl
structure Fol (L : Int) (ts : List (Int × List UInt8)) : Prop where
 or : L <= 1 -> hdB kOr ts = false
 and : L <= 2 -> hdB kAnd ts = false
 rel : L <= 4 -> hdO relL ts = false
 sum : L <= 5 -> hdO sumL ts = false
 mul : L <= 6 -> hdO mulL ts = false
theorem Fol.mono {L M : Int} {ts : List (Int × List UInt8)} (h : Fol L ts) (hl : L <= M) : Fol M ts := ⟨fun k => h.or (by omega), fun k => h.and (by omega), fun k => h.rel (by omega), fun k => h.sum (by omega), fun k => h.mul (by omega)⟩
theorem fol_shut (L : Int) (ts : List (Int × List UInt8)) : Fol L ((4, [41]) :: ts) := ⟨fun _ => rfl, fun _ => rfl, fun _ => rfl, fun _ => rfl, fun _ => rfl⟩
theorem fol_comma (L : Int) (ts : List (Int × List UInt8)) : Fol L ((4, [44]) :: ts) := ⟨fun _ => rfl, fun _ => rfl, fun _ => rfl, fun _ => rfl, fun _ => rfl⟩
theorem fol_semi (L : Int) (ts : List (Int × List UInt8)) : Fol L ((4, [59]) :: ts) := ⟨fun _ => rfl, fun _ => rfl, fun _ => rfl, fun _ => rfl, fun _ => rfl⟩
theorem fol_then (L : Int) (ts : List (Int × List UInt8)) : Fol L ((1, kThen) :: ts) := ⟨fun _ => rfl, fun _ => rfl, fun _ => rfl, fun _ => rfl, fun _ => rfl⟩
theorem fol_else (L : Int) (ts : List (Int × List UInt8)) : Fol L ((1, kElse) :: ts) := ⟨fun _ => rfl, fun _ => rfl, fun _ => rfl, fun _ => rfl, fun _ => rfl⟩
theorem lev_vals : levI 7 = 5 /\ levI 8 = 5 /\ levI 9 = 6 /\ levI 10 = 6 /\ levI 11 = 4 /\ levI 12 = 4 /\ levI 13 = 4 /\ levI 14 = 4 /\ levI 15 = 4 /\ levI 16 = 4 /\ levI 17 = 2 /\ levI 18 = 1 := by decide
theorem fol_op {op : Int} (h0 : 7 <= op) (h1 : op <= 18) (ts : List (Int × List UInt8)) {L : Int} (hL : levI op + 1 <= L) : Fol L ((sgK op, (sgS op).data.toList) :: ts) := by
 refine Fol.mono (L := levI op + 1) ?_ hL;obtain ⟨v7, v8, v9, v10, v11, v12, v13, v14, v15, v16, v17, v18⟩ := lev_vals
 rcases (show op = 7 \/ op = 8 \/ op = 9 \/ op = 10 \/ op = 11 \/ op = 12 \/ op = 13 \/ op = 14 \/ op = 15 \/ op = 16 \/ op = 17 \/ op = 18 by omega) with rfl | rfl | rfl | rfl | rfl | rfl | rfl | rfl | rfl | rfl | rfl | rfl <;>
  exact ⟨fun h => by first | rfl | (exfalso; omega), fun h => by first | rfl | (exfalso; omega), fun h => by first | rfl | (exfalso; omega), fun h => by first | rfl | (exfalso; omega), fun h => by first | rfl | (exfalso; omega)⟩
/-! The parser with enough fuel. -/
def PE (tk : List Tk) (m : Nat) (a : Ex) (s : Pt) (r : Ex × Pt) : Prop := ∃ f0, ∀ f, f0 <= f -> pe tk f m a s = r
theorem PE.step {tk : List Tk} {m : Nat} {a : Ex} {s : Pt} {r : Ex × Pt} (f0 : Nat) (h : ∀ f, f0 <= f -> pe tk (f + 1) m a s = r) : PE tk m a s r := ⟨f0 + 1, fun f hf => by
 obtain ⟨g, rfl⟩ : ∃ g, f = g + 1 := ⟨f - 1, by omega⟩
 exact h g (by omega)⟩
theorem PE.if0 {tk : List Tk} {a : Ex} {i : Nat} {c x y : Ex} {j k l : Nat} (h : accB tk kIf ⟨i, true⟩ = true) (hc : PE tk 0 .no ⟨i + 1, true⟩ (c, ⟨j, true⟩)) (h1 : expP tk kThen ⟨j, true⟩ = ⟨j + 1, true⟩) (hx : PE tk 0 .no ⟨j + 1, true⟩ (x, ⟨k, true⟩)) (h2 : expP tk kElse ⟨k, true⟩ = ⟨k + 1, true⟩) (hy : PE tk 0 .no ⟨k + 1, true⟩ (y, ⟨l, true⟩)) : PE tk 0 a ⟨i, true⟩ (trI c x y, ⟨l, true⟩) := by
 obtain ⟨f1, e1⟩ := hc;obtain ⟨f2, e2⟩ := hx;obtain ⟨f3, e3⟩ := hy;refine PE.step (f1 + f2 + f3) (fun f hf => ?_);rw [pe_0, if_pos h];show (trI (pe tk f 0 .no ⟨i + 1, true⟩).1 _ _, _) = _
 rw [show Pt.adv ⟨i, true⟩ = ⟨i + 1, true⟩ from rfl, e1 f (by omega)];simp only [];rw [h1, e2 f (by omega)];simp only [];rw [h2, e3 f (by omega)]
theorem PE.no0 {tk : List Tk} {a : Ex} {s : Pt} {r : Ex × Pt} (h : accB tk kIf s = false) (h1 : PE tk 1 .no s r) : PE tk 0 a s r := by
 obtain ⟨f1, e1⟩ := h1;exact PE.step f1 (fun f hf => by rw [pe_0, if_neg (by simp [h]), e1 f hf])
theorem PE.m1 {tk : List Tk} {a x : Ex} {s t : Pt} {r : Ex × Pt} (h : PE tk 2 .no s (x, t)) (h1 : PE tk 11 x t r) : PE tk 1 a s r := by
 obtain ⟨f1, e1⟩ := h; obtain ⟨f2, e2⟩ := h1;exact PE.step (f1 + f2) (fun f hf => by rw [pe_1, e1 f (by omega), e2 f (by omega)])
theorem PE.m2 {tk : List Tk} {a x : Ex} {s t : Pt} {r : Ex × Pt} (h : PE tk 3 .no s (x, t)) (h1 : PE tk 12 x t r) : PE tk 2 a s r := by
 obtain ⟨f1, e1⟩ := h; obtain ⟨f2, e2⟩ := h1;exact PE.step (f1 + f2) (fun f hf => by rw [pe_2, e1 f (by omega), e2 f (by omega)])
theorem PE.m5 {tk : List Tk} {a x : Ex} {s t : Pt} {r : Ex × Pt} (h : PE tk 6 .no s (x, t)) (h1 : PE tk 15 x t r) : PE tk 5 a s r := by
 obtain ⟨f1, e1⟩ := h; obtain ⟨f2, e2⟩ := h1;exact PE.step (f1 + f2) (fun f hf => by rw [pe_5, e1 f (by omega), e2 f (by omega)])
theorem PE.m6 {tk : List Tk} {a x : Ex} {s t : Pt} {r : Ex × Pt} (h : PE tk 7 .no s (x, t)) (h1 : PE tk 16 x t r) : PE tk 6 a s r := by
 obtain ⟨f1, e1⟩ := h; obtain ⟨f2, e2⟩ := h1;exact PE.step (f1 + f2) (fun f hf => by rw [pe_6, e1 f (by omega), e2 f (by omega)])
theorem PE.go11 {tk : List Tk} {a x : Ex} {s t : Pt} {r : Ex × Pt} (h : accB tk kOr s = true) (h1 : PE tk 2 .no s.adv (x, t)) (h2 : PE tk 11 (trB 18 a x) t r) : PE tk 11 a s r := by
 obtain ⟨f1, e1⟩ := h1; obtain ⟨f2, e2⟩ := h2;exact PE.step (f1 + f2) (fun f hf => by rw [pe_11, if_pos h, e1 f (by omega), e2 f (by omega)])
theorem PE.go12 {tk : List Tk} {a x : Ex} {s t : Pt} {r : Ex × Pt} (h : accB tk kAnd s = true) (h1 : PE tk 3 .no s.adv (x, t)) (h2 : PE tk 12 (trB 17 a x) t r) : PE tk 12 a s r := by
 obtain ⟨f1, e1⟩ := h1; obtain ⟨f2, e2⟩ := h2;exact PE.step (f1 + f2) (fun f hf => by rw [pe_12, if_pos h, e1 f (by omega), e2 f (by omega)])
theorem PE.go15 {tk : List Tk} {a x : Ex} {s t : Pt} {r : Ex × Pt} {op : Int} (h : binO tk s sumL = true) (hop : binT tk s sumL = op) (h1 : PE tk 6 .no s.adv (x, t)) (h2 : PE tk 15 (trB op a x) t r) : PE tk 15 a s r := by
 obtain ⟨f1, e1⟩ := h1; obtain ⟨f2, e2⟩ := h2;exact PE.step (f1 + f2) (fun f hf => by rw [pe_15, if_pos h, hop, e1 f (by omega), e2 f (by omega)])
theorem PE.go16 {tk : List Tk} {a x : Ex} {s t : Pt} {r : Ex × Pt} {op : Int} (h : binO tk s mulL = true) (hop : binT tk s mulL = op) (h1 : PE tk 7 .no s.adv (x, t)) (h2 : PE tk 16 (trB op a x) t r) : PE tk 16 a s r := by
 obtain ⟨f1, e1⟩ := h1; obtain ⟨f2, e2⟩ := h2;exact PE.step (f1 + f2) (fun f hf => by rw [pe_16, if_pos h, hop, e1 f (by omega), e2 f (by omega)])
theorem PE.no11 {tk : List Tk} {a : Ex} {s : Pt} (h : accB tk kOr s = false) : PE tk 11 a s (a, s) := PE.step 0 (fun f hf => by rw [pe_11, if_neg (by simp [h])])
theorem PE.no12 {tk : List Tk} {a : Ex} {s : Pt} (h : accB tk kAnd s = false) : PE tk 12 a s (a, s) := PE.step 0 (fun f hf => by rw [pe_12, if_neg (by simp [h])])
theorem PE.no15 {tk : List Tk} {a : Ex} {s : Pt} (h : binO tk s sumL = false) : PE tk 15 a s (a, s) := PE.step 0 (fun f hf => by rw [pe_15, if_neg (by simp [h])])
theorem PE.no16 {tk : List Tk} {a : Ex} {s : Pt} (h : binO tk s mulL = false) : PE tk 16 a s (a, s) := PE.step 0 (fun f hf => by rw [pe_16, if_neg (by simp [h])])
theorem PE.not3 {tk : List Tk} {a x : Ex} {s t : Pt} (h : accB tk kNot s = true) (h1 : PE tk 3 .no s.adv (x, t)) : PE tk 3 a s (trU 5 x, t) := by
 obtain ⟨f1, e1⟩ := h1;exact PE.step f1 (fun f hf => by rw [pe_3, if_pos h, e1 f hf])
theorem PE.no3 {tk : List Tk} {a : Ex} {s : Pt} {r : Ex × Pt} (h : accB tk kNot s = false) (h1 : PE tk 4 .no s r) : PE tk 3 a s r := by
 obtain ⟨f1, e1⟩ := h1;exact PE.step f1 (fun f hf => by rw [pe_3, if_neg (by simp [h]), e1 f hf])
theorem PE.rel4 {tk : List Tk} {a x y : Ex} {s t u : Pt} {op : Int} (h1 : PE tk 5 .no s (x, t)) (h : binO tk t relL = true) (hop : binT tk t relL = op) (h2 : PE tk 5 .no t.adv (y, u)) : PE tk 4 a s (trB op x y, u) := by
 obtain ⟨f1, e1⟩ := h1; obtain ⟨f2, e2⟩ := h2;exact PE.step (f1 + f2) (fun f hf => by rw [pe_4, e1 f (by omega)]; simp only []; rw [if_pos h, hop, e2 f (by omega)])
theorem PE.no4 {tk : List Tk} {a x : Ex} {s t : Pt} (h1 : PE tk 5 .no s (x, t)) (h : binO tk t relL = false) : PE tk 4 a s (x, t) := by
 obtain ⟨f1, e1⟩ := h1;exact PE.step f1 (fun f hf => by rw [pe_4, e1 f hf]; simp only []; rw [if_neg (by simp [h])])
theorem PE.neg7 {tk : List Tk} {a x : Ex} {s t : Pt} (h : accB tk kNeg s = true) (h1 : PE tk 7 .no s.adv (x, t)) : PE tk 7 a s (trU 4 x, t) := by
 obtain ⟨f1, e1⟩ := h1;exact PE.step f1 (fun f hf => by rw [pe_7, if_pos h, e1 f hf])
theorem PE.par7 {tk : List Tk} {a x : Ex} {s t u : Pt} (h0 : accB tk kNeg s = false) (h : accB tk kOpen s = true) (h1 : PE tk 0 .no s.adv (x, t)) (h2 : expP tk kShut t = u) : PE tk 7 a s (x, u) := by
 obtain ⟨f1, e1⟩ := h1;exact PE.step f1 (fun f hf => by rw [pe_7, if_neg (by simp [h0]), if_pos h, e1 f hf]; simp only []; rw [h2])
theorem PE.best7 {tk : List Tk} {a : Ex} {s t u v : Pt} {n : Int} (h0 : accB tk kNeg s = false) (h1 : accB tk kOpen s = false) (h : accB tk kBest s = true) (h2 : expP tk kOpen s.adv = t) (h3 : numT tk 1 45 t = n) (h4 : numP tk 1 45 t = u) (h5 : expP tk kShut u = v) : PE tk 7 a s (trS n, v) :=
 PE.step 0 (fun f hf => by rw [pe_7, if_neg (by simp [h0]), if_neg (by simp [h1]), if_pos h, h2, h3, h4, h5])
theorem PE.floor7 {tk : List Tk} {a x : Ex} {s t u v : Pt} (h0 : accB tk kNeg s = false) (h1 : accB tk kOpen s = false) (h2 : accB tk kBest s = false) (h : accB tk kFloor s = true) (h3 : expP tk kOpen s.adv = t) (h4 : PE tk 0 .no t (x, u)) (h5 : expP tk kShut u = v) : PE tk 7 a s (trU 6 x, v) := by
 obtain ⟨f1, e1⟩ := h4;exact PE.step f1 (fun f hf => by rw [pe_7, if_neg (by simp [h0]), if_neg (by simp [h1]), if_neg (by simp [h2]), if_pos h, h3, e1 f hf]; simp only []; rw [h5])
theorem PE.mm7 {tk : List Tk} {a x y : Ex} {s t u v q z : Pt} {op : Int} (h0 : accB tk kNeg s = false) (h1 : accB tk kOpen s = false) (h2 : accB tk kBest s = false) (h3 : accB tk kFloor s = false) (h : binO tk s mmL = true) (hop : binT tk s mmL = op) (h4 : expP tk kOpen s.adv = t) (h5 : PE tk 0 .no t (x, u)) (h6 : expP tk kComma u = v) (h7 : PE tk 0 .no v (y, q)) (h8 : expP tk kShut q = z) : PE tk 7 a s (trB op x y, z) := by
 obtain ⟨f1, e1⟩ := h5; obtain ⟨f2, e2⟩ := h7;exact PE.step (f1 + f2) (fun f hf => by rw [pe_7, if_neg (by simp [h0]), if_neg (by simp [h1]), if_neg (by simp [h2]), if_neg (by simp [h3]), if_pos h, hop, h4, e1 f (by omega)]; simp only []; rw [h6, e2 f (by omega)]; simp only []; rw [h8])
theorem PE.num7 {tk : List Tk} {a : Ex} {s : Pt} (h0 : accB tk kNeg s = false) (h1 : accB tk kOpen s = false) (h2 : accB tk kBest s = false) (h3 : accB tk kFloor s = false) (h4 : binO tk s mmL = false) (h : pkK tk s = 2) : PE tk 7 a s (trL (decN (pkT tk s)) (decD (pkT tk s)) (decX (pkT tk s)), s.adv) :=
 PE.step 0 (fun f hf => by rw [pe_7, if_neg (by simp [h0]), if_neg (by simp [h1]), if_neg (by simp [h2]), if_neg (by simp [h3]), if_neg (by simp [h4]), if_pos h])
theorem PE.nam7 {tk : List Tk} {a : Ex} {s : Pt} (h0 : accB tk kNeg s = false) (h1 : accB tk kOpen s = false) (h2 : accB tk kBest s = false) (h3 : accB tk kFloor s = false) (h4 : binO tk s mmL = false) (h : ¬ pkK tk s = 2) : PE tk 7 a s (trN (namT tk s), namP tk s) :=
 PE.step 0 (fun f hf => by rw [pe_7, if_neg (by simp [h0]), if_neg (by simp [h1]), if_neg (by simp [h2]), if_neg (by simp [h3]), if_neg (by simp [h4]), if_neg h])
/-! The head of a tree's tokens. -/
theorem tp_par {t : Ex} {L : Int} (h : levI t.op < L) : t.tp L = (4, [40]) :: (t.tb ++ [(4, [41])]) := by unfold Ex.tp parT; rw [if_pos (by simpa using h)]
theorem tp_bare {t : Ex} {L : Int} (h : ¬ levI t.op < L) : t.tp L = t.tb := by unfold Ex.tp parT; rw [if_neg (by simpa using h)]
theorem nam_hd {s : ByteArray} (h : namB s = true) {x : List UInt8} (hx : x ∈ kws) : hdB x [(1, s.data.toList)] = false := by
 unfold namB kwB at h;simp only [Bool.and_eq_true, Bool.not_eq_true'] at h;have h2 := h.2;rw [List.any_eq_false] at h2;have := h2 x hx;simp only [hdB]
 cases e : (s.data.toList == x)
 ·simp
 ·exact absurd e this
theorem lev_bin {op : Int} (h0 : 7 <= op) (h1 : op <= 18) : 1 <= levI op /\ levI op <= 6 /\ ¬ levI op = 3 := by
 obtain ⟨v7, v8, v9, v10, v11, v12, v13, v14, v15, v16, v17, v18⟩ := lev_vals
 rcases (show op = 7 \/ op = 8 \/ op = 9 \/ op = 10 \/ op = 11 \/ op = 12 \/ op = 13 \/ op = 14 \/ op = 15 \/ op = 16 \/ op = 17 \/ op = 18 by omega) with rfl | rfl | rfl | rfl | rfl | rfl | rfl | rfl | rfl | rfl | rfl | rfl <;> omega
theorem nd_bin {op a b d : Int} {s : ByteArray} (h0 : 7 <= op) (h1 : op <= 18) (p : Nat -> Int -> List (Int × List UInt8)) : ndT op a b d s p = p 0 (if levI op = 4 then 5 else levI op) ++ (sgK op, (sgS op).data.toList) :: p 1 (levI op + 1) := by
 unfold ndT;rw [if_neg (by omega), if_neg (by omega), if_neg (by omega), if_neg (by omega), if_neg (by omega), if_neg (by omega), if_neg (by omega), if_neg (by omega), if_neg (by omega)]
theorem tree_hd (t : Ex) : t.form = true -> ∀ L : Int, 1 <= L -> ∀ rest, hdB kIf (t.tp L ++ rest) = false /\ (4 <= L -> hdB kNot (t.tp L ++ rest) = false) := by
 induction t with
 | no => intro h; simp [Ex.form] at h
 | mk op a b d s n kid ih =>
  intro h L hL rest;by_cases hp : levI (Ex.mk op a b d s n kid).op < L
  ·rw [tp_par hp]; exact ⟨rfl, fun _ => rfl⟩
  rw [tp_bare hp, tb_mk];have hp' : ¬ levI op < L := hp;obtain ⟨h1, h2⟩ := form_of h;obtain ⟨o1, o2⟩ := op_of h1;have hn := nod_ar h1;by_cases hb : 7 <= op /\ op <= 18
  ·obtain rfl : n = 2 := by
    unfold arI at hn;rw [if_neg (by omega), if_neg (by omega), if_pos (by omega)] at hn;omega
   have hl := lev_bin hb.1 hb.2;rw [nd_bin hb.1 hb.2, List.append_assoc];have := ih 0 (h2 0 (by decide)) (if levI op = 4 then 5 else levI op) (by split <;> omega) ((sgK op, (sgS op).data.toList) :: (kid 1).tp (levI op + 1) ++ rest);exact ⟨this.1, fun h4 => this.2 (by split <;> omega)⟩
  ·rcases (show op = 1 \/ op = 2 \/ op = 3 \/ op = 4 \/ op = 5 \/ op = 6 \/ op = 19 \/ op = 20 \/ op = 21 by omega) with rfl | rfl | rfl | rfl | rfl | rfl | rfl | rfl | rfl
   ·exact ⟨rfl, fun _ => rfl⟩
   ·have hs : namB s = true := by
     unfold nodB at h1;simp at h1;exact h1.2.1
    exact ⟨nam_hd hs (by decide), fun _ => nam_hd hs (by decide)⟩
   ·exact ⟨rfl, fun _ => rfl⟩
   ·exact ⟨rfl, fun _ => rfl⟩
   ·have : levI 5 = 3 := by decide
    exact ⟨rfl, fun h4 => by omega⟩
   ·exact ⟨rfl, fun _ => rfl⟩
   ·exact ⟨rfl, fun _ => rfl⟩
   ·exact ⟨rfl, fun _ => rfl⟩
   ·have : levI 21 = 0 := by decide
    omega
end Go.Proofs.YthmlhheceihcbaaGreatDoor.Tree
namespace Go.Proofs.YthmlhheceihcbaaGreatDoor.Tree
set_option maxHeartbeats 16000000
open Str Frac Tok Txt
set_option linter.unusedVariables false
def At (tk : List Tk) (t : Ex) (m : Nat) (L : Int) : Prop := ∀ i rest, (tk.drop i).map pj = t.tp L ++ rest -> Fol L rest -> ∃ e, t.same e = true /\ PE tk m .no ⟨i, true⟩ (e, ⟨i + (t.tp L).length, true⟩)
def Sp (tk : List Tk) (t : Ex) (m : Nat) (L : Int) (k : Nat) : Prop := ∀ i rest, (tk.drop i).map pj = t.tp L ++ rest -> Fol (L + 1) rest -> ∃ e, t.same e = true /\ ∀ r, PE tk k e ⟨i + (t.tp L).length, true⟩ r -> PE tk m .no ⟨i, true⟩ r
theorem at1 {tk : List Tk} {t : Ex} (h : Sp tk t 1 1 11) : At tk t 1 1 := fun i rest hd hf => by
 obtain ⟨e, hs, k⟩ := h i rest hd (hf.mono (by omega));exact ⟨e, hs, k _ (PE.no11 (by rw [acc_eq (drop_app hd)]; exact hf.or (by omega)))⟩
theorem at2 {tk : List Tk} {t : Ex} (h : Sp tk t 2 2 12) : At tk t 2 2 := fun i rest hd hf => by
 obtain ⟨e, hs, k⟩ := h i rest hd (hf.mono (by omega));exact ⟨e, hs, k _ (PE.no12 (by rw [acc_eq (drop_app hd)]; exact hf.and (by omega)))⟩
theorem at5 {tk : List Tk} {t : Ex} (h : Sp tk t 5 5 15) : At tk t 5 5 := fun i rest hd hf => by
 obtain ⟨e, hs, k⟩ := h i rest hd (hf.mono (by omega));exact ⟨e, hs, k _ (PE.no15 (by rw [(bin_eq (drop_app hd) _).1]; exact hf.sum (by omega)))⟩
theorem at6 {tk : List Tk} {t : Ex} (h : Sp tk t 6 6 16) : At tk t 6 6 := fun i rest hd hf => by
 obtain ⟨e, hs, k⟩ := h i rest hd (hf.mono (by omega));exact ⟨e, hs, k _ (PE.no16 (by rw [(bin_eq (drop_app hd) _).1]; exact hf.mul (by omega)))⟩
theorem tp_next {t : Ex} {L M : Int} (h : ¬ levI t.op = L) (hM : M = L + 1) : t.tp L = t.tp M := by
 unfold Ex.tp;rw [show decide (levI t.op < L) = decide (levI t.op < M) from decide_eq_decide.2 (by omega)]
theorem down1 {tk : List Tk} {t : Ex} (h : ¬ levI t.op = 1) (k : At tk t 2 2) : Sp tk t 1 1 11 := fun i rest hd hf => by
 rw [tp_next h (M := 2) rfl] at hd |-;obtain ⟨e, hs, q⟩ := k i rest hd (hf.mono (by omega));exact ⟨e, hs, fun r hr => PE.m1 q hr⟩
theorem down2 {tk : List Tk} {t : Ex} (h : ¬ levI t.op = 2) (k : At tk t 3 3) : Sp tk t 2 2 12 := fun i rest hd hf => by
 rw [tp_next h (M := 3) rfl] at hd |-;obtain ⟨e, hs, q⟩ := k i rest hd (hf.mono (by omega));exact ⟨e, hs, fun r hr => PE.m2 q hr⟩
theorem down5 {tk : List Tk} {t : Ex} (h : ¬ levI t.op = 5) (k : At tk t 6 6) : Sp tk t 5 5 15 := fun i rest hd hf => by
 rw [tp_next h (M := 6) rfl] at hd |-;obtain ⟨e, hs, q⟩ := k i rest hd (hf.mono (by omega));exact ⟨e, hs, fun r hr => PE.m5 q hr⟩
theorem down6 {tk : List Tk} {t : Ex} (h : ¬ levI t.op = 6) (k : At tk t 7 7) : Sp tk t 6 6 16 := fun i rest hd hf => by
 rw [tp_next h (M := 7) rfl] at hd |-;obtain ⟨e, hs, q⟩ := k i rest hd (hf.mono (by omega));exact ⟨e, hs, fun r hr => PE.m6 q hr⟩
theorem down0 {tk : List Tk} {t : Ex} (hF : t.form = true) (h : ¬ levI t.op = 0) (k : At tk t 1 1) : At tk t 0 0 := fun i rest hd hf => by
 rw [tp_next h (M := 1) rfl] at hd |-;obtain ⟨e, hs, q⟩ := k i rest hd (hf.mono (by omega));exact ⟨e, hs, PE.no0 (by rw [acc_eq hd]; exact (tree_hd t hF 1 (by omega) rest).1) q⟩
theorem down3 {tk : List Tk} {t : Ex} (hF : t.form = true) (h : ¬ levI t.op = 3) (k : At tk t 4 4) : At tk t 3 3 := fun i rest hd hf => by
 rw [tp_next h (M := 4) rfl] at hd |-;obtain ⟨e, hs, q⟩ := k i rest hd (hf.mono (by omega));exact ⟨e, hs, PE.no3 (by rw [acc_eq hd]; exact (tree_hd t hF 4 (by omega) rest).2 (by omega)) q⟩
theorem down4 {tk : List Tk} {t : Ex} (h : ¬ levI t.op = 4) (k : At tk t 5 5) : At tk t 4 4 := fun i rest hd hf => by
 rw [tp_next h (M := 5) rfl] at hd |-;obtain ⟨e, hs, q⟩ := k i rest hd (hf.mono (by omega));exact ⟨e, hs, PE.no4 q (by rw [(bin_eq (drop_app hd) _).1]; exact hf.rel (by omega))⟩
theorem par_at {tk : List Tk} {t : Ex} (h : levI t.op < 7) (k : At tk t 0 0) : At tk t 7 7 := fun i rest hd hf => by
 have e0 : t.tp 0 = t.tb := tp_bare (by have := lev_bd t.op; omega);rw [tp_par h] at hd |-;have hd' : (tk.drop i).map pj = (4, [40]) :: (t.tp 0 ++ ((4, [41]) :: rest)) := by rw [hd, e0]; simp
 obtain ⟨e, hs, q⟩ := k (i + 1) _ (drop_one hd') (fol_shut 0 _);have hd2 := drop_app (drop_one hd');refine ⟨e, hs, ?_⟩;have := PE.par7 (a := .no) (s := ⟨i, true⟩) (by rw [acc_eq hd']; rfl) (by rw [acc_eq hd']; rfl) q (exp_eq hd2 rfl);rw [e0] at this;rw [show i + ((4, [40]) :: (t.tb ++ [(4, [41])]) : List (Int × List UInt8)).length = i + 1 + t.tb.length + 1 by simp; omega];exact this
structure TG (tk : List Tk) (t : Ex) : Prop where
 a0 : At tk t 0 0
 a1 : At tk t 1 1
 a2 : At tk t 2 2
 a3 : At tk t 3 3
 a4 : At tk t 4 4
 a5 : At tk t 5 5
 a6 : At tk t 6 6
 a7 : At tk t 7 7
 s1 : Sp tk t 1 1 11
 s2 : Sp tk t 2 2 12
 s5 : Sp tk t 5 5 15
 s6 : Sp tk t 6 6 16
theorem tg_of {tk : List Tk} {t : Ex} (hF : t.form = true) (b0 : levI t.op = 0 -> At tk t 0 0) (b1 : levI t.op = 1 -> Sp tk t 1 1 11) (b2 : levI t.op = 2 -> Sp tk t 2 2 12) (b3 : levI t.op = 3 -> At tk t 3 3) (b4 : levI t.op = 4 -> At tk t 4 4) (b5 : levI t.op = 5 -> Sp tk t 5 5 15) (b6 : levI t.op = 6 -> Sp tk t 6 6 16) (b7 : levI t.op = 7 -> At tk t 7 7) : TG tk t := by
 have hv := lev_bd t.op
 have s6 : 6 <= levI t.op -> Sp tk t 6 6 16 := fun h => by
  by_cases e : levI t.op = 6
  ·exact b6 e
  ·exact down6 e (b7 (by omega))
 have s5 : 5 <= levI t.op -> Sp tk t 5 5 15 := fun h => by
  by_cases e : levI t.op = 5
  ·exact b5 e
  ·exact down5 e (at6 (s6 (by omega)))
 have a4 : 4 <= levI t.op -> At tk t 4 4 := fun h => by
  by_cases e : levI t.op = 4
  ·exact b4 e
  ·exact down4 e (at5 (s5 (by omega)))
 have a3 : 3 <= levI t.op -> At tk t 3 3 := fun h => by
  by_cases e : levI t.op = 3
  ·exact b3 e
  ·exact down3 hF e (a4 (by omega))
 have s2 : 2 <= levI t.op -> Sp tk t 2 2 12 := fun h => by
  by_cases e : levI t.op = 2
  ·exact b2 e
  ·exact down2 e (a3 (by omega))
 have s1 : 1 <= levI t.op -> Sp tk t 1 1 11 := fun h => by
  by_cases e : levI t.op = 1
  ·exact b1 e
  ·exact down1 e (at2 (s2 (by omega)))
 have a0 : At tk t 0 0 := by
  by_cases e : levI t.op = 0
  ·exact b0 e
  ·exact down0 hF e (at1 (s1 (by omega)))
 have A7 : At tk t 7 7 := by
  by_cases e : levI t.op = 7
  ·exact b7 e
  ·exact par_at (by omega) a0
 have S6 : Sp tk t 6 6 16 := by
  by_cases e : levI t.op = 6
  ·exact b6 e
  ·exact down6 e A7
 have S5 : Sp tk t 5 5 15 := by
  by_cases e : levI t.op = 5
  ·exact b5 e
  ·exact down5 e (at6 S6)
 have A4 : At tk t 4 4 := by
  by_cases e : levI t.op = 4
  ·exact b4 e
  ·exact down4 e (at5 S5)
 have A3 : At tk t 3 3 := by
  by_cases e : levI t.op = 3
  ·exact b3 e
  ·exact down3 hF e A4
 have S2 : Sp tk t 2 2 12 := by
  by_cases e : levI t.op = 2
  ·exact b2 e
  ·exact down2 e A3
 have S1 : Sp tk t 1 1 11 := by
  by_cases e : levI t.op = 1
  ·exact b1 e
  ·exact down1 e (at2 S2)
 exact ⟨a0, at1 S1, at2 S2, A3, A4, at5 S5, at6 S6, A7, S1, S2, S5, S6⟩
theorem nod_zero {op a b d : Int} {s : ByteArray} {n : Nat} (h : nodB op a b d s n = true) (h4 : 4 <= op) : a = 0 /\ b = 0 /\ d = 0 /\ s = ⟨#[]⟩ := by
 unfold nodB emS at h;rw [if_neg (by omega), if_neg (by omega), if_neg (by omega)] at h;simp only [Bool.and_eq_true, beq_iff_eq] at h;obtain ⟨-, ⟨h1, h2⟩, h3, h4⟩ := h;exact ⟨h1, h2, h3, ba_ext (by rw [h4])⟩
theorem two_same {op : Int} {kid : Nat -> Ex} {x y : Ex} (h0 : (kid 0).same x = true) (h1 : (kid 1).same y = true) : (Ex.mk op 0 0 0 ⟨#[]⟩ 2 kid).same (trB op x y) = true :=
 mk_same (fun i hi => by
  rcases (show i = 0 \/ i = 1 by omega) with rfl | rfl
  ·exact h0
  ·exact h1)
theorem one_same {op : Int} {kid : Nat -> Ex} {x : Ex} (h0 : (kid 0).same x = true) : (Ex.mk op 0 0 0 ⟨#[]⟩ 1 kid).same (trU op x) = true :=
  mk_same (fun i hi => by obtain rfl : i = 0 := by omega
                          exact h0)
theorem sp_bin {tk : List Tk} {op : Int} {m m' k : Nat} {L L' : Int} (hL : levI op = L) (h4 : ¬ L = 4) (hL' : L' = L + 1) (h0 : 7 <= op) (h1 : op <= 18) {kid : Nat -> Ex} (K0 : Sp tk (kid 0) m L k) (K1 : At tk (kid 1) m' L')
  (go : ∀ {a x : Ex} {j : Nat} {t : Pt} {r : Ex × Pt} {ts : List (Int × List UInt8)}, (tk.drop j).map pj = (sgK op, (sgS op).data.toList) :: ts -> PE tk m' .no ⟨j + 1, true⟩ (x, t) -> PE tk k (trB op a x) t r -> PE tk k a ⟨j, true⟩ r) : Sp tk (.mk op 0 0 0 ⟨#[]⟩ 2 kid) m L k := fun i rest hd hf => by
 have e : (Ex.mk op 0 0 0 ⟨#[]⟩ 2 kid).tp L = (kid 0).tp L ++ (sgK op, (sgS op).data.toList) :: (kid 1).tp L' := by
  rw [tp_bare (show ¬ levI op < L by omega), tb_mk, nd_bin h0 h1, hL, if_neg h4, <- hL']
 rw [e] at hd |-;rw [List.append_assoc, List.cons_append] at hd;obtain ⟨e0, s0, k0⟩ := K0 i _ hd (fol_op h0 h1 _ (by omega));have hd1 := drop_app hd;have hd2 := drop_one hd1;obtain ⟨e1, s1, k1⟩ := K1 _ rest hd2 (hf.mono (by omega));refine ⟨trB op e0 e1, two_same s0 s1, fun r hr => k0 r (go hd1 k1 ?_)⟩;rw [show i + ((kid 0).tp L ++ (sgK op, (sgS op).data.toList) :: (kid 1).tp L').length = i + ((kid 0).tp L).length + 1 + ((kid 1).tp L').length by simp; omega] at hr;exact hr
theorem pk_hd {tk : List Tk} {i : Nat} {K : Int} {y : List UInt8} {ts : List (Int × List UInt8)} (h : (tk.drop i).map pj = (K, y) :: ts) : ∃ t, tkAt tk ⟨i, true⟩ = some t /\ t.K = K /\ t.T.data.toList = y /\ pkK tk ⟨i, true⟩ = K /\ pkT tk ⟨i, true⟩ = t.T := by
 unfold pkK pkT;rw [at_drop]
 cases hd : tk.drop i with
 | nil => rw [hd] at h; cases h
 | cons t l =>
  rw [hd, List.map_cons] at h
  injection h with h1 h2
  unfold pj at h1
  injection h1 with h3 h4
  exact ⟨t, rfl, h3, h4, h3, rfl⟩
theorem at_neg {tk : List Tk} {kid : Nat -> Ex} (K : At tk (kid 0) 7 7) : At tk (.mk 4 0 0 0 ⟨#[]⟩ 1 kid) 7 7 := fun i rest hd hf => by
 have e : (Ex.mk 4 0 0 0 ⟨#[]⟩ 1 kid).tp 7 = (4, [45]) :: (kid 0).tp 7 := rfl;rw [e] at hd |-;obtain ⟨e0, s0, k0⟩ := K (i + 1) rest (drop_one hd) hf;refine ⟨trU 4 e0, one_same s0, ?_⟩;rw [show i + ((4, [45]) :: (kid 0).tp 7 : List (Int × List UInt8)).length = i + 1 + ((kid 0).tp 7).length by simp; omega];exact PE.neg7 (by rw [acc_eq hd]; rfl) k0
theorem at_not {tk : List Tk} {kid : Nat -> Ex} (K : At tk (kid 0) 3 3) : At tk (.mk 5 0 0 0 ⟨#[]⟩ 1 kid) 3 3 := fun i rest hd hf => by
 have e : (Ex.mk 5 0 0 0 ⟨#[]⟩ 1 kid).tp 3 = (1, kNot) :: (kid 0).tp 3 := rfl;rw [e] at hd |-;obtain ⟨e0, s0, k0⟩ := K (i + 1) rest (drop_one hd) hf;refine ⟨trU 5 e0, one_same s0, ?_⟩;rw [show i + ((1, kNot) :: (kid 0).tp 3 : List (Int × List UInt8)).length = i + 1 + ((kid 0).tp 3).length by simp; omega];exact PE.not3 (by rw [acc_eq hd]; rfl) k0
theorem at_floor {tk : List Tk} {kid : Nat -> Ex} (K : At tk (kid 0) 0 0) : At tk (.mk 6 0 0 0 ⟨#[]⟩ 1 kid) 7 7 := fun i rest hd hf => by
 have e : (Ex.mk 6 0 0 0 ⟨#[]⟩ 1 kid).tp 7 = (1, kFloor) :: (4, [40]) :: ((kid 0).tp 0 ++ [(4, [41])]) := rfl;rw [e] at hd |-;have hd' : (tk.drop i).map pj = (1, kFloor) :: (4, [40]) :: ((kid 0).tp 0 ++ ((4, [41]) :: rest)) := by rw [hd]; simp
 obtain ⟨e0, s0, k0⟩ := K (i + 1 + 1) _ (drop_one (drop_one hd')) (fol_shut 0 _);have hd2 := drop_app (drop_one (drop_one hd'));refine ⟨trU 6 e0, one_same s0, ?_⟩;rw [show i + ((1, kFloor) :: (4, [40]) :: ((kid 0).tp 0 ++ [(4, [41])]) : List (Int × List UInt8)).length = i + 1 + 1 + ((kid 0).tp 0).length + 1 by simp; omega];exact PE.floor7 (by rw [acc_eq hd']; rfl) (by rw [acc_eq hd']; rfl) (by rw [acc_eq hd']; rfl) (by rw [acc_eq hd']; rfl) (exp_eq (drop_one hd') rfl) k0 (exp_eq hd2 rfl)
theorem at_mm {tk : List Tk} {op : Int} {w : List UInt8} {kid : Nat -> Ex} (hw : (op = 19 /\ w = kMin) \/ (op = 20 /\ w = kMax)) (K0 : At tk (kid 0) 0 0) (K1 : At tk (kid 1) 0 0) : At tk (.mk op 0 0 0 ⟨#[]⟩ 2 kid) 7 7 := fun i rest hd hf => by
 have e : (Ex.mk op 0 0 0 ⟨#[]⟩ 2 kid).tp 7 = (1, w) :: (4, [40]) :: ((kid 0).tp 0 ++ (4, [44]) :: ((kid 1).tp 0 ++ [(4, [41])])) := by rcases hw with ⟨rfl, rfl⟩ | ⟨rfl, rfl⟩ <;> rfl
 rw [e] at hd |-;have hd' : (tk.drop i).map pj = (1, w) :: (4, [40]) :: ((kid 0).tp 0 ++ ((4, [44]) :: ((kid 1).tp 0 ++ ((4, [41]) :: rest)))) := by rw [hd]; simp
 obtain ⟨e0, s0, k0⟩ := K0 (i + 1 + 1) _ (drop_one (drop_one hd')) (fol_comma 0 _);have hd2 := drop_app (drop_one (drop_one hd'));obtain ⟨e1, s1, k1⟩ := K1 _ _ (drop_one hd2) (fol_shut 0 _);have hd3 := drop_app (drop_one hd2);refine ⟨trB op e0 e1, two_same s0 s1, ?_⟩;rw [show i + ((1, w) :: (4, [40]) :: ((kid 0).tp 0 ++ (4, [44]) :: ((kid 1).tp 0 ++ [(4, [41])])) : List (Int × List UInt8)).length = i + 1 + 1 + ((kid 0).tp 0).length + 1 + ((kid 1).tp 0).length + 1 by simp; omega]
 have f1 : hdB kNeg ((1, w) :: (4, [40]) :: ((kid 0).tp 0 ++ ((4, [44]) :: ((kid 1).tp 0 ++ ((4, [41]) :: rest))))) = false := by rcases hw with ⟨rfl, rfl⟩ | ⟨rfl, rfl⟩ <;> rfl
 have f2 : hdB kOpen ((1, w) :: (4, [40]) :: ((kid 0).tp 0 ++ ((4, [44]) :: ((kid 1).tp 0 ++ ((4, [41]) :: rest))))) = false := by rcases hw with ⟨rfl, rfl⟩ | ⟨rfl, rfl⟩ <;> rfl
 have f3 : hdB kBest ((1, w) :: (4, [40]) :: ((kid 0).tp 0 ++ ((4, [44]) :: ((kid 1).tp 0 ++ ((4, [41]) :: rest))))) = false := by rcases hw with ⟨rfl, rfl⟩ | ⟨rfl, rfl⟩ <;> rfl
 have f4 : hdB kFloor ((1, w) :: (4, [40]) :: ((kid 0).tp 0 ++ ((4, [44]) :: ((kid 1).tp 0 ++ ((4, [41]) :: rest))))) = false := by rcases hw with ⟨rfl, rfl⟩ | ⟨rfl, rfl⟩ <;> rfl
 have f5 : hdO mmL ((1, w) :: (4, [40]) :: ((kid 0).tp 0 ++ ((4, [44]) :: ((kid 1).tp 0 ++ ((4, [41]) :: rest))))) = true /\ hdI mmL ((1, w) :: (4, [40]) :: ((kid 0).tp 0 ++ ((4, [44]) :: ((kid 1).tp 0 ++ ((4, [41]) :: rest))))) = op := by rcases hw with ⟨rfl, rfl⟩ | ⟨rfl, rfl⟩ <;> exact ⟨rfl, rfl⟩
 obtain ⟨b1, b2⟩ := bin_eq hd' mmL;exact PE.mm7 (by rw [acc_eq hd', f1]) (by rw [acc_eq hd', f2]) (by rw [acc_eq hd', f3]) (by rw [acc_eq hd', f4]) (b1.trans f5.1) (b2.trans f5.2) (exp_eq (drop_one hd') rfl) k0 (exp_eq hd2 rfl) k1 (exp_eq hd3 rfl)
theorem at_if {tk : List Tk} {kid : Nat -> Ex} (K0 : At tk (kid 0) 0 0) (K1 : At tk (kid 1) 0 0) (K2 : At tk (kid 2) 0 0) : At tk (.mk 21 0 0 0 ⟨#[]⟩ 3 kid) 0 0 := fun i rest hd hf => by
 have e : (Ex.mk 21 0 0 0 ⟨#[]⟩ 3 kid).tp 0 = (1, kIf) :: ((kid 0).tp 0 ++ (1, kThen) :: ((kid 1).tp 0 ++ (1, kElse) :: (kid 2).tp 0)) := rfl;rw [e] at hd |-;have hd' : (tk.drop i).map pj = (1, kIf) :: ((kid 0).tp 0 ++ ((1, kThen) :: ((kid 1).tp 0 ++ ((1, kElse) :: ((kid 2).tp 0 ++ rest))))) := by rw [hd]; simp
 obtain ⟨e0, s0, k0⟩ := K0 (i + 1) _ (drop_one hd') (fol_then 0 _);have hd2 := drop_app (drop_one hd');obtain ⟨e1, s1, k1⟩ := K1 _ _ (drop_one hd2) (fol_else 0 _);have hd3 := drop_app (drop_one hd2);obtain ⟨e2, s2, k2⟩ := K2 _ _ (drop_one hd3) hf
 refine ⟨trI e0 e1 e2, mk_same (fun i hi => by
  rcases (show i = 0 \/ i = 1 \/ i = 2 by omega) with rfl | rfl | rfl
  ·exact s0
  ·exact s1
  ·exact s2), ?_⟩
 rw [show i + ((1, kIf) :: ((kid 0).tp 0 ++ (1, kThen) :: ((kid 1).tp 0 ++ (1, kElse) :: (kid 2).tp 0)) : List (Int × List UInt8)).length = i + 1 + ((kid 0).tp 0).length + 1 + ((kid 1).tp 0).length + 1 + ((kid 2).tp 0).length by simp; omega];exact PE.if0 (by rw [acc_eq hd']; rfl) k0 (exp_eq hd2 rfl) k1 (exp_eq hd3 rfl) k2
theorem at_rel {tk : List Tk} {op : Int} (h0 : 11 <= op) (h1 : op <= 16) {kid : Nat -> Ex} (K0 : At tk (kid 0) 5 5) (K1 : At tk (kid 1) 5 5) : At tk (.mk op 0 0 0 ⟨#[]⟩ 2 kid) 4 4 := fun i rest hd hf => by
 have hl : levI op = 4 := by
  obtain ⟨v7, v8, v9, v10, v11, v12, v13, v14, v15, v16, v17, v18⟩ := lev_vals
  rcases (show op = 11 \/ op = 12 \/ op = 13 \/ op = 14 \/ op = 15 \/ op = 16 by omega) with rfl | rfl | rfl | rfl | rfl | rfl <;> assumption
 have e : (Ex.mk op 0 0 0 ⟨#[]⟩ 2 kid).tp 4 = (kid 0).tp 5 ++ (sgK op, (sgS op).data.toList) :: (kid 1).tp 5 := by
  rw [tp_bare (show ¬ levI op < 4 by omega), tb_mk, nd_bin (by omega) (by omega), hl, if_pos rfl]; rfl
 rw [e] at hd |-;rw [List.append_assoc, List.cons_append] at hd;obtain ⟨e0, s0, k0⟩ := K0 i _ hd (fol_op (by omega) (by omega) _ (by omega));have hd1 := drop_app hd;obtain ⟨e1, s1, k1⟩ := K1 _ rest (drop_one hd1) (hf.mono (by omega));refine ⟨trB op e0 e1, two_same s0 s1, ?_⟩;rw [show i + ((kid 0).tp 5 ++ (sgK op, (sgS op).data.toList) :: (kid 1).tp 5).length = i + ((kid 0).tp 5).length + 1 + ((kid 1).tp 5).length by simp; omega];obtain ⟨b1, b2⟩ := bin_eq hd1 relL
 have f : hdO relL ((sgK op, (sgS op).data.toList) :: ((kid 1).tp 5 ++ rest)) = true /\ hdI relL ((sgK op, (sgS op).data.toList) :: ((kid 1).tp 5 ++ rest)) = op := by
  rcases (show op = 11 \/ op = 12 \/ op = 13 \/ op = 14 \/ op = 15 \/ op = 16 by omega) with rfl | rfl | rfl | rfl | rfl | rfl <;> exact ⟨rfl, rfl⟩
 exact PE.rel4 k0 (b1.trans f.1) (b2.trans f.2) k1
theorem at_lit {tk : List Tk} {a b d : Int} {kid : Nat -> Ex} (h : fdB a b d = true) : At tk (.mk 1 a b d ⟨#[]⟩ 0 kid) 7 7 := fun i rest hd hf => by
 have e : (Ex.mk 1 a b d ⟨#[]⟩ 0 kid).tp 7 = [(2, (fdT a b d).data.toList)] := rfl;rw [e] at hd |-;have hd' : (tk.drop i).map pj = (2, (fdT a b d).data.toList) :: rest := hd;obtain ⟨t, ht, hK, hT, pK, pT⟩ := pk_hd hd';have hT' := ba_ext hT;obtain ⟨-, f1, f2, f3⟩ := fd_back h;have := PE.num7 (tk := tk) (a := .no) (s := ⟨i, true⟩) (by rw [acc_eq hd']; rfl) (by rw [acc_eq hd']; rfl) (by rw [acc_eq hd']; rfl) (by rw [acc_eq hd']; rfl) (by rw [(bin_eq hd' mmL).1]; rfl) pK;rw [pT, hT', f1, f2, f3] at this;exact ⟨trL a b d, mk_same (fun i hi => absurd hi (by omega)), this⟩
theorem at_nam {tk : List Tk} {s : ByteArray} {kid : Nat -> Ex} (h : namB s = true) : At tk (.mk 2 0 0 0 s 0 kid) 7 7 := fun i rest hd hf => by
 have e : (Ex.mk 2 0 0 0 s 0 kid).tp 7 = [(1, s.data.toList)] := rfl;rw [e] at hd |-;have hd' : (tk.drop i).map pj = (1, s.data.toList) :: rest := hd;obtain ⟨t, ht, hK, hT, pK, pT⟩ := pk_hd hd';have hT' := ba_ext hT;obtain ⟨o1, o2, o3⟩ := okL_name h
 have hsg : ∀ c : UInt8, low c = false -> hdB [c] ((1, s.data.toList) :: rest) = false := fun c hc => by
  simp only [hdB]
  cases e : (s.data.toList == [c])
  ·simp
  ·rw [beq_iff_eq] at e;rw [e] at o1;simp [okL, hc] at o1
 have hN : namO tk ⟨i, true⟩ = true := by unfold namO; rw [ht]; simp only []; rw [hK, hT', h]; rfl
 have := PE.nam7 (tk := tk) (a := .no) (s := ⟨i, true⟩) (by rw [acc_eq hd']; exact hsg 45 (by decide)) (by rw [acc_eq hd']; exact hsg 40 (by decide)) (by rw [acc_eq hd']; exact nam_hd h (by decide)) (by rw [acc_eq hd']; exact nam_hd h (by decide))
  (by rw [(bin_eq hd' mmL).1]; unfold mmL hdO; rw [if_neg (by rw [show hdB [109, 105, 110] ((1, s.data.toList) :: rest) = false from nam_hd h (by decide)]; simp)]; unfold hdO; rw [if_neg (by rw [show hdB [109, 97, 120] ((1, s.data.toList) :: rest) = false from nam_hd h (by decide)]; simp)]; rfl) (by rw [pK]; decide)
 unfold namT namP at this;rw [if_pos hN, if_pos hN, pT, hT'] at this;exact ⟨trN s, mk_same (fun i hi => absurd hi (by omega)), this⟩
theorem at_best {tk : List Tk} {a : Int} {kid : Nat -> Ex} (h0 : 1 <= a) (h1 : a <= 45) : At tk (.mk 3 a 1 0 ⟨#[]⟩ 0 kid) 7 7 := fun i rest hd hf => by
 have e : (Ex.mk 3 a 1 0 ⟨#[]⟩ 0 kid).tp 7 = [(1, kBest), (4, [40]), (2, (numS a).data.toList), (4, [41])] := rfl;rw [e] at hd |-;have hd' : (tk.drop i).map pj = (1, kBest) :: (4, [40]) :: (2, (numS a).data.toList) :: (4, [41]) :: rest := hd;have hd2 := drop_one (drop_one hd');obtain ⟨t, ht, hK, hT, pK, pT⟩ := pk_hd hd2;have hT' := ba_ext hT;obtain ⟨-, -, m1, m2⟩ := num_small h0 h1
 have hO : numO tk 1 45 ⟨i + 1 + 1, true⟩ = true := by
  unfold numO; rw [ht]; simp only []; rw [hK, hT', m1, m2]; simp [h0, h1]
 refine ⟨trS a, mk_same (fun i hi => absurd hi (by omega)), ?_⟩;exact PE.best7 (t := ⟨i + 1 + 1, true⟩) (u := ⟨i + 1 + 1 + 1, true⟩) (by rw [acc_eq hd']; rfl) (by rw [acc_eq hd']; rfl) (by rw [acc_eq hd']; rfl) (exp_eq (drop_one hd') rfl) (by unfold numT; rw [if_pos hO, pT, hT', m2]) (by unfold numP; rw [if_pos hO]; rfl) (exp_eq (drop_one hd2) rfl)
theorem tree_tg (tk : List Tk) (t : Ex) : t.form = true -> TG tk t := by
 induction t with
 | no => intro h; simp [Ex.form] at h
 | mk op a b d s n kid ih =>
  intro h;obtain ⟨h1, h2⟩ := form_of h;obtain ⟨o1, o2⟩ := op_of h1;have hn := nod_ar h1;obtain ⟨v7, v8, v9, v10, v11, v12, v13, v14, v15, v16, v17, v18⟩ := lev_vals;have v1 : levI 1 = 7 /\ levI 2 = 7 /\ levI 3 = 7 /\ levI 4 = 7 /\ levI 5 = 3 /\ levI 6 = 7 /\ levI 19 = 7 /\ levI 20 = 7 /\ levI 21 = 0 := by decide
  obtain ⟨w1, w2, w3, w4, w5, w6, w19, w20, w21⟩ := v1;have only : ∀ {v u : Int} {P : Prop}, levI op = v -> ¬ v = u -> levI op = u -> P := fun a b c => absurd (a.symm.trans c) b
  by_cases hb : 4 <= op
  ·obtain ⟨rfl, rfl, rfl, rfl⟩ := nod_zero h1 hb;have G := fun i hi => ih i (h2 i hi)
   by_cases hc : 7 <= op /\ op <= 20
   ·obtain rfl : n = 2 := by
     unfold arI at hn;rw [if_neg (by omega), if_neg (by omega), if_pos (by omega)] at hn;omega
    have G0 := G 0 (by decide);have G1 := G 1 (by decide);by_cases hr : 11 <= op /\ op <= 16
    ·have hl : levI op = 4 := by
      rcases (show op = 11 \/ op = 12 \/ op = 13 \/ op = 14 \/ op = 15 \/ op = 16 by omega) with rfl | rfl | rfl | rfl | rfl | rfl <;> assumption
     exact tg_of h (only hl (by decide)) (only hl (by decide)) (only hl (by decide)) (only hl (by decide)) (fun _ => at_rel hr.1 hr.2 G0.a5 G1.a5) (only hl (by decide)) (only hl (by decide)) (only hl (by decide))
    by_cases hs : op = 7 \/ op = 8
    ·have hl : levI op = 5 := by rcases hs with rfl | rfl <;> assumption
     exact tg_of h (only hl (by decide)) (only hl (by decide)) (only hl (by decide)) (only hl (by decide)) (only hl (by decide)) (fun _ => sp_bin hl (by decide) (by decide) (by omega) (by omega) G0.s5 G1.a6 (fun hd k1 k2 => by
      obtain ⟨b1, b2⟩ := bin_eq hd sumL
      exact PE.go15 (b1.trans (by rcases hs with rfl | rfl <;> rfl)) (b2.trans (by rcases hs with rfl | rfl <;> rfl)) k1 k2)) (only hl (by decide)) (only hl (by decide))
    by_cases hm : op = 9 \/ op = 10
    ·have hl : levI op = 6 := by rcases hm with rfl | rfl <;> assumption
     exact tg_of h (only hl (by decide)) (only hl (by decide)) (only hl (by decide)) (only hl (by decide)) (only hl (by decide)) (only hl (by decide)) (fun _ => sp_bin hl (by decide) (by decide) (by omega) (by omega) G0.s6 G1.a7 (fun hd k1 k2 => by
      obtain ⟨b1, b2⟩ := bin_eq hd mulL
      exact PE.go16 (b1.trans (by rcases hm with rfl | rfl <;> rfl)) (b2.trans (by rcases hm with rfl | rfl <;> rfl)) k1 k2)) (only hl (by decide))
    rcases (show op = 17 \/ op = 18 \/ op = 19 \/ op = 20 by omega) with rfl | rfl | rfl | rfl
    ·exact tg_of h (only v17 (by decide)) (only v17 (by decide)) (fun _ => sp_bin v17 (by decide) (by decide) (by omega) (by omega) G0.s2 G1.a3 (fun hd k1 k2 => PE.go12 (by rw [acc_eq hd]; rfl) k1 k2)) (only v17 (by decide)) (only v17 (by decide)) (only v17 (by decide)) (only v17 (by decide)) (only v17 (by decide))
    ·exact tg_of h (only v18 (by decide)) (fun _ => sp_bin v18 (by decide) (by decide) (by omega) (by omega) G0.s1 G1.a2 (fun hd k1 k2 => PE.go11 (by rw [acc_eq hd]; rfl) k1 k2)) (only v18 (by decide)) (only v18 (by decide)) (only v18 (by decide)) (only v18 (by decide)) (only v18 (by decide)) (only v18 (by decide))
    ·exact tg_of h (only w19 (by decide)) (only w19 (by decide)) (only w19 (by decide)) (only w19 (by decide)) (only w19 (by decide)) (only w19 (by decide)) (only w19 (by decide)) (fun _ => at_mm (.inl ⟨rfl, rfl⟩) G0.a0 G1.a0)
    ·exact tg_of h (only w20 (by decide)) (only w20 (by decide)) (only w20 (by decide)) (only w20 (by decide)) (only w20 (by decide)) (only w20 (by decide)) (only w20 (by decide)) (fun _ => at_mm (.inr ⟨rfl, rfl⟩) G0.a0 G1.a0)
   ·rcases (show op = 4 \/ op = 5 \/ op = 6 \/ op = 21 by omega) with rfl | rfl | rfl | rfl
    ·obtain rfl : n = 1 := by simp [arI] at hn; omega
     exact tg_of h (only w4 (by decide)) (only w4 (by decide)) (only w4 (by decide)) (only w4 (by decide)) (only w4 (by decide)) (only w4 (by decide)) (only w4 (by decide)) (fun _ => at_neg (G 0 (by decide)).a7)
    ·obtain rfl : n = 1 := by simp [arI] at hn; omega
     exact tg_of h (only w5 (by decide)) (only w5 (by decide)) (only w5 (by decide)) (fun _ => at_not (G 0 (by decide)).a3) (only w5 (by decide)) (only w5 (by decide)) (only w5 (by decide)) (only w5 (by decide))
    ·obtain rfl : n = 1 := by simp [arI] at hn; omega
     exact tg_of h (only w6 (by decide)) (only w6 (by decide)) (only w6 (by decide)) (only w6 (by decide)) (only w6 (by decide)) (only w6 (by decide)) (only w6 (by decide)) (fun _ => at_floor (G 0 (by decide)).a0)
    ·obtain rfl : n = 3 := by simp [arI] at hn; omega
     exact tg_of h (fun _ => at_if (G 0 (by decide)).a0 (G 1 (by decide)).a0 (G 2 (by decide)).a0) (only w21 (by decide)) (only w21 (by decide)) (only w21 (by decide)) (only w21 (by decide)) (only w21 (by decide)) (only w21 (by decide)) (only w21 (by decide))
  ·have h1' := h1
   rcases (show op = 1 \/ op = 2 \/ op = 3 by omega) with rfl | rfl | rfl
   ·obtain rfl : n = 0 := by simp [arI] at hn; omega
    obtain ⟨l1, l2⟩ := nod_lit h1;obtain rfl : s = ⟨#[]⟩ := ba_ext (by unfold emS at l2; rw [beq_iff_eq] at l2; rw [l2]);exact tg_of h (only w1 (by decide)) (only w1 (by decide)) (only w1 (by decide)) (only w1 (by decide)) (only w1 (by decide)) (only w1 (by decide)) (only w1 (by decide)) (fun _ => at_lit l1)
   ·obtain rfl : n = 0 := by simp [arI] at hn; omega
    unfold nodB at h1';simp at h1';obtain ⟨-, m1, ⟨rfl, rfl⟩, rfl⟩ := h1';exact tg_of h (only w2 (by decide)) (only w2 (by decide)) (only w2 (by decide)) (only w2 (by decide)) (only w2 (by decide)) (only w2 (by decide)) (only w2 (by decide)) (fun _ => at_nam m1)
   ·obtain rfl : n = 0 := by simp [arI] at hn; omega
    unfold nodB emS at h1';simp only [Bool.and_eq_true, beq_iff_eq] at h1';simp at h1';obtain ⟨-, ⟨⟨rfl, m1⟩, m2⟩, rfl, m3⟩ := h1';obtain rfl : s = ⟨#[]⟩ := ba_ext (by rw [<- m3]);exact tg_of h (only w3 (by decide)) (only w3 (by decide)) (only w3 (by decide)) (only w3 (by decide)) (only w3 (by decide)) (only w3 (by decide)) (only w3 (by decide)) (fun _ => at_best m1 m2)
/-! Fuel. -/
def cm (m : Nat) : Nat := if m = 0 then 8 else if m = 1 then 7 else if m = 2 then 6 else if m = 3 then 5 else if m = 4 then 4 else if m = 5 then 3 else if m = 6 then 2 else 1
theorem pe_stab (tk : List Tk) (f : Nat) : ∀ m a s, md m -> 10 * rem tk s + cm m <= f -> pe tk (f + 1) m a s = pe tk f m a s := by
 induction f with
 | zero => intro m a s hm h; unfold cm at h; exfalso; revert h; (repeat' split) <;> omega
 | succ f ih =>
  have i0 : ∀ a s, 10 * rem tk s + 8 <= f -> pe tk (f + 1) 0 a s = pe tk f 0 a s := fun a s h => ih 0 a s (by unfold md; decide) h
  have b0 : ∀ a s, rem tk (pe tk f 0 a s).2 <= rem tk s := fun a s => (pe_beh tk f 0 a s (by unfold md; decide)).rem
  have i1 : ∀ a s, 10 * rem tk s + 7 <= f -> pe tk (f + 1) 1 a s = pe tk f 1 a s := fun a s h => ih 1 a s (by unfold md; decide) h
  have b1 : ∀ a s, rem tk (pe tk f 1 a s).2 <= rem tk s := fun a s => (pe_beh tk f 1 a s (by unfold md; decide)).rem
  have i2 : ∀ a s, 10 * rem tk s + 6 <= f -> pe tk (f + 1) 2 a s = pe tk f 2 a s := fun a s h => ih 2 a s (by unfold md; decide) h
  have b2 : ∀ a s, rem tk (pe tk f 2 a s).2 <= rem tk s := fun a s => (pe_beh tk f 2 a s (by unfold md; decide)).rem
  have i3 : ∀ a s, 10 * rem tk s + 5 <= f -> pe tk (f + 1) 3 a s = pe tk f 3 a s := fun a s h => ih 3 a s (by unfold md; decide) h
  have b3 : ∀ a s, rem tk (pe tk f 3 a s).2 <= rem tk s := fun a s => (pe_beh tk f 3 a s (by unfold md; decide)).rem
  have i4 : ∀ a s, 10 * rem tk s + 4 <= f -> pe tk (f + 1) 4 a s = pe tk f 4 a s := fun a s h => ih 4 a s (by unfold md; decide) h
  have b4 : ∀ a s, rem tk (pe tk f 4 a s).2 <= rem tk s := fun a s => (pe_beh tk f 4 a s (by unfold md; decide)).rem
  have i5 : ∀ a s, 10 * rem tk s + 3 <= f -> pe tk (f + 1) 5 a s = pe tk f 5 a s := fun a s h => ih 5 a s (by unfold md; decide) h
  have b5 : ∀ a s, rem tk (pe tk f 5 a s).2 <= rem tk s := fun a s => (pe_beh tk f 5 a s (by unfold md; decide)).rem
  have i6 : ∀ a s, 10 * rem tk s + 2 <= f -> pe tk (f + 1) 6 a s = pe tk f 6 a s := fun a s h => ih 6 a s (by unfold md; decide) h
  have b6 : ∀ a s, rem tk (pe tk f 6 a s).2 <= rem tk s := fun a s => (pe_beh tk f 6 a s (by unfold md; decide)).rem
  have i7 : ∀ a s, 10 * rem tk s + 1 <= f -> pe tk (f + 1) 7 a s = pe tk f 7 a s := fun a s h => ih 7 a s (by unfold md; decide) h
  have b7 : ∀ a s, rem tk (pe tk f 7 a s).2 <= rem tk s := fun a s => (pe_beh tk f 7 a s (by unfold md; decide)).rem
  have i11 : ∀ a s, 10 * rem tk s + 1 <= f -> pe tk (f + 1) 11 a s = pe tk f 11 a s := fun a s h => ih 11 a s (by unfold md; decide) h
  have b11 : ∀ a s, rem tk (pe tk f 11 a s).2 <= rem tk s := fun a s => (pe_beh tk f 11 a s (by unfold md; decide)).rem
  have i12 : ∀ a s, 10 * rem tk s + 1 <= f -> pe tk (f + 1) 12 a s = pe tk f 12 a s := fun a s h => ih 12 a s (by unfold md; decide) h
  have b12 : ∀ a s, rem tk (pe tk f 12 a s).2 <= rem tk s := fun a s => (pe_beh tk f 12 a s (by unfold md; decide)).rem
  have i15 : ∀ a s, 10 * rem tk s + 1 <= f -> pe tk (f + 1) 15 a s = pe tk f 15 a s := fun a s h => ih 15 a s (by unfold md; decide) h
  have b15 : ∀ a s, rem tk (pe tk f 15 a s).2 <= rem tk s := fun a s => (pe_beh tk f 15 a s (by unfold md; decide)).rem
  have i16 : ∀ a s, 10 * rem tk s + 1 <= f -> pe tk (f + 1) 16 a s = pe tk f 16 a s := fun a s h => ih 16 a s (by unfold md; decide) h
  have b16 : ∀ a s, rem tk (pe tk f 16 a s).2 <= rem tk s := fun a s => (pe_beh tk f 16 a s (by unfold md; decide)).rem
  have xb : ∀ x s, rem tk (expP tk x s) <= rem tk s := fun x s => (exp_beh tk x s).rem
  intro m a s hm h;unfold md at hm
  rcases hm with rfl | rfl | rfl | rfl | rfl | rfl | rfl | rfl | rfl | rfl | rfl | rfl
  ·have h : 10 * rem tk s + 8 <= f + 1 := h;rw [pe_0 tk (f + 1) a s, pe_0 tk f a s];by_cases hA : accB tk kIf s = true
   ·rw [if_pos hA, if_pos hA];have q0 := (acc_beh hA).2;rw [i0 .no s.adv (by omega)];have q1 := b0 .no s.adv;have q2 := xb kThen (pe tk f 0 .no s.adv).2;rw [i0 .no (expP tk kThen (pe tk f 0 .no s.adv).2) (by omega)];have q3 := b0 .no (expP tk kThen (pe tk f 0 .no s.adv).2);have q4 := xb kElse (pe tk f 0 .no (expP tk kThen (pe tk f 0 .no s.adv).2)).2;rw [i0 .no (expP tk kElse (pe tk f 0 .no (expP tk kThen (pe tk f 0 .no s.adv).2)).2) (by omega)]
   ·rw [if_neg hA, if_neg hA]; exact i1 _ _ (by omega)
  ·have h : 10 * rem tk s + 7 <= f + 1 := h;rw [pe_1 tk (f + 1) a s, pe_1 tk f a s, i2 .no s (by omega)];have q := b2 .no s;exact i11 _ _ (by omega)
  ·have h : 10 * rem tk s + 1 <= f + 1 := h;rw [pe_11 tk (f + 1) a s, pe_11 tk f a s];by_cases hA : accB tk kOr s = true
   ·rw [if_pos hA, if_pos hA];have q0 := (acc_beh hA).2;rw [i2 .no s.adv (by omega)];have q := b2 .no s.adv;exact i11 _ _ (by omega)
   ·rw [if_neg hA, if_neg hA]
  ·have h : 10 * rem tk s + 6 <= f + 1 := h;rw [pe_2 tk (f + 1) a s, pe_2 tk f a s, i3 .no s (by omega)];have q := b3 .no s;exact i12 _ _ (by omega)
  ·have h : 10 * rem tk s + 1 <= f + 1 := h;rw [pe_12 tk (f + 1) a s, pe_12 tk f a s];by_cases hA : accB tk kAnd s = true
   ·rw [if_pos hA, if_pos hA];have q0 := (acc_beh hA).2;rw [i3 .no s.adv (by omega)];have q := b3 .no s.adv;exact i12 _ _ (by omega)
   ·rw [if_neg hA, if_neg hA]
  ·have h : 10 * rem tk s + 5 <= f + 1 := h;rw [pe_3 tk (f + 1) a s, pe_3 tk f a s];by_cases hA : accB tk kNot s = true
   ·rw [if_pos hA, if_pos hA];have q0 := (acc_beh hA).2;rw [i3 .no s.adv (by omega)]
   ·rw [if_neg hA, if_neg hA]; exact i4 _ _ (by omega)
  ·have h : 10 * rem tk s + 4 <= f + 1 := h;rw [pe_4 tk (f + 1) a s, pe_4 tk f a s, i5 .no s (by omega)];by_cases hA : binO tk (pe tk f 5 .no s).2 relL = true
   ·rw [if_pos hA, if_pos hA];have q0 := (bin_beh hA).2;have q := b5 .no s;rw [i5 .no (pe tk f 5 .no s).2.adv (by omega)]
   ·rw [if_neg hA, if_neg hA]
  ·have h : 10 * rem tk s + 3 <= f + 1 := h;rw [pe_5 tk (f + 1) a s, pe_5 tk f a s, i6 .no s (by omega)];have q := b6 .no s;exact i15 _ _ (by omega)
  ·have h : 10 * rem tk s + 1 <= f + 1 := h;rw [pe_15 tk (f + 1) a s, pe_15 tk f a s];by_cases hA : binO tk s sumL = true
   ·rw [if_pos hA, if_pos hA];have q0 := (bin_beh hA).2;rw [i6 .no s.adv (by omega)];have q := b6 .no s.adv;exact i15 _ _ (by omega)
   ·rw [if_neg hA, if_neg hA]
  ·have h : 10 * rem tk s + 2 <= f + 1 := h;rw [pe_6 tk (f + 1) a s, pe_6 tk f a s, i7 .no s (by omega)];have q := b7 .no s;exact i16 _ _ (by omega)
  ·have h : 10 * rem tk s + 1 <= f + 1 := h;rw [pe_16 tk (f + 1) a s, pe_16 tk f a s];by_cases hA : binO tk s mulL = true
   ·rw [if_pos hA, if_pos hA];have q0 := (bin_beh hA).2;rw [i7 .no s.adv (by omega)];have q := b7 .no s.adv;exact i16 _ _ (by omega)
   ·rw [if_neg hA, if_neg hA]
  ·have h : 10 * rem tk s + 1 <= f + 1 := h;rw [pe_7 tk (f + 1) a s, pe_7 tk f a s];by_cases h1 : accB tk kNeg s = true
   ·rw [if_pos h1, if_pos h1];have q0 := (acc_beh h1).2;rw [i7 .no s.adv (by omega)]
   rw [if_neg h1, if_neg h1];by_cases h2 : accB tk kOpen s = true
   ·rw [if_pos h2, if_pos h2];have q0 := (acc_beh h2).2;rw [i0 .no s.adv (by omega)]
   rw [if_neg h2, if_neg h2];by_cases h3 : accB tk kBest s = true
   ·rw [if_pos h3, if_pos h3]
   rw [if_neg h3, if_neg h3];by_cases h4 : accB tk kFloor s = true
   ·rw [if_pos h4, if_pos h4];have q0 := (acc_beh h4).2;have q1 := xb kOpen s.adv;rw [i0 .no (expP tk kOpen s.adv) (by omega)]
   rw [if_neg h4, if_neg h4];by_cases h5 : binO tk s mmL = true
   ·rw [if_pos h5, if_pos h5];have q0 := (bin_beh h5).2;have q1 := xb kOpen s.adv;rw [i0 .no (expP tk kOpen s.adv) (by omega)];have q2 := b0 .no (expP tk kOpen s.adv);have q3 := xb kComma (pe tk f 0 .no (expP tk kOpen s.adv)).2;rw [i0 .no (expP tk kComma (pe tk f 0 .no (expP tk kOpen s.adv)).2) (by omega)]
   rw [if_neg h5, if_neg h5]
theorem pe_const (tk : List Tk) {m : Nat} (hm : md m) (a : Ex) (s : Pt) {f : Nat} (h : 10 * rem tk s + cm m <= f) : ∀ k, pe tk (f + k) m a s = pe tk f m a s := by
 intro k
 induction k with
 | zero => rfl
 | succ k ih => rw [<- Nat.add_assoc, pe_stab tk (f + k) m a s hm (by omega), ih]
theorem PE.at {tk : List Tk} {m : Nat} (hm : md m) {a : Ex} {s : Pt} {r : Ex × Pt} (h : PE tk m a s r) {f : Nat} (hf : 10 * rem tk s + cm m <= f) : pe tk f m a s = r := by
 obtain ⟨f0, e⟩ := h;rw [<- pe_const tk hm a s hf f0];exact e (f + f0) (by omega)
end Go.Proofs.YthmlhheceihcbaaGreatDoor.Tree

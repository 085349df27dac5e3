/- Lemmas, each as it is printed; no conditions but those printed. -/
import Derived.Test.YthmlhheceihcbaaGreatDoorKB24
import Derived.Test.YthmlhheceihcbaaGreatDoorKB45
import Derived.Test.YthmlhheceihcbaaGreatDoorKB48
namespace Go.Proofs.YthmlhheceihcbaaGreatDoor
set_option maxHeartbeats 16000000
open Cal Str Tok Frac Txt Tree
set_option linter.unusedVariables false
set_option linter.unusedSimpArgs false
abbrev TL := List (Int × List UInt8)
inductive Rl {α : Type} (R : α -> α -> Prop) : List α -> List α -> Prop
 | nil : Rl R [] []
 | cons {a b : α} {l m : List α} (h : R a b) (t : Rl R l m) : Rl R (a :: l) (b :: m)
def crK (p : Int × Int) : TL := (1, kCredit) :: (1, nmI kndL p.1) :: ((if 0 < p.2 then [(1, kLimit), (2, (fmtS p.2 1).data.toList)] else []) ++ [(4, kSemi)])
def seK (p : Int × Int × Int) : TL := [(1, kIndex), (2, (fmtS p.1 1).data.toList), (2, (fdT p.2.1 p.2.2 2).data.toList), (4, kSemi)]
def leK (p : ByteArray × (Ex × Go.Value)) : TL := (1, kLet) :: (1, p.1.data.toList) :: (4, kEq) :: (p.2.1.tp 0 ++ [(4, kSemi)])
def grK (p : Int × (Ex × Go.Value) × (Ex × Go.Value)) : TL := (1, kGrant) :: (1, nmI benL p.1) :: (1, kIf) :: (p.2.1.1.tp 0 ++ (1, kPay) :: (p.2.2.1.tp 0 ++ [(4, kSemi)]))
def reK (p : Int × (Ex × Go.Value)) : TL := (1, kReduce) :: (1, nmI benL p.1) :: (1, kBy) :: (p.2.1.tp 0 ++ [(4, kSemi)])
noncomputable def verK (m : VerM) : TL := (1, kFrom) :: (3, 64 :: (fmtD m.frm).data.toList) :: (4, kL) :: (1, kRound) :: (1, nmI modL m.mode) :: (2, (fmtS m.unit 1).data.toList) :: (4, kSemi) :: (m.cr.flatMap crK ++ (m.se.flatMap seK ++ (m.le.flatMap leK ++ (m.gr.flatMap grK ++ (m.re.flatMap reK ++ [(4, kR)])))))
noncomputable def staK (s : StaM) : TL := (1, kStatute) :: (1, s.nm.data.toList) :: (1, kCurrency) :: (2, (fmtS s.cur 1).data.toList) :: (4, kL) :: (s.vs.flatMap verK ++ [(4, kR)])
theorem valid_one {a : Int} (h0 : 0 <= a) (h1 : a <= 100000) : validB a 1 = true := by
 unfold validB; simp; omega
theorem num_one {a : Int} (h0 : 0 <= a) (h1 : a <= 100000) : fdB a 1 2 = true /\ fmtS a 1 = fdT a 1 2 := by
 have hv := valid_one h0 h1;have hB : fdB a 1 2 = true := fdB_iff.2 ⟨fdC_iff.2 ⟨hv, h0, by decide⟩, by decide, by decide, by rw [Int.ediv_one]; omega⟩;refine ⟨hB, ba_ext ?_⟩;rw [fmt_1 hv rfl, fd_yes hB];unfold fdL numS restN tailF sufL;rw [Int.ediv_one, Int.emod_one];simp
theorem num_hd2 {tk : List Tk} {i : Nat} {a lo hi : Int} {ts : TL} (h0 : 0 <= a) (h1 : a <= 100000) (hl : lo <= a) (hh : a <= hi) (h : (tk.drop i).map pj = (2, (fmtS a 1).data.toList) :: ts) : numT tk lo hi ⟨i, true⟩ = a /\ numP tk lo hi ⟨i, true⟩ = ⟨i + 1, true⟩ := by
 obtain ⟨t, ht, hK, hT, pK, pT⟩ := pk_hd h;obtain ⟨b1, b2⟩ := num_one h0 h1;have hT' := ba_ext hT;rw [b2] at hT';obtain ⟨d1, d2, d3, d4⟩ := fd_back b1
 have hO : numO tk lo hi ⟨i, true⟩ = true := by
  unfold numO; rw [ht]; simp only []; rw [hK, hT']; unfold whoB; rw [d1, d2, d3, d4]; simp [hl, hh]
 unfold numT numP;rw [if_pos hO, if_pos hO, pT, hT', d2];exact ⟨rfl, rfl⟩
theorem fac_hd2 {tk : List Tk} {i : Nat} {a d : Int} {ts : TL} (hB : fdB a d 2 = true) (h1 : 1 <= a) (h : (tk.drop i).map pj = (2, (fdT a d 2).data.toList) :: ts) : facT tk ⟨i, true⟩ = (a, d) /\ facP tk ⟨i, true⟩ = ⟨i + 1, true⟩ := by
 obtain ⟨t, ht, hK, hT, pK, pT⟩ := pk_hd h;have hT' := ba_ext hT;obtain ⟨d1, d2, d3, d4⟩ := fd_back hB;have hO : facO tk ⟨i, true⟩ = true := by unfold facO; rw [pK, pT, hT', d1, d2, d4]; simp [h1]
 unfold facT facP;rw [if_pos hO, if_pos hO, pT, hT', d2, d3];exact ⟨rfl, rfl⟩
theorem nam_hd2 {tk : List Tk} {i : Nat} {s : ByteArray} {ts : TL} (hs : namB s = true) (h : (tk.drop i).map pj = (1, s.data.toList) :: ts) : namT tk ⟨i, true⟩ = s /\ namP tk ⟨i, true⟩ = ⟨i + 1, true⟩ := by
 obtain ⟨t, ht, hK, hT, pK, pT⟩ := pk_hd h;have hT' := ba_ext hT;have hN : namO tk ⟨i, true⟩ = true := by unfold namO; rw [ht]; simp only []; rw [hK, hT', hs]; rfl
 unfold namT namP;rw [if_pos hN, if_pos hN, pT, hT'];exact ⟨rfl, rfl⟩
theorem wrd_hd2 {tk : List Tk} {i : Nat} {l : List (List UInt8 × Int)} {z : Int} {ts : TL} (hz : tabI l ⟨(nmI l z).toArray⟩ = z) (h0 : ¬ z = 0) (h : (tk.drop i).map pj = (1, nmI l z) :: ts) : wrdT tk l ⟨i, true⟩ = z /\ wrdP tk l ⟨i, true⟩ = ⟨i + 1, true⟩ := by
 obtain ⟨t, ht, hK, hT, pK, pT⟩ := pk_hd h;have hT' : t.T = ⟨(nmI l z).toArray⟩ := ba_ext (by rw [hT, mk_list]);have hO : wrdO tk l ⟨i, true⟩ = true := by unfold wrdO; rw [pK, pT, hT', hz]; simp [h0]
 unfold wrdT wrdP;rw [if_pos hO, if_pos hO, pT, hT', hz];exact ⟨rfl, rfl⟩
theorem dat_hd2 {tk : List Tk} {i : Nat} {d : Int} {ts : TL} (hd : vdayB d = true) (h : (tk.drop i).map pj = (3, 64 :: (fmtD d).data.toList) :: ts) : datT tk ⟨i, true⟩ = d /\ datP tk ⟨i, true⟩ = ⟨i + 1, true⟩ := by
 obtain ⟨t, ht, hK, hT, pK, pT⟩ := pk_hd h;obtain ⟨-, f2, f3⟩ := fmt_parse hd
 have e : t.T.extract 1 t.T.size = fmtD d := ba_ext (by
  have hz : t.T.size = t.T.data.toList.length := by simp
  rw [ext_data, hz, hT, List.drop_succ_cons, List.drop_zero, List.length_cons, Nat.add_sub_cancel, List.take_length])
 unfold datT datP;rw [if_pos pK, if_pos pK, pT, e, f2];exact ⟨rfl, rfl⟩
theorem fol_pay (L : Int) (ts : TL) : Fol L ((1, kPay) :: ts) := ⟨fun _ => rfl, fun _ => rfl, fun _ => rfl, fun _ => rfl, fun _ => rfl⟩
theorem pq_hd2 {tk : List Tk} {i : Nat} {t : Ex} {ts : TL} (hF : t.form = true) (hf : Fol 0 ts) (h : (tk.drop i).map pj = t.tp 0 ++ ts) : ∃ e, t.same e = true /\ pq tk ⟨i, true⟩ = (e, ⟨i + (t.tp 0).length, true⟩) := by
 obtain ⟨e, hs, k⟩ := (tree_tg tk t hF).a0 i ts h hf;exact ⟨e, hs, k.at (by unfold md; decide) (by unfold rem; simp [cm]; omega)⟩
theorem nf {b : Bool} (h : b = false) : ¬ b = true := by rw [h]; decide
/-! Clauses -/
def CS (tk : List Tk) (v v' : Ver) (i j : Nat) : Prop := claO tk ⟨i, true⟩ = true /\ claQ tk v ⟨i, true⟩ = (v', ⟨j, true⟩)
theorem knd_z {z : Int} (h : bwB 5 10 z = true) : tabI kndL ⟨(nmI kndL z).toArray⟩ = z /\ ¬ z = 0 := by
 unfold bwB at h; simp at h
 rcases (show z = 5 \/ z = 6 \/ z = 7 \/ z = 8 \/ z = 9 \/ z = 10 by omega) with rfl | rfl | rfl | rfl | rfl | rfl <;> exact ⟨rfl, by decide⟩
theorem ben_z {z : Int} (h : bwB 1 5 z = true) : tabI benL ⟨(nmI benL z).toArray⟩ = z /\ ¬ z = 0 := by
 unfold bwB at h; simp at h
 rcases (show z = 1 \/ z = 2 \/ z = 3 \/ z = 4 \/ z = 5 by omega) with rfl | rfl | rfl | rfl | rfl <;> exact ⟨rfl, by decide⟩
theorem mod_z {z : Int} (h : bwB 1 4 z = true) : tabI modL ⟨(nmI modL z).toArray⟩ = z /\ ¬ z = 0 := by
 unfold bwB at h; simp at h
 rcases (show z = 1 \/ z = 2 \/ z = 3 \/ z = 4 by omega) with rfl | rfl | rfl | rfl <;> exact ⟨rfl, by decide⟩
theorem bw_bd {lo hi z : Int} (h : bwB lo hi z = true) : lo <= z /\ z <= hi := by unfold bwB at h; simpa using h
theorem cs_cr {tk : List Tk} {v : Ver} {i : Nat} {p : Int × Int} {ts : TL} (hV : crV p = true) (h : (tk.drop i).map pj = crK p ++ ts) : CS tk v (v.cr1 p) i (i + (crK p).length) := by
 unfold crV at hV;simp only [Bool.and_eq_true] at hV;obtain ⟨z1, z2⟩ := knd_z hV.1;have lb := bw_bd hV.2;obtain ⟨w1, w2⟩ := wrd_hd2 z1 z2 (drop_one h);have hc : accB tk kCredit ⟨i, true⟩ = true := by rw [acc_eq h]; rfl
 have h2 := drop_one (drop_one h);refine ⟨by unfold claO; rw [hc]; rfl, ?_⟩;unfold claQ;rw [if_pos hc];show ((crQ tk v ⟨i + 1, true⟩).1, expP tk kSemi (crQ tk v ⟨i + 1, true⟩).2) = _
 unfold crQ limQ;rw [w1, w2];by_cases hl : 0 < p.2
 ·rw [if_pos hl] at h2;have h3 := drop_one h2;obtain ⟨n1, n2⟩ := num_hd2 (lo := 1) (hi := 73049) (by omega) (by omega) (by omega) lb.2 h3;have h4 := drop_one h3;rw [if_pos (by rw [acc_eq h2]; rfl)];show (v.cr1 (p.1, numT tk 1 73049 ⟨i + 1 + 1 + 1, true⟩), expP tk kSemi (numP tk 1 73049 ⟨i + 1 + 1 + 1, true⟩)) = _
  rw [n1, n2, exp_eq h4 rfl];unfold crK; rw [if_pos hl]; rfl
 ·rw [if_neg hl] at h2;rw [if_neg (nf (by rw [acc_eq h2]; rfl))];show (v.cr1 (p.1, 0), expP tk kSemi ⟨i + 1 + 1, true⟩) = _
  rw [exp_eq h2 rfl];unfold crK; rw [if_neg hl];have : p.2 = 0 := by omega
  obtain ⟨a, b⟩ := p;obtain rfl : b = 0 := this;rfl
theorem cs_se {tk : List Tk} {v : Ver} {i : Nat} {p : Int × Int × Int} {ts : TL} (hV : seV p = true) (h : (tk.drop i).map pj = seK p ++ ts) : CS tk v (v.se1 p) i (i + (seK p).length) := by
 unfold seV at hV;simp only [Bool.and_eq_true, decide_eq_true_eq] at hV;have lb := bw_bd hV.1;obtain ⟨n1, n2⟩ := num_hd2 (lo := 1900) (hi := 2099) (by omega) (by omega) lb.1 lb.2 (drop_one h);obtain ⟨f1, f2⟩ := fac_hd2 hV.2.1 hV.2.2 (drop_one (drop_one h));have h4 := drop_one (drop_one (drop_one h));have hc : accB tk kIndex ⟨i, true⟩ = true := by rw [acc_eq h]; rfl
 refine ⟨by unfold claO; rw [hc]; simp, ?_⟩;unfold claQ;rw [if_neg (nf (by rw [acc_eq h]; rfl)), if_pos hc];show ((seQ tk v ⟨i + 1, true⟩).1, expP tk kSemi (seQ tk v ⟨i + 1, true⟩).2) = _
 unfold seQ;rw [n1, n2, f1, f2];show (v.se1 (p.1, (p.2.1, p.2.2)), expP tk kSemi ⟨i + 1 + 1 + 1, true⟩) = _
 rw [exp_eq h4 rfl]; rfl
theorem valid_form {t : Ex} (h : t.valid = true) : t.form = true := (valid_of h).1
def SE (p q : Ex × Go.Value) : Prop := p.1.same q.1 = true /\ p.2 = q.2
theorem cs_le {tk : List Tk} {v : Ver} {i : Nat} {p : ByteArray × (Ex × Go.Value)} {ts : TL} (hV : leV (p.1, p.2.1) = true) (h : (tk.drop i).map pj = leK p ++ ts) : ∃ q : ByteArray × (Ex × Go.Value), (p.1 = q.1 /\ SE p.2 q.2) /\ CS tk v (v.le1 (q.1, q.2.1)) i (i + (leK p).length) := by
 unfold leV at hV;simp only [Bool.and_eq_true] at hV;obtain ⟨n1, n2⟩ := nam_hd2 hV.1 (drop_one h);have h3 := drop_one (drop_one h);have h4 : (tk.drop (i + 1 + 1 + 1)).map pj = p.2.1.tp 0 ++ ((4, kSemi) :: ts) := by have := drop_one h3; simpa using this
 obtain ⟨e, hs, hq⟩ := pq_hd2 (valid_form hV.2) (fol_semi 0 ts) h4;have hc : accB tk kLet ⟨i, true⟩ = true := by rw [acc_eq h]; rfl
 refine ⟨(p.1, (e, p.2.2)), ⟨rfl, hs, rfl⟩, by unfold claO; rw [hc]; simp, ?_⟩;unfold claQ;rw [if_neg (nf (by rw [acc_eq h]; rfl)), if_neg (nf (by rw [acc_eq h]; rfl)), if_pos hc];show ((leQ tk v ⟨i + 1, true⟩).1, expP tk kSemi (leQ tk v ⟨i + 1, true⟩).2) = _
 unfold leQ;rw [n1, n2, exp_eq h3 rfl, hq];show (v.le1 (p.1, e), expP tk kSemi ⟨i + 1 + 1 + 1 + (p.2.1.tp 0).length, true⟩) = _
 rw [exp_eq (drop_app h4) rfl];unfold leK;simp only [List.length_cons, List.length_append, List.length_nil]
 congr 2; omega
theorem cs_gr {tk : List Tk} {v : Ver} {i : Nat} {p : Int × (Ex × Go.Value) × (Ex × Go.Value)} {ts : TL} (hV : grV (p.1, p.2.1.1, p.2.2.1) = true) (h : (tk.drop i).map pj = grK p ++ ts) : ∃ q : Int × (Ex × Go.Value) × (Ex × Go.Value), (p.1 = q.1 /\ SE p.2.1 q.2.1 /\ SE p.2.2 q.2.2) /\ CS tk v (v.gr1 (q.1, q.2.1.1, q.2.2.1)) i (i + (grK p).length) := by
 unfold grV at hV;simp only [Bool.and_eq_true] at hV;obtain ⟨z1, z2⟩ := ben_z hV.1;obtain ⟨w1, w2⟩ := wrd_hd2 z1 z2 (drop_one h);have h3 := drop_one (drop_one h);have h4 : (tk.drop (i + 1 + 1 + 1)).map pj = p.2.1.1.tp 0 ++ ((1, kPay) :: (p.2.2.1.tp 0 ++ ((4, kSemi) :: ts))) := by have := drop_one h3; simpa using this
 obtain ⟨e, hs, hq⟩ := pq_hd2 (valid_form hV.2.1) (fol_pay 0 _) h4;have h5 := drop_app h4;have h6 := drop_one h5;obtain ⟨e', hs', hq'⟩ := pq_hd2 (valid_form hV.2.2) (fol_semi 0 ts) h6;have hc : accB tk kGrant ⟨i, true⟩ = true := by rw [acc_eq h]; rfl
 refine ⟨(p.1, (e, p.2.1.2), (e', p.2.2.2)), ⟨rfl, ⟨hs, rfl⟩, hs', rfl⟩, by unfold claO; rw [hc]; simp, ?_⟩;unfold claQ;rw [if_neg (nf (by rw [acc_eq h]; rfl)), if_neg (nf (by rw [acc_eq h]; rfl)), if_neg (nf (by rw [acc_eq h]; rfl)), if_pos hc];show ((grQ tk v ⟨i + 1, true⟩).1, expP tk kSemi (grQ tk v ⟨i + 1, true⟩).2) = _
 unfold grQ;rw [w1, w2, exp_eq h3 rfl, hq];show (v.gr1 (p.1, e, (pq tk (expP tk kPay ⟨i + 1 + 1 + 1 + (p.2.1.1.tp 0).length, true⟩)).1), expP tk kSemi (pq tk (expP tk kPay ⟨i + 1 + 1 + 1 + (p.2.1.1.tp 0).length, true⟩)).2) = _
 rw [exp_eq h5 rfl, hq'];show (v.gr1 (p.1, e, e'), expP tk kSemi ⟨i + 1 + 1 + 1 + (p.2.1.1.tp 0).length + 1 + (p.2.2.1.tp 0).length, true⟩) = _
 rw [exp_eq (drop_app h6) rfl];unfold grK;simp only [List.length_cons, List.length_append, List.length_nil]
 congr 2; omega
theorem cs_re {tk : List Tk} {v : Ver} {i : Nat} {p : Int × (Ex × Go.Value)} {ts : TL} (hV : reV (p.1, p.2.1) = true) (h : (tk.drop i).map pj = reK p ++ ts) : ∃ q : Int × (Ex × Go.Value), (p.1 = q.1 /\ SE p.2 q.2) /\ CS tk v (v.re1 (q.1, q.2.1)) i (i + (reK p).length) := by
 unfold reV at hV;simp only [Bool.and_eq_true] at hV;obtain ⟨z1, z2⟩ := ben_z hV.1;obtain ⟨w1, w2⟩ := wrd_hd2 z1 z2 (drop_one h);have h3 := drop_one (drop_one h);have h4 : (tk.drop (i + 1 + 1 + 1)).map pj = p.2.1.tp 0 ++ ((4, kSemi) :: ts) := by have := drop_one h3; simpa using this
 obtain ⟨e, hs, hq⟩ := pq_hd2 (valid_form hV.2) (fol_semi 0 ts) h4;have hc : accB tk kReduce ⟨i, true⟩ = true := by rw [acc_eq h]; rfl
 refine ⟨(p.1, (e, p.2.2)), ⟨rfl, hs, rfl⟩, by unfold claO; rw [hc]; simp, ?_⟩;unfold claQ;rw [if_neg (nf (by rw [acc_eq h]; rfl)), if_neg (nf (by rw [acc_eq h]; rfl)), if_neg (nf (by rw [acc_eq h]; rfl)), if_neg (nf (by rw [acc_eq h]; rfl)), if_pos hc];show ((reQ tk v ⟨i + 1, true⟩).1, expP tk kSemi (reQ tk v ⟨i + 1, true⟩).2) = _
 unfold reQ;rw [w1, w2, exp_eq h3 rfl, hq];show (v.re1 (p.1, e), expP tk kSemi ⟨i + 1 + 1 + 1 + (p.2.1.tp 0).length, true⟩) = _
 rw [exp_eq (drop_app h4) rfl];unfold reK;simp only [List.length_cons, List.length_append, List.length_nil]
 congr 2; omega
def CC (tk : List Tk) (v v' : Ver) (i j : Nat) : Prop := i <= j /\ ∃ k, k <= j - i /\ ∀ f, claL tk (f + k) v ⟨i, true⟩ = claL tk f v' ⟨j, true⟩
theorem CC.refl (tk : List Tk) (v : Ver) (i : Nat) : CC tk v v i i := ⟨Nat.le_refl _, 0, Nat.zero_le _, fun _ => rfl⟩
theorem CC.trans {tk : List Tk} {u v x : Ver} {i j k : Nat} (h : CC tk u v i j) (g : CC tk v x j k) : CC tk u x i k := by
 obtain ⟨h1, a, h2, h3⟩ := h;obtain ⟨g1, b, g2, g3⟩ := g;exact ⟨Nat.le_trans h1 g1, b + a, by omega, fun f => by rw [<- Nat.add_assoc, h3, g3]⟩
theorem CS.cc {tk : List Tk} {v v' : Ver} {i j : Nat} (h : CS tk v v' i j) (hj : i < j) : CC tk v v' i j := ⟨by omega, 1, by omega, fun f => by
 show (if claO tk ⟨i, true⟩ = true then claL tk f (claQ tk v ⟨i, true⟩).1 (claQ tk v ⟨i, true⟩).2 else _) = _
 rw [if_pos h.1, h.2]⟩
theorem cc_all {α : Type} {tk : List Tk} {R : α -> α -> Prop} {V : α -> Bool} {K : α -> TL} {F : Ver -> α -> Ver} (hK : ∀ p, 0 < (K p).length) (step : ∀ (v : Ver) (p : α) (i : Nat) (ts : TL), V p = true -> (tk.drop i).map pj = K p ++ ts -> ∃ q, R p q /\ CS tk v (F v q) i (i + (K p).length)) :
  ∀ (L : List α) (v : Ver) (i : Nat) (ts : TL), L.all V = true -> (tk.drop i).map pj = L.flatMap K ++ ts -> ∃ L', Rl R L L' /\ CC tk v (L'.foldl F v) i (i + (L.flatMap K).length) := by
 intro L
 induction L with
 | nil => intro v i ts _ _; exact ⟨[], .nil, by simpa using CC.refl tk v i⟩
 | cons p L ih =>
  intro v i ts hV h;rw [List.all_cons, Bool.and_eq_true] at hV;rw [List.flatMap_cons, List.append_assoc] at h;obtain ⟨q, hq, hc⟩ := step v p i _ hV.1 h;obtain ⟨L', hL, hC⟩ := ih (F v q) (i + (K p).length) ts hV.2 (drop_app h);refine ⟨q :: L', .cons hq hL, ?_⟩;have := (hc.cc (by have := hK p; omega)).trans hC;rw [List.flatMap_cons, List.length_append, <- Nat.add_assoc];exact this
theorem claL_end {tk : List Tk} {i : Nat} {ts : TL} (h : (tk.drop i).map pj = (4, kR) :: ts) : ∀ f v, claL tk f v ⟨i, true⟩ = (v, ⟨i, true⟩) := by
 have hc : claO tk ⟨i, true⟩ = false := by unfold claO; rw [acc_eq h, acc_eq h, acc_eq h, acc_eq h, acc_eq h]; rfl
 intro f v
 cases f with
 | zero => rfl
 | succ f => show (if claO tk ⟨i, true⟩ = true then _ else _) = _; rw [if_neg (by rw [hc]; decide)]
theorem fold_cr (L : List (Int × Int)) : ∀ v : Ver, L.foldl Ver.cr1 v = { v with cr := v.cr ++ L } := by
 induction L with
 | nil => intro v; simp
 | cons p L ih => intro v; rw [List.foldl_cons, ih]; simp [Ver.cr1]
theorem fold_se (L : List (Int × Int × Int)) : ∀ v : Ver, L.foldl Ver.se1 v = { v with se := v.se ++ L } := by
 induction L with
 | nil => intro v; simp
 | cons p L ih => intro v; rw [List.foldl_cons, ih]; simp [Ver.se1]
theorem fold_le (L : List (ByteArray × (Ex × Go.Value))) : ∀ v : Ver, L.foldl (fun v q => v.le1 (q.1, q.2.1)) v = { v with le := v.le ++ L.map fun p => (p.1, p.2.1) } := by
 induction L with
 | nil => intro v; simp
 | cons p L ih => intro v; rw [List.foldl_cons, ih]; simp [Ver.le1]
theorem fold_gr (L : List (Int × (Ex × Go.Value) × (Ex × Go.Value))) : ∀ v : Ver, L.foldl (fun v q => v.gr1 (q.1, q.2.1.1, q.2.2.1)) v = { v with gr := v.gr ++ L.map fun p => (p.1, p.2.1.1, p.2.2.1) } := by
 induction L with
 | nil => intro v; simp
 | cons p L ih => intro v; rw [List.foldl_cons, ih]; simp [Ver.gr1]
theorem fold_re (L : List (Int × (Ex × Go.Value))) : ∀ v : Ver, L.foldl (fun v q => v.re1 (q.1, q.2.1)) v = { v with re := v.re ++ L.map fun p => (p.1, p.2.1) } := by
 induction L with
 | nil => intro v; simp
 | cons p L ih => intro v; rw [List.foldl_cons, ih]; simp [Ver.re1]
theorem rl_eq {α : Type} {L M : List α} (h : Rl (fun a b => a = b) L M) : L = M := by
 induction h with
 | nil => rfl
 | cons h _ ih => rw [h, ih]
structure SVb (m n : VerM) : Prop where
 le : Rl (fun p q => p.1 = q.1 /\ SE p.2 q.2) m.le n.le
 gr : Rl (fun p q => p.1 = q.1 /\ SE p.2.1 q.2.1 /\ SE p.2.2 q.2.2) m.gr n.gr
 re : Rl (fun p q => p.1 = q.1 /\ SE p.2 q.2) m.re n.re
 e : n = { m with le := n.le, gr := n.gr, re := n.re }
theorem verQ_hd {tk : List Tk} {m : VerM} {i : Nat} {ts : TL} (hV : m.pl.valid = true) (h : (tk.drop i).map pj = verK m ++ ts) : accB tk kFrom ⟨i, true⟩ = true /\ ∃ n, SVb m n /\ verQ tk ⟨i + 1, true⟩ = (n.pl, ⟨i + (verK m).length, true⟩) := by
 unfold Ver.valid at hV;simp only [Bool.and_eq_true, VerM.pl, List.all_map, Function.comp_def] at hV;obtain ⟨⟨hf, hmo, hu⟩, -, hcr, hse, hle, hgr, hre⟩ := hV;have bu := bw_bd hu;have bf := bw_bd hf;obtain ⟨z1, z2⟩ := mod_z hmo;have h1 := drop_one h;have h2 := drop_one h1;have h3 := drop_one h2;have h4 := drop_one h3;have h5 := drop_one h4;have h6 := drop_one h5;have h7 : (tk.drop (i + 1 + 1 + 1 + 1 + 1 + 1 + 1)).map pj = m.cr.flatMap crK ++ (m.se.flatMap seK ++ (m.le.flatMap leK ++ (m.gr.flatMap grK ++ (m.re.flatMap reK ++ (4, kR) :: ts)))) := by have := drop_one h6; simpa using this
 obtain ⟨d1, d2⟩ := dat_hd2 (by unfold vdayB; simp; omega) h1;obtain ⟨w1, w2⟩ := wrd_hd2 z1 z2 h4;obtain ⟨n1, n2⟩ := num_hd2 (lo := 1) (hi := 100000) (by omega) bu.2 bu.1 bu.2 h5
 have hH : verH tk ⟨i + 1, true⟩ = (⟨m.frm, m.mode, m.unit, [], [], [], [], []⟩, ⟨i + 1 + 1 + 1 + 1 + 1 + 1 + 1, true⟩) := by
  simp only [verH];rw [d1, d2, exp_eq h2 rfl, exp_eq h3 rfl, w1, w2, n1, n2, exp_eq h6 rfl]
 obtain ⟨L1, r1, c1⟩ := cc_all (tk := tk) (R := fun a b => a = b) (V := crV) (K := crK) (F := Ver.cr1) (fun p => by simp [crK]) (fun v p i ts hp h => ⟨p, rfl, cs_cr hp h⟩) m.cr ⟨m.frm, m.mode, m.unit, [], [], [], [], []⟩ _ _ hcr h7;obtain rfl := rl_eq r1;have h8 := drop_app h7;obtain ⟨L2, r2, c2⟩ := cc_all (tk := tk) (R := fun a b => a = b) (V := seV) (K := seK) (F := Ver.se1) (fun p => by simp [seK]) (fun v p i ts hp h => ⟨p, rfl, cs_se hp h⟩) m.se (m.cr.foldl Ver.cr1 ⟨m.frm, m.mode, m.unit, [], [], [], [], []⟩) _ _ hse h8;obtain rfl := rl_eq r2;have h9 := drop_app h8;obtain ⟨L3, r3, c3⟩ := cc_all (tk := tk) (V := fun p => leV (p.1, p.2.1)) (K := leK) (F := fun v q => v.le1 (q.1, q.2.1)) (fun p => by simp [leK]) (fun v p i ts hp h => cs_le hp h) m.le (m.se.foldl Ver.se1 (m.cr.foldl Ver.cr1 ⟨m.frm, m.mode, m.unit, [], [], [], [], []⟩)) _ _ hle h9;have h10 := drop_app h9;obtain ⟨L4, r4, c4⟩ := cc_all (tk := tk) (V := fun p => grV (p.1, p.2.1.1, p.2.2.1)) (K := grK) (F := fun v q => v.gr1 (q.1, q.2.1.1, q.2.2.1)) (fun p => by simp [grK]) (fun v p i ts hp h => cs_gr hp h) m.gr (L3.foldl (fun v q => v.le1 (q.1, q.2.1)) (m.se.foldl Ver.se1 (m.cr.foldl Ver.cr1 ⟨m.frm, m.mode, m.unit, [], [], [], [], []⟩))) _ _ hgr h10;have h11 := drop_app h10;obtain ⟨L5, r5, c5⟩ := cc_all (tk := tk) (V := fun p => reV (p.1, p.2.1)) (K := reK) (F := fun v q => v.re1 (q.1, q.2.1)) (fun p => by simp [reK]) (fun v p i ts hp h => cs_re hp h) m.re (L4.foldl (fun v q => v.gr1 (q.1, q.2.1.1, q.2.2.1)) (L3.foldl (fun v q => v.le1 (q.1, q.2.1)) (m.se.foldl Ver.se1 (m.cr.foldl Ver.cr1 ⟨m.frm, m.mode, m.unit, [], [], [], [], []⟩)))) _ _ hre h11;have h12 := drop_app h11;obtain ⟨g1, k, g2, g3⟩ := (((c1.trans c2).trans c3).trans c4).trans c5;refine ⟨by rw [acc_eq h]; rfl, { m with le := L3, gr := L4, re := L5 }, ⟨r3, r4, r5, rfl⟩, ?_⟩;unfold verQ;rw [hH];dsimp only;have hj := congrArg List.length h12;simp only [List.length_map, List.length_drop, List.length_append, List.length_cons] at hj;have hk : tk.length + 1 = (tk.length + 1 - k) + k := by omega
 rw [hk, g3, claL_end h12];dsimp only;rw [exp_eq h12 rfl, fold_cr, fold_se, fold_le, fold_gr, fold_re];refine Prod.ext ?_ ?_
 ·simp [VerM.pl]
 ·show (⟨_, true⟩ : Pt) = ⟨_, true⟩
  congr 1
  unfold verK;simp only [List.length_cons, List.length_append, List.length_nil];omega
theorem verL_hd {tk : List Tk} : ∀ (L : List VerM) (l : List Ver) (i f : Nat) (ts : TL), L.all (fun m => m.pl.valid) = true -> (tk.drop i).map pj = L.flatMap verK ++ (4, kR) :: ts -> L.length < f -> ∃ L', Rl SVb L L' /\ verL tk f l ⟨i, true⟩ = (l ++ L'.map VerM.pl, ⟨i + (L.flatMap verK).length, true⟩) := by
 intro L
 induction L with
 | nil =>
  intro l i f ts _ h hf;obtain ⟨g, rfl⟩ : ∃ g, f = g + 1 := ⟨f - 1, by simp at hf; omega⟩;have h' : (tk.drop i).map pj = (4, kR) :: ts := h;refine ⟨[], .nil, ?_⟩;show (if accB tk kFrom ⟨i, true⟩ = true then _ else (l, (⟨i, true⟩ : Pt))) = _
  rw [if_neg (nf (by rw [acc_eq h']; rfl))]
  simp
 | cons m L ih =>
  intro l i f ts hV h hf;rw [List.all_cons, Bool.and_eq_true] at hV;rw [List.flatMap_cons, List.append_assoc] at h;obtain ⟨a, n, hn, hq⟩ := verQ_hd hV.1 h;rw [List.length_cons] at hf;obtain ⟨g, rfl⟩ : ∃ g, f = g + 1 := ⟨f - 1, by omega⟩;obtain ⟨L', hL, e⟩ := ih (l ++ [n.pl]) (i + (verK m).length) g ts hV.2 (drop_app h) (by omega);refine ⟨n :: L', .cons hn hL, ?_⟩;show (if accB tk kFrom ⟨i, true⟩ = true then verL tk g (l ++ [(verQ tk ⟨i + 1, true⟩).1]) (verQ tk ⟨i + 1, true⟩).2 else _) = _
  rw [if_pos a, hq];dsimp only;rw [e, List.flatMap_cons, List.length_append];simp [Nat.add_assoc]
structure SS (s t : StaM) : Prop where
 vs : Rl SVb s.vs t.vs
 e : t = { s with vs := t.vs }
theorem staQ_hd {tk : List Tk} {s : StaM} (hV : s.pl.valid = true) (h : tk.map pj = staK s) : ∃ t, SS s t /\ staQ tk = (t.pl, ⟨tk.length, true⟩) := by
 unfold Sta.valid at hV;simp only [Bool.and_eq_true, StaM.pl, List.all_map, Function.comp_def, decide_eq_true_eq, List.length_map] at hV;obtain ⟨hn, hc, hv1, hv6, hvs⟩ := hV;have bc := bw_bd hc;have h0 : (tk.drop 0).map pj = staK s := by rw [List.drop_zero]; exact h
 have h1 := drop_one h0;have h2 := drop_one h1;have h3 := drop_one h2;have h4 := drop_one h3;have h5 := drop_one h4;obtain ⟨n1, n2⟩ := nam_hd2 hn h1;obtain ⟨c1, c2⟩ := num_hd2 (lo := 1) (hi := 999) (by omega) (by omega) bc.1 bc.2 h3
 cases hvv : s.vs with
 | nil => rw [hvv] at hv1; simp at hv1
 | cons m L =>
  rw [hvv] at h5 hvs;rw [List.flatMap_cons, List.append_assoc] at h5;rw [List.all_cons, Bool.and_eq_true] at hvs;obtain ⟨a, n, hn', hq⟩ := verQ_hd hvs.1 h5;have h6 := drop_app h5;have hl6 := congrArg List.length h6
  have hlv : ∀ L : List VerM, L.length <= (L.flatMap verK).length := fun L => by
   induction L with
   | nil => simp
   | cons m L ih =>
    have : 0 < (verK m).length := by simp [verK]
    rw [List.flatMap_cons, List.length_append, List.length_cons]; omega
  have hlL := hlv L;simp only [List.length_map, List.length_drop, List.length_append, List.length_cons] at hl6;obtain ⟨L', hL, e⟩ := verL_hd L [n.pl] _ (tk.length + 1) [] hvs.2 h6 (by omega);refine ⟨{ s with vs := n :: L' }, ⟨by rw [hvv]; exact .cons hn' hL, rfl⟩, ?_⟩;have h7 := drop_app h6;simp only [staQ];rw [exp_eq h0 rfl, n1, n2, exp_eq h2 rfl, c1, c2, exp_eq h4 rfl];have ha : expP tk kFrom ⟨0 + 1 + 1 + 1 + 1 + 1, true⟩ = ⟨0 + 1 + 1 + 1 + 1 + 1 + 1, true⟩ := by unfold expP; rw [if_pos a]; rfl
  rw [ha, hq];dsimp only;rw [e];dsimp only;rw [exp_eq h7 rfl];refine Prod.ext ?_ ?_
  ·simp [StaM.pl]
  ·show (⟨_, true⟩ : Pt) = ⟨_, true⟩
   congr 1
   have hl7 := congrArg List.length h7;simp only [List.length_map, List.length_drop, List.length_cons, List.length_nil] at hl7;omega
def crB (p : Int × Int) : List UInt8 := 32 :: 32 :: 32 :: 32 :: (kCredit ++ 32 :: (nmI kndL p.1 ++ ((if 0 < p.2 then 32 :: (kLimit ++ 32 :: (fmtS p.2 1).data.toList) else []) ++ [59, 10])))
def seB (p : Int × Int × Int) : List UInt8 := 32 :: 32 :: 32 :: 32 :: (kIndex ++ 32 :: ((fmtS p.1 1).data.toList ++ 32 :: ((fdT p.2.1 p.2.2 2).data.toList ++ [59, 10])))
noncomputable def leB (p : ByteArray × (Ex × Go.Value)) : List UInt8 := 32 :: 32 :: 32 :: 32 :: (kLet ++ 32 :: (p.1.data.toList ++ 32 :: 61 :: 32 :: ((p.2.1.put 0).data.toList ++ [59, 10])))
noncomputable def grB (p : Int × (Ex × Go.Value) × (Ex × Go.Value)) : List UInt8 := 32 :: 32 :: 32 :: 32 :: (kGrant ++ 32 :: (nmI benL p.1 ++ 32 :: (kIf ++ 32 :: ((p.2.1.1.put 0).data.toList ++ 32 :: (kPay ++ 32 :: ((p.2.2.1.put 0).data.toList ++ [59, 10]))))))
noncomputable def reB (p : Int × (Ex × Go.Value)) : List UInt8 := 32 :: 32 :: 32 :: 32 :: (kReduce ++ 32 :: (nmI benL p.1 ++ 32 :: (kBy ++ 32 :: ((p.2.1.put 0).data.toList ++ [59, 10]))))
noncomputable def verB (m : VerM) : List UInt8 := 32 :: 32 :: (kFrom ++ 32 :: 64 :: ((fmtD m.frm).data.toList ++ 32 :: 123 :: 10 :: 32 :: 32 :: 32 :: 32 :: (kRound ++ 32 :: (nmI modL m.mode ++ 32 :: ((fmtS m.unit 1).data.toList ++ 59 :: 10 :: (m.cr.flatMap crB ++ (m.se.flatMap seB ++ (m.le.flatMap leB ++ (m.gr.flatMap grB ++ (m.re.flatMap reB ++ [32, 32, 125, 10]))))))))))
noncomputable def staB (s : StaM) : List UInt8 := kStatute ++ 32 :: (s.nm.data.toList ++ 32 :: (kCurrency ++ 32 :: ((fmtS s.cur 1).data.toList ++ 32 :: 123 :: 10 :: (s.vs.flatMap verB ++ [125, 10]))))
theorem fold_ls {α : Type} {f : ByteArray -> α -> ByteArray} {g : α -> List UInt8} (h : ∀ s p, (f s p).data.toList = s.data.toList ++ g p) : ∀ (L : List α) (s : ByteArray), (L.foldl f s).data.toList = s.data.toList ++ L.flatMap g := by
 intro L
 induction L with
 | nil => intro s; simp
 | cons p L ih => intro s; rw [List.foldl_cons, ih, h, List.flatMap_cons, List.append_assoc]
theorem cr_ls (s : ByteArray) (p : Int × Int) : (crT s p).data.toList = s.data.toList ++ crB p := by
 unfold crT crB wdT kCredit kLimit
 split <;> simp
theorem se_ls (s : ByteArray) (p : Int × Int × Int) : (seT s p).data.toList = s.data.toList ++ seB p := by
 unfold seT seB kIndex; simp
theorem le_ls (s : ByteArray) (p : ByteArray × (Ex × Go.Value)) : (leT s p).data.toList = s.data.toList ++ leB p := by
 unfold leT leB kLet; simp
theorem gr_ls (s : ByteArray) (p : Int × (Ex × Go.Value) × (Ex × Go.Value)) : (grT s p).data.toList = s.data.toList ++ grB p := by
 unfold grT grB wdT kGrant kIf kPay; simp
theorem re_ls (s : ByteArray) (p : Int × (Ex × Go.Value)) : (reT s p).data.toList = s.data.toList ++ reB p := by
 unfold reT reB wdT kReduce kBy; simp
theorem ver_ls (s : ByteArray) (m : VerM) : (verT s m).data.toList = s.data.toList ++ verB m := by
 unfold verT;rw [show ∀ a b : ByteArray, (a ++ b).data.toList = a.data.toList ++ b.data.toList from fun a b => by simp, fold_ls re_ls, fold_ls gr_ls, fold_ls le_ls, fold_ls se_ls, fold_ls cr_ls];unfold hdT verB wdT kFrom kRound; simp
theorem sta_ls (s : StaM) : (staT s).data.toList = staB s := by
 unfold staT;rw [show ∀ a b : ByteArray, (a ++ b).data.toList = a.data.toList ++ b.data.toList from fun a b => by simp, fold_ls ver_ls];unfold staB kStatute kCurrency; simp
/-! Tokens -/
theorem lx_nl {l : List UInt8} {ts : TL} (hl : Lx l ts) : Lx (10 :: l) ts := .blank rfl (by decide) hl
theorem lx_end {l : List UInt8} {ts : TL} (hl : Lx l ts) : Lx (59 :: 10 :: l) ((4, kSemi) :: ts) := lx_one 59 (by decide) (by decide) (by decide) (lx_nl hl)
theorem af_sp (l : List UInt8) : Aft (32 :: l) := fun c m e => by injection e with e1; exact .inl e1.symm
theorem af_se (l : List UInt8) : Aft (59 :: l) := fun c m e => by injection e with e1; exact .inr (.inr (.inr (.inl e1.symm)))
theorem lx_num {a : Int} (h0 : 0 <= a) (h1 : a <= 100000) {l : List UInt8} {ts : TL} (ha : Aft l) (hl : Lx l ts) : Lx ((fmtS a 1).data.toList ++ l) ((2, (fmtS a 1).data.toList) :: ts) := by
 obtain ⟨b1, b2⟩ := num_one h0 h1;rw [b2]; exact lx_lit b1 ha.n hl
theorem knd_ok {z : Int} (h : bwB 5 10 z = true) : okL (nmI kndL z) = true /\ ¬ nmI kndL z = [] /\ (nmI kndL z).length <= 12 := by
 have := bw_bd h
 rcases (show z = 5 \/ z = 6 \/ z = 7 \/ z = 8 \/ z = 9 \/ z = 10 by omega) with rfl | rfl | rfl | rfl | rfl | rfl <;> decide
theorem ben_ok {z : Int} (h : bwB 1 5 z = true) : okL (nmI benL z) = true /\ ¬ nmI benL z = [] /\ (nmI benL z).length <= 12 := by
 have := bw_bd h
 rcases (show z = 1 \/ z = 2 \/ z = 3 \/ z = 4 \/ z = 5 by omega) with rfl | rfl | rfl | rfl | rfl <;> decide
theorem mod_ok {z : Int} (h : bwB 1 4 z = true) : okL (nmI modL z) = true /\ ¬ nmI modL z = [] /\ (nmI modL z).length <= 12 := by
 have := bw_bd h
 rcases (show z = 1 \/ z = 2 \/ z = 3 \/ z = 4 by omega) with rfl | rfl | rfl | rfl <;> decide
theorem lx_w {w : List UInt8} (h : okL w = true /\ ¬ w = [] /\ w.length <= 12) {l : List UInt8} {ts : TL} (ha : Aft l) (hl : Lx l ts) : Lx (w ++ l) ((1, w) :: ts) := lx_word w h.1 h.2.1 h.2.2 ha.w hl
theorem lx_ws {w : List UInt8} (h : okL w = true /\ ¬ w = [] /\ w.length <= 12) {l : List UInt8} {ts : TL} (hl : Lx l ts) : Lx (w ++ 32 :: l) ((1, w) :: ts) := lx_w h (af_sp l) (lx_sp hl)
theorem lx_4 {l : List UInt8} {ts : TL} (hl : Lx l ts) : Lx (32 :: 32 :: 32 :: 32 :: l) ts := lx_sp (lx_sp (lx_sp (lx_sp hl)))
theorem cr_lx {p : Int × Int} (hV : crV p = true) {l : List UInt8} {ts : TL} (hl : Lx l ts) : Lx (crB p ++ l) (crK p ++ ts) := by
 unfold crV at hV;simp only [Bool.and_eq_true] at hV;have lb := bw_bd hV.2;have hk := knd_ok hV.1;unfold crB crK;by_cases h : 0 < p.2
 ·rw [if_pos h, if_pos h];simp only [List.cons_append, List.append_assoc, List.nil_append];exact lx_4 (lx_ws (by decide) (lx_ws hk (lx_ws (by decide) (lx_num (by omega) (by omega) (af_se _) (lx_end hl)))))
 ·rw [if_neg h, if_neg h];simp only [List.cons_append, List.append_assoc, List.nil_append];exact lx_4 (lx_ws (by decide) (lx_w hk (af_se _) (lx_end hl)))
theorem se_lx {p : Int × Int × Int} (hV : seV p = true) {l : List UInt8} {ts : TL} (hl : Lx l ts) : Lx (seB p ++ l) (seK p ++ ts) := by
 unfold seV at hV;simp only [Bool.and_eq_true, decide_eq_true_eq] at hV;have lb := bw_bd hV.1;unfold seB seK;simp only [List.cons_append, List.append_assoc, List.nil_append];exact lx_4 (lx_ws (by decide) (lx_num (by omega) (by omega) (af_sp _) (lx_sp (lx_lit hV.2.1 (af_se _).n (lx_end hl)))))
theorem le_lx {p : ByteArray × (Ex × Go.Value)} (hV : leV (p.1, p.2.1) = true) {l : List UInt8} {ts : TL} (hl : Lx l ts) : Lx (leB p ++ l) (leK p ++ ts) := by
 unfold leV at hV;simp only [Bool.and_eq_true] at hV;unfold leB leK;simp only [List.cons_append, List.append_assoc, List.nil_append];exact lx_4 (lx_ws (by decide) (lx_ws (okL_name hV.1) (lx_one 61 (by decide) (by decide) (by decide) (lx_sp (put_lx (valid_form hV.2) 0 (af_se _) (lx_end hl))))))
theorem gr_lx {p : Int × (Ex × Go.Value) × (Ex × Go.Value)} (hV : grV (p.1, p.2.1.1, p.2.2.1) = true) {l : List UInt8} {ts : TL} (hl : Lx l ts) : Lx (grB p ++ l) (grK p ++ ts) := by
 unfold grV at hV;simp only [Bool.and_eq_true] at hV;unfold grB grK;simp only [List.cons_append, List.append_assoc, List.nil_append];exact lx_4 (lx_ws (by decide) (lx_ws (ben_ok hV.1) (lx_ws (by decide) (put_lx (valid_form hV.2.1) 0 (af_sp _) (lx_sp (lx_ws (by decide) (put_lx (valid_form hV.2.2) 0 (af_se _) (lx_end hl))))))))
theorem re_lx {p : Int × (Ex × Go.Value)} (hV : reV (p.1, p.2.1) = true) {l : List UInt8} {ts : TL} (hl : Lx l ts) : Lx (reB p ++ l) (reK p ++ ts) := by
 unfold reV at hV;simp only [Bool.and_eq_true] at hV;unfold reB reK;simp only [List.cons_append, List.append_assoc, List.nil_append];exact lx_4 (lx_ws (by decide) (lx_ws (ben_ok hV.1) (lx_ws (by decide) (put_lx (valid_form hV.2) 0 (af_se _) (lx_end hl)))))
theorem all_lx {α : Type} {V : α -> Bool} {g : α -> List UInt8} {K : α -> TL} (h : ∀ (p : α) (l : List UInt8) (ts : TL), V p = true -> Lx l ts -> Lx (g p ++ l) (K p ++ ts)) : ∀ (L : List α) (l : List UInt8) (ts : TL), L.all V = true -> Lx l ts -> Lx (L.flatMap g ++ l) (L.flatMap K ++ ts) := by
 intro L
 induction L with
 | nil => intro l ts _ hl; exact hl
 | cons p L ih =>
  intro l ts hV hl;rw [List.all_cons, Bool.and_eq_true] at hV;rw [List.flatMap_cons, List.flatMap_cons, List.append_assoc, List.append_assoc];exact h p _ _ hV.1 (ih l ts hV.2 hl)
theorem ver_lx {m : VerM} (hV : m.pl.valid = true) {l : List UInt8} {ts : TL} (hl : Lx l ts) : Lx (verB m ++ l) (verK m ++ ts) := by
 unfold Ver.valid at hV;simp only [Bool.and_eq_true, VerM.pl, List.all_map, Function.comp_def] at hV;obtain ⟨⟨hf, hmo, hu⟩, -, hcr, hse, hle, hgr, hre⟩ := hV;have bu := bw_bd hu;have bf := bw_bd hf;obtain ⟨d1, -, d3⟩ := fmt_parse (show vdayB m.frm = true by unfold vdayB; simp; omega);unfold verB verK;simp only [List.cons_append, List.append_assoc, List.nil_append];refine lx_sp (lx_sp (lx_ws (by decide) (.date rfl d3 (by rw [show (⟨(fmtD m.frm).data.toList.toArray⟩ : ByteArray) = fmtD m.frm from ba_ext (by rw [mk_list])]; exact d1) (lx_sp (lx_one 123 (by decide) (by decide) (by decide) (lx_nl (lx_4 (lx_ws (by decide) (lx_ws (mod_ok hmo) (lx_num (by omega) bu.2 (af_se _) (lx_end ?_)))))))))));refine all_lx (V := crV) (fun p l ts h hl => cr_lx h hl) _ _ _ hcr (all_lx (V := seV) (fun p l ts h hl => se_lx h hl) _ _ _ hse (all_lx (V := fun p => leV (p.1, p.2.1)) (fun p l ts h hl => le_lx h hl) _ _ _ hle (all_lx (V := fun p => grV (p.1, p.2.1.1, p.2.2.1)) (fun p l ts h hl => gr_lx h hl) _ _ _ hgr (all_lx (V := fun p => reV (p.1, p.2.1)) (fun p l ts h hl => re_lx h hl) _ _ _ hre ?_))));exact lx_sp (lx_sp (lx_one 125 (by decide) (by decide) (by decide) (lx_nl hl)))
theorem sta_lx {s : StaM} (hV : s.pl.valid = true) : Lx (staT s).data.toList (staK s) := by
 rw [sta_ls];unfold Sta.valid at hV;simp only [Bool.and_eq_true, StaM.pl, List.all_map, Function.comp_def, decide_eq_true_eq, List.length_map] at hV;obtain ⟨hn, hc, -, -, hvs⟩ := hV;have bc := bw_bd hc;unfold staB staK;exact lx_ws (by decide) (lx_ws (okL_name hn) (lx_ws (by decide) (lx_num (by omega) (by omega) (af_sp _) (lx_sp (lx_one 123 (by decide) (by decide) (by decide) (lx_nl (all_lx (V := fun m => m.pl.valid) (fun m l ts h hl => ver_lx h hl) _ _ _ hvs (lx_one 125 (by decide) (by decide) (by decide) (lx_nl .nil)))))))))
/-! Back -/
theorem rl_len {α : Type} {R : α -> α -> Prop} {L M : List α} (h : Rl R L M) : L.length = M.length := by
 induction h with
 | nil => rfl
 | cons _ _ ih => rw [List.length_cons, List.length_cons, ih]
theorem rl_all {α : Type} {R : α -> α -> Prop} {f : α -> Bool} (hf : ∀ p q, R p q -> f p = f q) {L M : List α} (h : Rl R L M) : L.all f = M.all f := by
 induction h with
 | nil => rfl
 | cons h _ ih => rw [List.all_cons, List.all_cons, hf _ _ h, ih]
theorem SVb.valid {m n : VerM} (h : SVb m n) : m.pl.valid = n.pl.valid := by
 have hl : m.le.all (fun p => leV (p.1, p.2.1)) = n.le.all (fun p => leV (p.1, p.2.1)) := rl_all (fun p q hq => by unfold leV; simp only []; rw [hq.1, same_valid hq.2.1]) h.le;have hg : m.gr.all (fun p => grV (p.1, p.2.1.1, p.2.2.1)) = n.gr.all (fun p => grV (p.1, p.2.1.1, p.2.2.1)) := rl_all (fun p q hq => by unfold grV; simp only []; rw [hq.1, same_valid hq.2.1.1, same_valid hq.2.2.1]) h.gr;have hr : m.re.all (fun p => reV (p.1, p.2.1)) = n.re.all (fun p => reV (p.1, p.2.1)) := rl_all (fun p q hq => by unfold reV; simp only []; rw [hq.1, same_valid hq.2.1]) h.re;have e1 := rl_len h.le;have e2 := rl_len h.gr;have e3 := rl_len h.re;rw [h.e];unfold Ver.valid VerM.pl;simp only [List.all_map, Function.comp_def, List.length_map];rw [hl, hg, hr, e1, e2, e3]
theorem SS.valid {s t : StaM} (h : SS s t) : s.pl.valid = t.pl.valid := by
 have hv : s.vs.all (fun m => m.pl.valid) = t.vs.all (fun m => m.pl.valid) := rl_all (fun p q hq => hq.valid) h.vs;have e1 := rl_len h.vs;rw [h.e];unfold Sta.valid StaM.pl;simp only [List.all_map, Function.comp_def, List.length_map];rw [hv, e1]
theorem staV_back {s : StaM} (hV : s.pl.valid = true) (hz : (staT s).size <= 8000) : ∃ t, SS s t /\ t.pl.valid = true /\ staV (staT s) = (t.pl, 0, 0) := by
 obtain ⟨l, ha, hm⟩ := lx_allR hz (sta_lx hV);obtain ⟨t, ht, hq⟩ := staQ_hd hV hm;refine ⟨t, ht, by rw [<- ht.valid]; exact hV, ?_⟩;unfold staV;rw [ha];simp only [];rw [hq, if_pos trivial];simp only [];rw [if_pos (by unfold finB; simp), if_pos (by rw [<- ht.valid]; exact hV)]
end Go.Proofs.YthmlhheceihcbaaGreatDoor
namespace Go.Proofs.YthmlhheceihcbaaGreatDoor
set_option maxHeartbeats 16000000
open Go.RowKit Cal Str Tok Frac Txt Tree Go.Proofs.Tryz
set_option linter.unusedVariables false
set_option linter.unusedSimpArgs false
theorem kid_eqs {P : Nat -> Prop} {t e : Ex} {w : World} {x : Value} (h : t.same e = true) (k : ExKidsB P t w x) : t.op = e.op /\ t.va = e.va /\ t.vb = e.vb /\ t.dm = e.dm /\ t.nm = e.nm := by
 cases t with
 | no => exact k.elim
 | mk op a b d s n kid =>
  obtain ⟨kid', rfl, -⟩ := same_mk h;exact ⟨rfl, rfl, rfl, rfl, rfl⟩
theorem kids_same {P : Nat -> Prop} {w : World} {t : Ex} : ∀ {e : Ex} {x : Value}, t.same e = true -> ExKidsB P t w x -> ExKidsB P e w x := by
 induction t with
 | no => intro e x _ k; exact k.elim
 | mk op a b d s n kid ih =>
  intro e x h k;obtain ⟨kid', rfl, hk⟩ := same_mk h;obtain ⟨h1, h2, ad, cap, rfl, hc⟩ := k;refine ⟨h1, h2, ad, cap, rfl, fun h0 => ?_⟩;obtain ⟨g, off, rfl, hg, hp, hc⟩ := hc h0;refine ⟨g, off, rfl, hg, hp, fun i hi => ?_⟩;obtain ⟨xi, h6, hx⟩ := hc i hi;obtain ⟨e1, e2, e3, e4, e5⟩ := kid_eqs (hk i hi) hx;exact ⟨xi, by rw [<- e1, <- e2, <- e3, <- e4, <- e5]; exact h6, ih i (hk i hi) hx⟩
theorem TxB.same {P : Nat -> Prop} {w : World} {p q : Ex × Value} (h : SE p q) (k : TxB P w p) : TxB P w q /\ cel p = cel q := by
 obtain ⟨t, x⟩ := p;obtain ⟨e, y⟩ := q;obtain ⟨h1, rfl⟩ := h;obtain ⟨e1, e2, e3, e4, e5⟩ := kid_eqs h1 k.1;refine ⟨⟨kids_same h1 k.1, ?_⟩, ?_⟩
 ·rw [<- (same_meas _ _ h1).2.1]; exact k.2
 ·unfold cel;simp only [];rw [e1, e2, e3, e4, e5]
theorem rl_mem {α : Type} {R : α -> α -> Prop} {L M : List α} (h : Rl R L M) : ∀ q ∈ M, ∃ p ∈ L, R p q := by
 induction h with
 | nil => intro q hq; cases hq
 | cons h _ ih =>
  intro q hq
  rcases List.mem_cons.1 hq with rfl | hq
  ·exact ⟨_, by simp, h⟩
  ·obtain ⟨p, hp, hr⟩ := ih q hq;exact ⟨p, by simp [hp], hr⟩
theorem rl_flat {α β : Type} {R : α -> α -> Prop} {c : α -> List β} {L M : List α} (h : Rl R L M) : (∀ p ∈ L, ∀ q, R p q -> c p = c q) -> L.flatMap c = M.flatMap c := by
 induction h with
 | nil => intro _; rfl
 | cons h _ ih => intro hc; rw [List.flatMap_cons, List.flatMap_cons, hc _ (by simp) _ h, ih fun p hp => hc p (by simp [hp])]
theorem le_same {P : Nat -> Prop} {w : World} {p q : ByteArray × (Ex × Value)} (h : p.1 = q.1 /\ SE p.2 q.2) (k : LeB P w p) : LeB P w q /\ leC p = leC q := by
 obtain ⟨h1, h2⟩ := TxB.same h.2 k.2;exact ⟨⟨by rw [<- h.1]; exact k.1, h1⟩, by show .string p.1 :: cel p.2 = .string q.1 :: cel q.2; rw [h.1, h2]⟩
theorem gr_same {P : Nat -> Prop} {w : World} {p q : Int × (Ex × Value) × (Ex × Value)} (h : p.1 = q.1 /\ SE p.2.1 q.2.1 /\ SE p.2.2 q.2.2) (k : GrB P w p) : GrB P w q /\ grC p = grC q := by
 obtain ⟨h1, h2⟩ := TxB.same h.2.1 k.2.1;obtain ⟨h3, h4⟩ := TxB.same h.2.2 k.2.2;exact ⟨⟨by rw [<- h.1]; exact k.1, h1, h3⟩, by show .int .i64 p.1 :: (cel p.2.1 ++ cel p.2.2) = .int .i64 q.1 :: (cel q.2.1 ++ cel q.2.2); rw [h.1, h2, h4]⟩
theorem re_same {P : Nat -> Prop} {w : World} {p q : Int × (Ex × Value)} (h : p.1 = q.1 /\ SE p.2 q.2) (k : ReB P w p) : ReB P w q /\ reC p = reC q := by
 obtain ⟨h1, h2⟩ := TxB.same h.2 k.2;exact ⟨⟨by rw [<- h.1]; exact k.1, h1⟩, by show .int .i64 p.1 :: cel p.2 = .int .i64 q.1 :: cel q.2; rw [h.1, h2]⟩
theorem VerB.same {P : Nat -> Prop} {w : World} {m n : VerM} (h : SVb m n) (k : VerB P w m) : VerB P w n /\ verC m = verC n := by
 have l2 := rl_len h.le;have l3 := rl_len h.gr;have l4 := rl_len h.re;have f2 : m.le.flatMap leC = n.le.flatMap leC := rl_flat h.le fun p hp q hq => (le_same hq (k.b2 p hp)).2
 have f3 : m.gr.flatMap grC = n.gr.flatMap grC := rl_flat h.gr fun p hp q hq => (gr_same hq (k.b3 p hp)).2
 have f4 : m.re.flatMap reC = n.re.flatMap reC := rl_flat h.re fun p hp q hq => (re_same hq (k.b4 p hp)).2
 have b2 : ∀ q ∈ n.le, LeB P w q := fun q hq => by obtain ⟨p, hp, hr⟩ := rl_mem h.le q hq; exact (le_same hr (k.b2 p hp)).1
 have b3 : ∀ q ∈ n.gr, GrB P w q := fun q hq => by obtain ⟨p, hp, hr⟩ := rl_mem h.gr q hq; exact (gr_same hr (k.b3 p hp)).1
 have b4 : ∀ q ∈ n.re, ReB P w q := fun q hq => by obtain ⟨p, hp, hr⟩ := rl_mem h.re q hq; exact (re_same hr (k.b4 p hp)).1
 have e := h.e;generalize n.le = L2 at *;generalize n.gr = L3 at *;generalize n.re = L4 at *;subst e;exact ⟨⟨k.i0, k.i1, k.i2, k.n0, k.n1, l2 ▸ k.n2, l3 ▸ k.n3, l4 ▸ k.n4, k.r0, k.r1, f2 ▸ k.r2, f3 ▸ k.r3, f4 ▸ k.r4, k.b0, k.b1, b2, b3, b4, k.q0, k.q1, l2 ▸ k.q2, l3 ▸ k.q3, l4 ▸ k.q4⟩, by unfold verC; simp only []; rw [l2, l3, l4]⟩
theorem StaB.same {P : Nat -> Prop} {w : World} {s t : StaM} (h : SS s t) (k : StaB P w s) : StaB P w t /\ s.val = t.val := by
 have l1 := rl_len h.vs;have f1 : s.vs.flatMap verC = t.vs.flatMap verC := rl_flat h.vs fun p hp q hq => (VerB.same hq (k.b p hp)).2
 have b1 : ∀ q ∈ t.vs, VerB P w q := fun q hq => by obtain ⟨p, hp, hr⟩ := rl_mem h.vs q hq; exact (VerB.same hr (k.b p hp)).1
 have e := h.e;generalize t.vs = L at *;subst e;exact ⟨⟨k.n, k.i, l1 ▸ k.l, f1 ▸ k.r, b1⟩, by unfold StaM.val; simp only []; rw [l1]⟩
end Go.Proofs.YthmlhheceihcbaaGreatDoor

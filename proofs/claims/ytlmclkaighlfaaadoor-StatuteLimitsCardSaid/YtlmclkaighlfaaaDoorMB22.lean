/- Bundle of texts: each says at its head what it proves; no conditions but those printed. -/
import Derived.Test.YtlmclkaighlfaaaDoorMB19
import Derived.Test.YtlmclkaighlfaaaDoorMB21
import Derived.Test.YtlmclkaighlfaaaDoorMB15
import Derived.Test.YtlmclkaighlfaaaDoorMB9
import Derived.Test.YtlmclkaighlfaaaDoorMB0
namespace Go.Proofs.YtlmclkaighlfaaaDoor
set_option maxHeartbeats 16000000
open Go.RowKit Cal Str Tok Frac Txt Tree
attribute [local go_sem] calmUpon
set_option linter.unusedVariables false
set_option linter.unusedSimpArgs false
theorem prs_day (s : ByteArray) : 0 ≤ prsN s ∧ prsN s ≤ 73048 := by
 unfold prsN;split
 ·cases h : dateB (strV (s.extract 0 4)) (strV (s.extract 5 7)) (strV (s.extract 8 s.size))
  ·rw [dayN_no h]; decide
  ·exact (vdayB_iff _).1 (date_day _ _ _ h).1
 ·decide
theorem dat_bd {tk : List Tk} {s : Pt} : I64 (datT tk s) := by
 unfold datT;split
 ·have := prs_day ((pkT tk s).extract 1 (pkT tk s).size); exact ⟨by omega, by omega⟩
 ·exact ⟨by decide, by decide⟩
theorem hd_one {tk : List Tk} (hH : TkHd tk) {s : Pt} (h : pkK tk s = 3) : 1 ≤ (pkT tk s).size := by
 unfold pkK at h;unfold pkT
 cases ht : tkAt tk s with
 | none => rw [ht] at h; cases h
 | some t =>
  rw [ht] at h;obtain ⟨-, -, h3⟩ := tkAt_some ht;obtain ⟨c, l, e, -⟩ := hH t (List.mem_of_getElem? h3) (.inr h);have : t.T.data.toList.length = (c :: l).length := by rw [e]
  simp only [];rw [size_list] at this;simp at this; omega
def zeroM : VerM := ⟨0, 0, 0, [], [], [], [], [], none, none, none, none, none, 0, 0, 0, 0, 0⟩
theorem ClS.new {b BO : Nat} {w0 W : World} (r : Ro b w0 W) (hb : b < w0.heap.size) (lt : w0.heap.size ≤ BO) (o : Blk W BO 38 (verC zeroM)) : ClS b w0 W BO 0 zeroM :=
 have z : I64 0 := ⟨by decide, by decide⟩
 ⟨r, hb, lt, o, World.ownsRow_nil _ _ _ _, World.ownsRow_nil _ _ _ _, World.ownsRow_nil _ _ _ _, World.ownsRow_nil _ _ _ _, World.ownsRow_nil _ _ _ _, fun i j hi hj hne a b' ha => by (rcases (show i = 0 ∨ i = 1 ∨ i = 2 ∨ i = 3 ∨ i = 4 by omega) with rfl | rfl | rfl | rfl | rfl <;> cases ha),
  ⟨Nat.le_refl _, Nat.le_refl _, Nat.le_refl _, Nat.le_refl _, Nat.le_refl _⟩, z, z, z, fun p hp => (by cases hp), fun p hp => (by cases hp), fun p hp => (by cases hp), fun p hp => (by cases hp), fun p hp => (by cases hp)⟩
section
variable {b BO N : Nat} {w0 W : World} {m : VerM}
theorem ClS.put_frm (h : ClS b w0 W BO N m) {z : Int} (hz : I64 z) : ClS b w0 (W.setCell ⟨BO, 0, none⟩ (.int .i64 z)) BO N { m with frm := z } := by
 have h1 := h.hb;have h2 := h.lt;have hq : ∀ q, BO < q ∧ OffV m q → q ≠ BO := fun q hq => by omega
 exact ⟨h.ro.setNew (p := ⟨BO, 0, none⟩) h2 _, h1, h2, h.o.set 0 _, own_set h.c (by omega) _ _, own_set h.s (by omega) _ _, own_set h.l (by omega) _ _, own_set h.g (by omega) _ _, own_set h.r (by omega) _ _, h.ap, h.n, hz, h.i1, h.i2, h.b0, h.b1,
  fun p hp => ⟨(h.b2 p hp).1, (h.b2 p hp).2.other hq _ _⟩, fun p hp => ⟨(h.b3 p hp).1, (h.b3 p hp).2.1.other hq _ _, (h.b3 p hp).2.2.other hq _ _⟩, fun p hp => ⟨(h.b4 p hp).1, (h.b4 p hp).2.other hq _ _⟩⟩
theorem ClS.put_mode (h : ClS b w0 W BO N m) {z : Int} (hz : I64 z) : ClS b w0 (W.setCell ⟨BO, 1, none⟩ (.int .i64 z)) BO N { m with mode := z } := by
 have h1 := h.hb;have h2 := h.lt;have hq : ∀ q, BO < q ∧ OffV m q → q ≠ BO := fun q hq => by omega
 exact ⟨h.ro.setNew (p := ⟨BO, 1, none⟩) h2 _, h1, h2, h.o.set 1 _, own_set h.c (by omega) _ _, own_set h.s (by omega) _ _, own_set h.l (by omega) _ _, own_set h.g (by omega) _ _, own_set h.r (by omega) _ _, h.ap, h.n, h.i0, hz, h.i2, h.b0, h.b1,
  fun p hp => ⟨(h.b2 p hp).1, (h.b2 p hp).2.other hq _ _⟩, fun p hp => ⟨(h.b3 p hp).1, (h.b3 p hp).2.1.other hq _ _, (h.b3 p hp).2.2.other hq _ _⟩, fun p hp => ⟨(h.b4 p hp).1, (h.b4 p hp).2.other hq _ _⟩⟩
theorem ClS.put_unit (h : ClS b w0 W BO N m) {z : Int} (hz : I64 z) : ClS b w0 (W.setCell ⟨BO, 2, none⟩ (.int .i64 z)) BO N { m with unit := z } := by
 have h1 := h.hb;have h2 := h.lt;have hq : ∀ q, BO < q ∧ OffV m q → q ≠ BO := fun q hq => by omega
 exact ⟨h.ro.setNew (p := ⟨BO, 2, none⟩) h2 _, h1, h2, h.o.set 2 _, own_set h.c (by omega) _ _, own_set h.s (by omega) _ _, own_set h.l (by omega) _ _, own_set h.g (by omega) _ _, own_set h.r (by omega) _ _, h.ap, h.n, h.i0, h.i1, hz, h.b0, h.b1,
  fun p hp => ⟨(h.b2 p hp).1, (h.b2 p hp).2.other hq _ _⟩, fun p hp => ⟨(h.b3 p hp).1, (h.b3 p hp).2.1.other hq _ _, (h.b3 p hp).2.2.other hq _ _⟩, fun p hp => ⟨(h.b4 p hp).1, (h.b4 p hp).2.other hq _ _⟩⟩
end
theorem wrd_beh (tk : List Tk) (l : List (List UInt8 × Int)) (s : Pt) : Beh tk s (wrdP tk l s) := by
 unfold wrdP;split
 ·rename_i h
  have hk : ¬ pkK tk s = 0 := by
   intro e;unfold wrdO at h;rw [e] at h; simp at h
  obtain ⟨ho, hi⟩ := pkK_some hk;obtain ⟨t, ht⟩ : ∃ t, tkAt tk s = some t := ⟨tk[s.i], by unfold tkAt; rw [if_pos ho]; exact List.getElem?_eq_getElem hi⟩;exact (adv_beh ht).1
 ·exact no_beh tk s
theorem fac_beh (tk : List Tk) (s : Pt) : Beh tk s (facP tk s) := by
 unfold facP;split
 ·rename_i h
  have hk : ¬ pkK tk s = 0 := by
   intro e;unfold facO at h;rw [e] at h; simp at h
  obtain ⟨ho, hi⟩ := pkK_some hk;obtain ⟨t, ht⟩ : ∃ t, tkAt tk s = some t := ⟨tk[s.i], by unfold tkAt; rw [if_pos ho]; exact List.getElem?_eq_getElem hi⟩;exact (adv_beh ht).1
 ·exact no_beh tk s
theorem pq_beh (tk : List Tk) (s : Pt) : Beh tk s (pq tk s).2 := pe_beh tk _ 0 .no s (by unfold md; decide)
theorem lim_beh (tk : List Tk) (s : Pt) : Beh tk s (limQ tk s).2 := by
 cases h : accB tk kLimit s
 ·rw [limQ_no h]; exact Beh.refl tk s
 ·rw [limQ_yes h]; exact (acc_beh h).1.trans (num_beh tk _ _ _)
theorem cla_rem {tk : List Tk} {v : Ver} {s : Pt} (h : claO tk s = true) : rem tk (claQ tk v s).2 + 1 ≤ rem tk s := by
 have key : ∀ {x : List UInt8} {t : Pt}, accB tk x s = true → Beh tk s.adv t → rem tk (expP tk kSemi t) + 1 ≤ rem tk s := fun ha hb => by
  have h1 := (acc_beh ha).2;have h2 := (hb.trans (exp_beh tk kSemi _)).rem;omega
 unfold claO at h
 cases h0 : accB tk kCredit s
 ·cases h1 : accB tk kIndex s
  ·cases h2 : accB tk kLet s
   ·cases h3 : accB tk kGrant s
    ·cases h4 : accB tk kReduce s
     ·rw [h0, h1, h2, h3, h4] at h; cases h
     ·rw [(claQ_re h0 h1 h2 h3 h4).1];exact key h4 ((wrd_beh tk _ _).trans ((exp_beh tk _ _).trans (pq_beh tk _)))
    ·rw [(claQ_gr h0 h1 h2 h3).1];exact key h3 ((wrd_beh tk _ _).trans ((exp_beh tk _ _).trans ((pq_beh tk _).trans ((exp_beh tk _ _).trans (pq_beh tk _)))))
   ·rw [(claQ_le h0 h1 h2).1];exact key h2 ((nam_beh tk _).trans ((exp_beh tk _ _).trans (pq_beh tk _)))
  ·rw [(claQ_se h0 h1).1];exact key h1 ((num_beh tk _ _ _).trans (fac_beh tk _))
 ·rw [(claQ_cr h0).1];exact key h0 ((wrd_beh tk _ _).trans (lim_beh tk _))
theorem dat_beh (tk : List Tk) (s : Pt) : Beh tk s (datP tk s) := by
 unfold datP;split
 ·rename_i h;obtain ⟨ho, hi⟩ := pkK_some (tk := tk) (s := s) (by omega);obtain ⟨t, ht⟩ : ∃ t, tkAt tk s = some t := ⟨tk[s.i], by unfold tkAt; rw [if_pos ho]; exact List.getElem?_eq_getElem hi⟩;exact (adv_beh ht).1
 ·exact no_beh tk s
theorem claL_beh (tk : List Tk) (f : Nat) : ∀ v s, Beh tk s (claL tk f v s).2 := by
 induction f with
 | zero => intro v s; exact Beh.refl tk s
 | succ f ih =>
  intro v s;simp only [claL];split
  ·rename_i h;refine Beh.trans ?_ (ih _ _);have key : ∀ {x : List UInt8} {t : Pt}, accB tk x s = true → Beh tk s.adv t → Beh tk s (expP tk kSemi t) := fun ha hb => (acc_beh ha).1.trans (hb.trans (exp_beh tk kSemi _))
   cases h0 : accB tk kCredit s
   ·cases h1 : accB tk kIndex s
    ·cases h2 : accB tk kLet s
     ·cases h3 : accB tk kGrant s
      ·cases h4 : accB tk kReduce s
       ·rw [(claQ_no h0 h1 h2 h3 h4).1]; exact Beh.refl tk s
       ·rw [(claQ_re h0 h1 h2 h3 h4).1];exact key h4 ((wrd_beh tk _ _).trans ((exp_beh tk _ _).trans (pq_beh tk _)))
      ·rw [(claQ_gr h0 h1 h2 h3).1];exact key h3 ((wrd_beh tk _ _).trans ((exp_beh tk _ _).trans ((pq_beh tk _).trans ((exp_beh tk _ _).trans (pq_beh tk _)))))
     ·rw [(claQ_le h0 h1 h2).1];exact key h2 ((nam_beh tk _).trans ((exp_beh tk _ _).trans (pq_beh tk _)))
    ·rw [(claQ_se h0 h1).1];exact key h1 ((num_beh tk _ _ _).trans (fac_beh tk _))
   ·rw [(claQ_cr h0).1];exact key h0 ((wrd_beh tk _ _).trans (lim_beh tk _))
  ·exact Beh.refl tk s
theorem ver_beh (tk : List Tk) (s : Pt) : Beh tk s (verQ tk s).2 :=
 (dat_beh tk s).trans ((exp_beh tk _ _).trans ((exp_beh tk _ _).trans ((wrd_beh tk _ _).trans ((num_beh tk _ _ _).trans ((exp_beh tk _ _).trans ((claL_beh tk _ _ _).trans (exp_beh tk _ _)))))))
def VerRes (b G : Nat) (tk : List Tk) (E : Int) (r : Ver × Pt) (w : World) (e : Ending) (w' : World) : Prop := ∃ m : VerM, e = .returned m.val ∧ m.pl = r.1 ∧ Prs w' b G tk E r.2 ∧ Ro b w w' ∧ VerB (fun q => w.heap.size ≤ q) w' m
set_option maxRecDepth 20000 in
theorem version_any (b G : Nat) (tk : List Tk) (E : Int) (hT : TksOk tk) (hH : TkHd tk) (w : World) (s : Pt) (hP : Prs w b G tk E s) (hGw : tk = [] ∨ G < w.heap.size) :
  Calls Tryd.prog 11 #[.pointer (some ⟨b, 0, none⟩)] w (VerRes b G tk E (verQ tk s) w) := by
 unfold VerRes;have hb0 : b < w.heap.size := hP.lt;have hlen := hT.len;have HP := Hj hP;have hO : pkK tk s = 3 → s.ok = true ∧ s.i < tk.length := fun h => pkK_some (by omega)
 have h1s : pkK tk s = 3 → 1 ≤ (pkT tk s).size := hd_one hH;have hsz := pkT_size hT s;have hbw : w.heap.size ≠ b := by omega
 have hbw1 : b ≠ w.heap.size + 1 := by omega
 have hG1 : tk = [] ∨ G ≠ w.heap.size + 1 := prs_g hGw (by omega);have hG0 : tk = [] ∨ G ≠ w.heap.size := prs_g hGw (by omega);obtain ⟨wa, hwa⟩ : ∃ X, w.alloc (.cells #[.int .i64 0, .int .i64 0, .int .i64 0, .slice none 0 0, .slice none 0 0, .slice none 0 0, .slice none 0 0, .slice none 0 0] 38) = X := ⟨_, rfl⟩;have RA : Hid (Rel w wa) := by show Rel _ _; rw [← hwa]; exact (Rel.refl w).alloc _
 have BZ : Hid (Blk wa w.heap.size 38 [.int .i64 0, .int .i64 0, .int .i64 0, .slice none 0 0, .slice none 0 0, .slice none 0 0, .slice none 0 0, .slice none 0 0]) := by show Blk _ _ _ _; rw [← hwa]; exact Blk.new w _ #[.int .i64 0, .int .i64 0, .int .i64 0, .slice none 0 0, .slice none 0 0, .slice none 0 0, .slice none 0 0, .slice none 0 0]
 have hws : wa.heap.size = w.heap.size + 1 := by rw [← hwa, World.size_alloc]
 have hG : tk = [] ∨ G < wa.heap.size := by rcases hGw with e | e; exact .inl e; exact .inr (by omega)
 obtain ⟨W0, hW0⟩ : ∃ X, wa.alloc (.cells #[.int .i64 0, .int .i64 0, .int .i64 0, .slice none 0 0, .slice none 0 0, .slice none 0 0, .slice none 0 0, .slice none 0 0] 38) = X := ⟨_, rfl⟩;have R0 : Hid (Rel wa W0) := by show Rel _ _; rw [← hW0]; exact (Rel.refl wa).alloc _
 have BV : Hid (Blk W0 (w.heap.size + 1) 38 [.int .i64 0, .int .i64 0, .int .i64 0, .slice none 0 0, .slice none 0 0, .slice none 0 0, .slice none 0 0, .slice none 0 0]) := by
  show Blk _ _ _ _
  rw [← hW0];have h := Blk.new wa 38 #[.int .i64 0, .int .i64 0, .int .i64 0, .slice none 0 0, .slice none 0 0, .slice none 0 0, .slice none 0 0, .slice none 0 0];rw [hws] at h; exact h
 have C0 : Hid (ClS b wa W0 (w.heap.size + 1) 0 zeroM) := ClS.new (Ro.of R0.out) (by omega) (by omega) BV.out;have P0 := Hj (HP.out.rel (RA.out.trans R0.out));have PK := Hj (peek_any b G tk E s W0 P0.out);unfold PkRes at PK;have EF : datT tk s = (if pkK tk s = 3 then prsN ((pkT tk s).extract 1 (pkT tk s).size) else 0) := rfl;have EP : datP tk s = (if pkK tk s = 3 then s.adv else s.no) := rfl;have HF : Hid (I64 (datT tk s)) := dat_bd;obtain ⟨D, hD⟩ : ∃ d, datT tk s = d := ⟨_, rfl⟩;obtain ⟨sD, hsD⟩ : ∃ d, datP tk s = d := ⟨_, rfl⟩;rw [hD] at EF HF;rw [hsD] at EP;obtain ⟨k, hk⟩ : ∃ K, pkK tk s = K := ⟨_, rfl⟩;obtain ⟨t, ht⟩ : ∃ T, pkT tk s = T := ⟨_, rfl⟩;obtain ⟨a, ha⟩ : ∃ A, pkA tk E s = A := ⟨_, rfl⟩;rw [hk, ht, ha] at PK;rw [hk, ht] at EF;rw [hk] at EP;rw [hk] at hO h1s;rw [ht] at h1s hsz;have HD := Hj hD;have HSD := Hj hsD;have HW0 := Hj hW0;clear hk ht ha hD hsD hP BV hW0;go_enter Tryd.func11, Tryd.ntmps11;go_wp2_with fail;(try rw [hwa]);rw [HW0.out];refine PK.out.mono ?_;rintro e w1 ⟨rfl, h1⟩;obtain ⟨X, hX⟩ : ∃ X, w1.alloc (.cells #[.int .i64 k, .string t, .int .i64 a] 63) = X := ⟨_, rfl⟩;have R1 : Hid (Rel W0 X) := by show Rel _ _; rw [← hX]; exact h1.alloc _
 have BX : Hid (Blk X w1.heap.size 63 [.int .i64 k, .string t, .int .i64 a]) := by show Blk _ _ _ _; rw [← hX]; exact Blk.new w1 _ #[.int .i64 k, .string t, .int .i64 a]
 have P1 := Hj (P0.out.rel R1.out);have C1 := Hj (C0.out.on R1.out);have x0 := BX.out.c (j := 0) rfl;have xl := BX.out.lt;have z1 : w.heap.size + 2 ≤ w1.heap.size := by have h2 := Below.size h1; rw [← HW0.out, World.size_alloc] at h2; omega
 have hbx : w1.heap.size ≠ b := by omega
 have WQ := Hj hwa;clear PK h1 P0 C0 R0 hwa;by_cases hk3 : k = 3
 ·skip
  obtain ⟨ho, hi⟩ := hO hk3;have h1t := h1s hk3;have e3 : (k == 3) = true := by rw [beq_iff_eq]; exact hk3
  have E1 := Hj (EF.trans (if_pos hk3));have E2 := Hj (EP.trans (if_pos hk3));clear EF EP hk3 hO h1s;go_wp2_with fail;refine (next_tok b G tk E _ _ P1.out ho hi).mono ?_;rintro e W11 ⟨⟨v11, rfl⟩, hP11, h11⟩;have BX11 := Hj (BX.out.ro h11 hbx);have P11 := Hj hP11;have C11 := Hj (C1.out.go h11);clear hP11 h11;have x1 := BX11.out.c (j := 1) rfl;have xl1 := BX11.out.lt;have hcut : t.size ≤ 140737488355328 := hsz;have h1i : (1 : Int) ≤ (t.size : Int) := by omega
  obtain ⟨u, hu⟩ : ∃ u, t.extract 1 t.size = u := ⟨_, rfl⟩;have hus : u.size ≤ maxLen := by rw [← hu]; simp only [ByteArray.size_extract]; unfold maxLen; omega
  have HU := Hj hu;rw [hu] at E1;go_wp2_with fail;refine (Parse_any u _ hus).mono ?_;rintro e W12 ⟨rfl, h12⟩;have BX12 := Hj (BX11.out.rel h12);have P12 := Hj (P11.out.rel h12);have C12 := Hj (C11.out.on h12);clear h12;rw [← E1.out];clear x1 xl1;have P12b := P12.out;rw [← E2.out] at P12b;have P12 := Hj P12b;have f13 := C12.out.o.f 0;have g13 := C12.out.o.c (j := 0) rfl;have o13 := C12.out.o.lt;obtain ⟨W13, hW13⟩ : ∃ X, W12.setCell ⟨w.heap.size + 1, 0, none⟩ (.int .i64 D) = X := ⟨_, rfl⟩;have C13 : Hid (ClS b wa W13 (w.heap.size + 1) 0 { zeroM with frm := D }) := by show ClS _ _ _ _ _ _; rw [← hW13]; exact C12.out.put_frm HF.out
  have QR13 : Ro (w.heap.size + 1) W12 W13 := by rw [← hW13]; exact (Ro.refl _ _).set 0 _
  have P13 : Hid (Prs W13 b G tk E sD) := prs_ro P12.out QR13 hbw1 hG1;clear QR13;clear x0 xl;go_wp2_with fail;refine (exp_at b G tk E _ ⟨#[123]⟩ kL _ P13.out rfl).mono ?_;rintro e W14 ⟨⟨v14, rfl⟩, hP14, h14⟩;have P14 := Hj hP14;have C14 := Hj (C13.out.go h14);clear hP14 h14;go_wp2_with fail;refine (exp_at b G tk E _ ⟨#[114, 111, 117, 110, 100]⟩ kRound _ P14.out rfl).mono ?_;rintro e W15 ⟨⟨v15, rfl⟩, hP15, h15⟩;have P15 := Hj hP15;have C15 := Hj (C14.out.go h15);clear hP15 h15;go_wp2_with fail;refine (modes_any _).mono ?_;rintro e W16 ⟨g16, rfl, hT16, h16⟩;have P16 := Hj (P15.out.rel h16);have C16 := Hj (C15.out.on h16);clear h16;go_wp2_with fail;refine (word_any b G tk E modL _ g16 4 _ P16.out hT hT16 (by decide) modL_nz).mono ?_;rintro e W17 ⟨rfl, hP17, h17⟩;have P17 := Hj hP17;have C17 := Hj (C16.out.go h17);clear hP17 h17;obtain ⟨x0, hx0⟩ : ∃ z, wrdT tk modL (expP tk kRound (expP tk kL sD)) = z := ⟨_, rfl⟩;rw [hx0];have HX0 := Hj hx0;have b0 : Hid (I64 x0) := by show I64 _; rw [← hx0]; exact wrd_bd modL_bd
  clear hx0 hT16;have f18 := C17.out.o.f 1;have g18 := C17.out.o.c (j := 1) rfl;have o18 := C17.out.o.lt;obtain ⟨W18, hW18⟩ : ∃ X, W17.setCell ⟨w.heap.size + 1, 1, none⟩ (.int .i64 x0) = X := ⟨_, rfl⟩;have C18 : Hid (ClS b wa W18 (w.heap.size + 1) 0 { { zeroM with frm := D } with mode := x0 }) := by show ClS _ _ _ _ _ _; rw [← hW18]; exact C17.out.put_mode b0.out
  have QR18 : Ro (w.heap.size + 1) W17 W18 := by rw [← hW18]; exact (Ro.refl _ _).set 1 _
  have P18 : Hid (Prs W18 b G tk E (wrdP tk modL (expP tk kRound (expP tk kL sD)))) := prs_ro P17.out QR18 hbw1 hG1;clear QR18;go_wp2_with fail;refine (pnumber_any b G tk E 1 100000 _ _ P18.out hT).mono ?_;rintro e W19 ⟨rfl, hP19, h19⟩;have P19 := Hj hP19;have C19 := Hj (C18.out.go h19);clear hP19 h19;obtain ⟨x1, hx1⟩ : ∃ z, numT tk 1 100000 (wrdP tk modL (expP tk kRound (expP tk kL sD))) = z := ⟨_, rfl⟩;rw [hx1];have HX1 := Hj hx1;have b1 : Hid (I64 x1) := by show I64 _; rw [← hx1]; exact num_bd
  clear hx1;have f20 := C19.out.o.f 2;have g20 := C19.out.o.c (j := 2) rfl;have o20 := C19.out.o.lt;obtain ⟨W20, hW20⟩ : ∃ X, W19.setCell ⟨w.heap.size + 1, 2, none⟩ (.int .i64 x1) = X := ⟨_, rfl⟩;have C20 : Hid (ClS b wa W20 (w.heap.size + 1) 0 { { { zeroM with frm := D } with mode := x0 } with unit := x1 }) := by show ClS _ _ _ _ _ _; rw [← hW20]; exact C19.out.put_unit b1.out
  have QR20 : Ro (w.heap.size + 1) W19 W20 := by rw [← hW20]; exact (Ro.refl _ _).set 2 _
  have P20 : Hid (Prs W20 b G tk E (numP tk 1 100000 (wrdP tk modL (expP tk kRound (expP tk kL sD))))) := prs_ro P19.out QR20 hbw1 hG1;clear QR20;go_wp2_with fail;refine (exp_at b G tk E _ ⟨#[59]⟩ kSemi _ P20.out rfl).mono ?_;rintro e W21 ⟨⟨v21, rfl⟩, hP21, h21⟩;have P21 := Hj hP21;have C21 := Hj (C20.out.go h21);clear hP21 h21
  have EH : Hid (verH tk s = (⟨D, x0, x1, [], [], [], [], []⟩, (expP tk kSemi (numP tk 1 100000 (wrdP tk modL (expP tk kRound (expP tk kL sD))))))) := by
   show _ = _
   unfold verH;dsimp only;rw [HD.out, HSD.out, HX0.out, HX1.out]
  obtain ⟨RES, hRES⟩ : ∃ r, claL tk (tk.length + 1) (verH tk s).1 (verH tk s).2 = r := ⟨_, rfl⟩;have HRES := Hj hRES;rw [EH.out] at hRES;have HR0 := Hj hRES;have rl := rem_le tk (expP tk kSemi (numP tk 1 100000 (wrdP tk modL (expP tk kRound (expP tk kL sD)))));clear hRES;go_wp2_with fail
  go_loopg [] (tk.length + 1) (fun g wx => ∃ (m : VerM) (N : Nat) (s' : Pt), g ≤ tk.length + 1 ∧ rem tk s' + 1 ≤ g ∧ N + rem tk s' ≤ tk.length ∧ Hid (claL tk g m.pl s' = RES) ∧ Hid (Prs wx b G tk E s') ∧ Hid (ClS b wa wx (w.heap.size + 1) N m))
  case atStart => exact ⟨(⟨D, x0, x1, [], [], [], [], [], none, none, none, none, none, 0, 0, 0, 0, 0⟩ : VerM), 0, (expP tk kSemi (numP tk 1 100000 (wrdP tk modL (expP tk kRound (expP tk kL sD))))), Nat.le_refl _, by omega, by omega, HR0, P21, C21⟩
  case round =>
   obtain ⟨m, N, s', hgf, hgr, hN, hF, hP, hC⟩ := hrel
   cases gk with
   | zero => omega
   | succ g =>
    have hF1 := hF.out;simp only [claL] at hF1;have CL := Hj (clause_any b G tk E hT wa wr (w.heap.size + 1) N m s' hP.out hC.out (by omega) hG);unfold ClRes at CL
    cases hO' : claO tk s'
    ·rw [hO'] at hF1 CL;rw [if_neg (by simp)] at hF1;have HF1 := Hj hF1
     have EN : claQ tk m.pl s' = (m.pl, s') := by
      have h := hO';unfold claO at h;simp only [Bool.or_eq_false_iff] at h;exact (claQ_no h.1 h.2.1 h.2.2.1 h.2.2.2.1 h.2.2.2.2).1
     rw [EN] at CL;clear hF1 hO' EN;go_wp2_with fail;refine CL.out.mono ?_;rintro e w2 ⟨m', rfl, hm, hP', hC'⟩;have EM : Hid (m'.pl = RES.1) := by show _ = _; rw [hm, ← HF1.out]
     have ES : Hid (s' = RES.2) := by show _ = _; rw [← HF1.out]
     have P2 := Hj hP';have C2 := Hj hC';clear hm hP' hC' CL;go_wp2_with fail;refine (exp_at b G tk E _ ⟨#[125]⟩ kR _ P2.out rfl).mono ?_;rintro e w3 ⟨⟨v3, rfl⟩, hP3, h3⟩;have P3 := Hj hP3;have C3 := Hj (C2.out.go h3);clear hP3 h3;have B3 := Hj (BZ.out.ro C3.out.ro hbw);have c0 := C3.out.o.c (j := 0) rfl;have f0 := B3.out.f 0;have d0 := B3.out.c (j := 0) rfl;have c1 := C3.out.o.c (j := 1) rfl;have f1 := B3.out.f 1;have d1 := B3.out.c (j := 1) rfl;have c2 := C3.out.o.c (j := 2) rfl;have f2 := B3.out.f 2;have d2 := B3.out.c (j := 2) rfl;have c3 := C3.out.o.c (j := 3) rfl;have f3 := B3.out.f 3;have d3 := B3.out.c (j := 3) rfl;have c4 := C3.out.o.c (j := 4) rfl;have f4 := B3.out.f 4;have d4 := B3.out.c (j := 4) rfl;have c5 := C3.out.o.c (j := 5) rfl;have f5 := B3.out.f 5;have d5 := B3.out.c (j := 5) rfl;have c6 := C3.out.o.c (j := 6) rfl;have f6 := B3.out.f 6;have d6 := B3.out.c (j := 6) rfl;have c7 := C3.out.o.c (j := 7) rfl;have f7 := B3.out.f 7;have d7 := B3.out.c (j := 7) rfl;have cl := C3.out.o.lt;have dl := B3.out.lt;((try simp only []); (repeat (first | go_values | go_skip | go_guarded | go_step | go_upon | go_in)));have QR : Hid (Ro w.heap.size w3 ((((((((w3.setCell ⟨w.heap.size, 0, none⟩ (.int .i64 m'.frm)).setCell ⟨w.heap.size, 1, none⟩ (.int .i64 m'.mode)).setCell ⟨w.heap.size, 2, none⟩ (.int .i64 m'.unit)).setCell ⟨w.heap.size, 3, none⟩ (.slice m'.ca m'.cr.length m'.cc)).setCell ⟨w.heap.size, 4, none⟩ (.slice m'.sa m'.se.length m'.sc)).setCell ⟨w.heap.size, 5, none⟩ (.slice m'.la m'.le.length m'.lc)).setCell ⟨w.heap.size, 6, none⟩ (.slice m'.ga m'.gr.length m'.gc)).setCell ⟨w.heap.size, 7, none⟩ (.slice m'.ra m'.re.length m'.rc))) := (((((((((Ro.refl w.heap.size w3).set 0 (.int .i64 m'.frm)).set 1 (.int .i64 m'.mode)).set 2 (.int .i64 m'.unit)).set 3 (.slice m'.ca m'.cr.length m'.cc)).set 4 (.slice m'.sa m'.se.length m'.sc)).set 5 (.slice m'.la m'.le.length m'.lc)).set 6 (.slice m'.ga m'.gr.length m'.gc)).set 7 (.slice m'.ra m'.re.length m'.rc));have BE : Hid (Blk ((((((((w3.setCell ⟨w.heap.size, 0, none⟩ (.int .i64 m'.frm)).setCell ⟨w.heap.size, 1, none⟩ (.int .i64 m'.mode)).setCell ⟨w.heap.size, 2, none⟩ (.int .i64 m'.unit)).setCell ⟨w.heap.size, 3, none⟩ (.slice m'.ca m'.cr.length m'.cc)).setCell ⟨w.heap.size, 4, none⟩ (.slice m'.sa m'.se.length m'.sc)).setCell ⟨w.heap.size, 5, none⟩ (.slice m'.la m'.le.length m'.lc)).setCell ⟨w.heap.size, 6, none⟩ (.slice m'.ga m'.gr.length m'.gc)).setCell ⟨w.heap.size, 7, none⟩ (.slice m'.ra m'.re.length m'.rc)) w.heap.size 38 [.int .i64 m'.frm, .int .i64 m'.mode, .int .i64 m'.unit, .slice m'.ca m'.cr.length m'.cc, .slice m'.sa m'.se.length m'.sc, .slice m'.la m'.le.length m'.lc, .slice m'.ga m'.gr.length m'.gc, .slice m'.ra m'.re.length m'.rc]) := ((((((((B3.out.set 0 (.int .i64 m'.frm)).set 1 (.int .i64 m'.mode)).set 2 (.int .i64 m'.unit)).set 3 (.slice m'.ca m'.cr.length m'.cc)).set 4 (.slice m'.sa m'.se.length m'.sc)).set 5 (.slice m'.la m'.le.length m'.lc)).set 6 (.slice m'.ga m'.gr.length m'.gc)).set 7 (.slice m'.ra m'.re.length m'.rc));have hw0 : w.heap.size ≤ w3.heap.size := by omega
     have RF : Hid (Ro b w ((((((((w3.setCell ⟨w.heap.size, 0, none⟩ (.int .i64 m'.frm)).setCell ⟨w.heap.size, 1, none⟩ (.int .i64 m'.mode)).setCell ⟨w.heap.size, 2, none⟩ (.int .i64 m'.unit)).setCell ⟨w.heap.size, 3, none⟩ (.slice m'.ca m'.cr.length m'.cc)).setCell ⟨w.heap.size, 4, none⟩ (.slice m'.sa m'.se.length m'.sc)).setCell ⟨w.heap.size, 5, none⟩ (.slice m'.la m'.le.length m'.lc)).setCell ⟨w.heap.size, 6, none⟩ (.slice m'.ga m'.gr.length m'.gc)).setCell ⟨w.heap.size, 7, none⟩ (.slice m'.ra m'.re.length m'.rc))) := by
      show Ro _ _ _
      exact ((((((((((Ro.of RA.out).trans C3.out.ro).setNew (p := ⟨w.heap.size, 0, none⟩) (Nat.le_refl _) (.int .i64 m'.frm)).setNew (p := ⟨w.heap.size, 1, none⟩) (Nat.le_refl _) (.int .i64 m'.mode)).setNew (p := ⟨w.heap.size, 2, none⟩) (Nat.le_refl _) (.int .i64 m'.unit)).setNew (p := ⟨w.heap.size, 3, none⟩) (Nat.le_refl _) (.slice m'.ca m'.cr.length m'.cc)).setNew (p := ⟨w.heap.size, 4, none⟩) (Nat.le_refl _) (.slice m'.sa m'.se.length m'.sc)).setNew (p := ⟨w.heap.size, 5, none⟩) (Nat.le_refl _) (.slice m'.la m'.le.length m'.lc)).setNew (p := ⟨w.heap.size, 6, none⟩) (Nat.le_refl _) (.slice m'.ga m'.gr.length m'.gc)).setNew (p := ⟨w.heap.size, 7, none⟩) (Nat.le_refl _) (.slice m'.ra m'.re.length m'.rc))
     have g0 := BE.out.c (j := 0) rfl;have g1 := BE.out.c (j := 1) rfl;have g2 := BE.out.c (j := 2) rfl;have g3 := BE.out.c (j := 3) rfl;have g4 := BE.out.c (j := 4) rfl;have g5 := BE.out.c (j := 5) rfl;have g6 := BE.out.c (j := 6) rfl;have g7 := BE.out.c (j := 7) rfl;refine bodyPost_ret (v := m'.val) ?_ rfl ⟨m', rfl, ?_, ?_, RF.out, ?_⟩
     ·unfold VerM.val;simp [results, Tryd.results11, go_sem, g0, g1, g2, g3, g4, g5, g6, g7]
     ·rw [EM.out, ← HRES.out]; rfl
     ·have h := prs_ro P3.out QR.out (by omega) hG0;have e : (verQ tk s).2 = expP tk kR s' := by rw [ES.out, ← HRES.out]; rfl
      rw [e]; exact h
     ·have h := VerB.mono (Q := fun q => w.heap.size + 1 ≤ q) (C3.out.toB (by omega)) (fun q hq => by omega);exact VerB.mono (VerB.ro h QR.out (fun q hq => by omega)) (fun q hq => by omega)
    ·rw [hO'] at hF1 CL;rw [if_pos rfl] at hF1;have HF1 := Hj hF1;have hr2 := cla_rem (v := m.pl) hO';clear hF1 hO';go_wp2_with fail;refine CL.out.mono ?_;rintro e w2 ⟨m', rfl, hm, hP', hC'⟩;have EM : Hid (claL tk g m'.pl (claQ tk m.pl s').2 = RES) := by show _ = _; rw [hm]; exact HF1.out
     have P2 := Hj hP';have C2 := Hj hC';clear hm hP' hC' CL;go_wp2
     go_roundg g
     case rel => exact ⟨m', N + 1, (claQ tk m.pl s').2, by omega, by omega, by omega, EM, P2, C2⟩
     case measure => omega
 ·skip
  have e3 : (k == 3) = false := by rw [zn]; exact hk3
  have E1 := Hj (EF.trans (if_neg hk3));have E2 := Hj (EP.trans (if_neg hk3));clear EF EP hk3 hO h1s;go_wp2_with fail;refine (fail_any b G tk E _ _ P1.out).mono ?_;rintro e W51 ⟨⟨v51, rfl⟩, hP51, h51⟩;have BX51 := Hj (BX.out.ro h51 hbx);have P51 := Hj hP51;have C51 := Hj (C1.out.go h51);clear hP51 h51;have P51b := P51.out;rw [← E2.out] at P51b;have P51 := Hj P51b;have C52 : Hid (ClS b wa W51 (w.heap.size + 1) 0 { zeroM with frm := D }) := by show ClS _ _ _ _ _ _; rw [E1.out]; exact C51.out
  clear x0 xl;go_wp2_with fail;refine (exp_at b G tk E _ ⟨#[123]⟩ kL _ P51.out rfl).mono ?_;rintro e W53 ⟨⟨v53, rfl⟩, hP53, h53⟩;have P53 := Hj hP53;have C53 := Hj (C52.out.go h53);clear hP53 h53;go_wp2_with fail;refine (exp_at b G tk E _ ⟨#[114, 111, 117, 110, 100]⟩ kRound _ P53.out rfl).mono ?_;rintro e W54 ⟨⟨v54, rfl⟩, hP54, h54⟩;have P54 := Hj hP54;have C54 := Hj (C53.out.go h54);clear hP54 h54;go_wp2_with fail;refine (modes_any _).mono ?_;rintro e W55 ⟨g55, rfl, hT55, h55⟩;have P55 := Hj (P54.out.rel h55);have C55 := Hj (C54.out.on h55);clear h55;go_wp2_with fail;refine (word_any b G tk E modL _ g55 4 _ P55.out hT hT55 (by decide) modL_nz).mono ?_;rintro e W56 ⟨rfl, hP56, h56⟩;have P56 := Hj hP56;have C56 := Hj (C55.out.go h56);clear hP56 h56;obtain ⟨x0, hx0⟩ : ∃ z, wrdT tk modL (expP tk kRound (expP tk kL sD)) = z := ⟨_, rfl⟩;rw [hx0];have HX0 := Hj hx0;have b0 : Hid (I64 x0) := by show I64 _; rw [← hx0]; exact wrd_bd modL_bd
  clear hx0 hT55;have f57 := C56.out.o.f 1;have g57 := C56.out.o.c (j := 1) rfl;have o57 := C56.out.o.lt;obtain ⟨W57, hW57⟩ : ∃ X, W56.setCell ⟨w.heap.size + 1, 1, none⟩ (.int .i64 x0) = X := ⟨_, rfl⟩;have C57 : Hid (ClS b wa W57 (w.heap.size + 1) 0 { { zeroM with frm := D } with mode := x0 }) := by show ClS _ _ _ _ _ _; rw [← hW57]; exact C56.out.put_mode b0.out
  have QR57 : Ro (w.heap.size + 1) W56 W57 := by rw [← hW57]; exact (Ro.refl _ _).set 1 _
  have P57 : Hid (Prs W57 b G tk E (wrdP tk modL (expP tk kRound (expP tk kL sD)))) := prs_ro P56.out QR57 hbw1 hG1;clear QR57;go_wp2_with fail;refine (pnumber_any b G tk E 1 100000 _ _ P57.out hT).mono ?_;rintro e W58 ⟨rfl, hP58, h58⟩;have P58 := Hj hP58;have C58 := Hj (C57.out.go h58);clear hP58 h58;obtain ⟨x1, hx1⟩ : ∃ z, numT tk 1 100000 (wrdP tk modL (expP tk kRound (expP tk kL sD))) = z := ⟨_, rfl⟩;rw [hx1];have HX1 := Hj hx1;have b1 : Hid (I64 x1) := by show I64 _; rw [← hx1]; exact num_bd
  clear hx1;have f59 := C58.out.o.f 2;have g59 := C58.out.o.c (j := 2) rfl;have o59 := C58.out.o.lt;obtain ⟨W59, hW59⟩ : ∃ X, W58.setCell ⟨w.heap.size + 1, 2, none⟩ (.int .i64 x1) = X := ⟨_, rfl⟩;have C59 : Hid (ClS b wa W59 (w.heap.size + 1) 0 { { { zeroM with frm := D } with mode := x0 } with unit := x1 }) := by show ClS _ _ _ _ _ _; rw [← hW59]; exact C58.out.put_unit b1.out
  have QR59 : Ro (w.heap.size + 1) W58 W59 := by rw [← hW59]; exact (Ro.refl _ _).set 2 _
  have P59 : Hid (Prs W59 b G tk E (numP tk 1 100000 (wrdP tk modL (expP tk kRound (expP tk kL sD))))) := prs_ro P58.out QR59 hbw1 hG1;clear QR59;go_wp2_with fail;refine (exp_at b G tk E _ ⟨#[59]⟩ kSemi _ P59.out rfl).mono ?_;rintro e W60 ⟨⟨v60, rfl⟩, hP60, h60⟩;have P60 := Hj hP60;have C60 := Hj (C59.out.go h60);clear hP60 h60
  have EH : Hid (verH tk s = (⟨D, x0, x1, [], [], [], [], []⟩, (expP tk kSemi (numP tk 1 100000 (wrdP tk modL (expP tk kRound (expP tk kL sD))))))) := by
   show _ = _
   unfold verH;dsimp only;rw [HD.out, HSD.out, HX0.out, HX1.out]
  obtain ⟨RES, hRES⟩ : ∃ r, claL tk (tk.length + 1) (verH tk s).1 (verH tk s).2 = r := ⟨_, rfl⟩;have HRES := Hj hRES;rw [EH.out] at hRES;have HR0 := Hj hRES;have rl := rem_le tk (expP tk kSemi (numP tk 1 100000 (wrdP tk modL (expP tk kRound (expP tk kL sD)))));clear hRES;go_wp2_with fail
  go_loopg [] (tk.length + 1) (fun g wx => ∃ (m : VerM) (N : Nat) (s' : Pt), g ≤ tk.length + 1 ∧ rem tk s' + 1 ≤ g ∧ N + rem tk s' ≤ tk.length ∧ Hid (claL tk g m.pl s' = RES) ∧ Hid (Prs wx b G tk E s') ∧ Hid (ClS b wa wx (w.heap.size + 1) N m))
  case atStart => exact ⟨(⟨D, x0, x1, [], [], [], [], [], none, none, none, none, none, 0, 0, 0, 0, 0⟩ : VerM), 0, (expP tk kSemi (numP tk 1 100000 (wrdP tk modL (expP tk kRound (expP tk kL sD))))), Nat.le_refl _, by omega, by omega, HR0, P60, C60⟩
  case round =>
   obtain ⟨m, N, s', hgf, hgr, hN, hF, hP, hC⟩ := hrel
   cases gk with
   | zero => omega
   | succ g =>
    have hF1 := hF.out;simp only [claL] at hF1;have CL := Hj (clause_any b G tk E hT wa wr (w.heap.size + 1) N m s' hP.out hC.out (by omega) hG);unfold ClRes at CL
    cases hO' : claO tk s'
    ·rw [hO'] at hF1 CL;rw [if_neg (by simp)] at hF1;have HF1 := Hj hF1
     have EN : claQ tk m.pl s' = (m.pl, s') := by
      have h := hO';unfold claO at h;simp only [Bool.or_eq_false_iff] at h;exact (claQ_no h.1 h.2.1 h.2.2.1 h.2.2.2.1 h.2.2.2.2).1
     rw [EN] at CL;clear hF1 hO' EN;go_wp2_with fail;refine CL.out.mono ?_;rintro e w2 ⟨m', rfl, hm, hP', hC'⟩;have EM : Hid (m'.pl = RES.1) := by show _ = _; rw [hm, ← HF1.out]
     have ES : Hid (s' = RES.2) := by show _ = _; rw [← HF1.out]
     have P2 := Hj hP';have C2 := Hj hC';clear hm hP' hC' CL;go_wp2_with fail;refine (exp_at b G tk E _ ⟨#[125]⟩ kR _ P2.out rfl).mono ?_;rintro e w3 ⟨⟨v3, rfl⟩, hP3, h3⟩;have P3 := Hj hP3;have C3 := Hj (C2.out.go h3);clear hP3 h3;have B3 := Hj (BZ.out.ro C3.out.ro hbw);have c0 := C3.out.o.c (j := 0) rfl;have f0 := B3.out.f 0;have d0 := B3.out.c (j := 0) rfl;have c1 := C3.out.o.c (j := 1) rfl;have f1 := B3.out.f 1;have d1 := B3.out.c (j := 1) rfl;have c2 := C3.out.o.c (j := 2) rfl;have f2 := B3.out.f 2;have d2 := B3.out.c (j := 2) rfl;have c3 := C3.out.o.c (j := 3) rfl;have f3 := B3.out.f 3;have d3 := B3.out.c (j := 3) rfl;have c4 := C3.out.o.c (j := 4) rfl;have f4 := B3.out.f 4;have d4 := B3.out.c (j := 4) rfl;have c5 := C3.out.o.c (j := 5) rfl;have f5 := B3.out.f 5;have d5 := B3.out.c (j := 5) rfl;have c6 := C3.out.o.c (j := 6) rfl;have f6 := B3.out.f 6;have d6 := B3.out.c (j := 6) rfl;have c7 := C3.out.o.c (j := 7) rfl;have f7 := B3.out.f 7;have d7 := B3.out.c (j := 7) rfl;have cl := C3.out.o.lt;have dl := B3.out.lt;((try simp only []); (repeat (first | go_values | go_skip | go_guarded | go_step | go_upon | go_in)));have QR : Hid (Ro w.heap.size w3 ((((((((w3.setCell ⟨w.heap.size, 0, none⟩ (.int .i64 m'.frm)).setCell ⟨w.heap.size, 1, none⟩ (.int .i64 m'.mode)).setCell ⟨w.heap.size, 2, none⟩ (.int .i64 m'.unit)).setCell ⟨w.heap.size, 3, none⟩ (.slice m'.ca m'.cr.length m'.cc)).setCell ⟨w.heap.size, 4, none⟩ (.slice m'.sa m'.se.length m'.sc)).setCell ⟨w.heap.size, 5, none⟩ (.slice m'.la m'.le.length m'.lc)).setCell ⟨w.heap.size, 6, none⟩ (.slice m'.ga m'.gr.length m'.gc)).setCell ⟨w.heap.size, 7, none⟩ (.slice m'.ra m'.re.length m'.rc))) := (((((((((Ro.refl w.heap.size w3).set 0 (.int .i64 m'.frm)).set 1 (.int .i64 m'.mode)).set 2 (.int .i64 m'.unit)).set 3 (.slice m'.ca m'.cr.length m'.cc)).set 4 (.slice m'.sa m'.se.length m'.sc)).set 5 (.slice m'.la m'.le.length m'.lc)).set 6 (.slice m'.ga m'.gr.length m'.gc)).set 7 (.slice m'.ra m'.re.length m'.rc));have BE : Hid (Blk ((((((((w3.setCell ⟨w.heap.size, 0, none⟩ (.int .i64 m'.frm)).setCell ⟨w.heap.size, 1, none⟩ (.int .i64 m'.mode)).setCell ⟨w.heap.size, 2, none⟩ (.int .i64 m'.unit)).setCell ⟨w.heap.size, 3, none⟩ (.slice m'.ca m'.cr.length m'.cc)).setCell ⟨w.heap.size, 4, none⟩ (.slice m'.sa m'.se.length m'.sc)).setCell ⟨w.heap.size, 5, none⟩ (.slice m'.la m'.le.length m'.lc)).setCell ⟨w.heap.size, 6, none⟩ (.slice m'.ga m'.gr.length m'.gc)).setCell ⟨w.heap.size, 7, none⟩ (.slice m'.ra m'.re.length m'.rc)) w.heap.size 38 [.int .i64 m'.frm, .int .i64 m'.mode, .int .i64 m'.unit, .slice m'.ca m'.cr.length m'.cc, .slice m'.sa m'.se.length m'.sc, .slice m'.la m'.le.length m'.lc, .slice m'.ga m'.gr.length m'.gc, .slice m'.ra m'.re.length m'.rc]) := ((((((((B3.out.set 0 (.int .i64 m'.frm)).set 1 (.int .i64 m'.mode)).set 2 (.int .i64 m'.unit)).set 3 (.slice m'.ca m'.cr.length m'.cc)).set 4 (.slice m'.sa m'.se.length m'.sc)).set 5 (.slice m'.la m'.le.length m'.lc)).set 6 (.slice m'.ga m'.gr.length m'.gc)).set 7 (.slice m'.ra m'.re.length m'.rc));have hw0 : w.heap.size ≤ w3.heap.size := by omega
     have RF : Hid (Ro b w ((((((((w3.setCell ⟨w.heap.size, 0, none⟩ (.int .i64 m'.frm)).setCell ⟨w.heap.size, 1, none⟩ (.int .i64 m'.mode)).setCell ⟨w.heap.size, 2, none⟩ (.int .i64 m'.unit)).setCell ⟨w.heap.size, 3, none⟩ (.slice m'.ca m'.cr.length m'.cc)).setCell ⟨w.heap.size, 4, none⟩ (.slice m'.sa m'.se.length m'.sc)).setCell ⟨w.heap.size, 5, none⟩ (.slice m'.la m'.le.length m'.lc)).setCell ⟨w.heap.size, 6, none⟩ (.slice m'.ga m'.gr.length m'.gc)).setCell ⟨w.heap.size, 7, none⟩ (.slice m'.ra m'.re.length m'.rc))) := by
      show Ro _ _ _
      exact ((((((((((Ro.of RA.out).trans C3.out.ro).setNew (p := ⟨w.heap.size, 0, none⟩) (Nat.le_refl _) (.int .i64 m'.frm)).setNew (p := ⟨w.heap.size, 1, none⟩) (Nat.le_refl _) (.int .i64 m'.mode)).setNew (p := ⟨w.heap.size, 2, none⟩) (Nat.le_refl _) (.int .i64 m'.unit)).setNew (p := ⟨w.heap.size, 3, none⟩) (Nat.le_refl _) (.slice m'.ca m'.cr.length m'.cc)).setNew (p := ⟨w.heap.size, 4, none⟩) (Nat.le_refl _) (.slice m'.sa m'.se.length m'.sc)).setNew (p := ⟨w.heap.size, 5, none⟩) (Nat.le_refl _) (.slice m'.la m'.le.length m'.lc)).setNew (p := ⟨w.heap.size, 6, none⟩) (Nat.le_refl _) (.slice m'.ga m'.gr.length m'.gc)).setNew (p := ⟨w.heap.size, 7, none⟩) (Nat.le_refl _) (.slice m'.ra m'.re.length m'.rc))
     have g0 := BE.out.c (j := 0) rfl;have g1 := BE.out.c (j := 1) rfl;have g2 := BE.out.c (j := 2) rfl;have g3 := BE.out.c (j := 3) rfl;have g4 := BE.out.c (j := 4) rfl;have g5 := BE.out.c (j := 5) rfl;have g6 := BE.out.c (j := 6) rfl;have g7 := BE.out.c (j := 7) rfl;refine bodyPost_ret (v := m'.val) ?_ rfl ⟨m', rfl, ?_, ?_, RF.out, ?_⟩
     ·unfold VerM.val;simp [results, Tryd.results11, go_sem, g0, g1, g2, g3, g4, g5, g6, g7]
     ·rw [EM.out, ← HRES.out]; rfl
     ·have h := prs_ro P3.out QR.out (by omega) hG0;have e : (verQ tk s).2 = expP tk kR s' := by rw [ES.out, ← HRES.out]; rfl
      rw [e]; exact h
     ·have h := VerB.mono (Q := fun q => w.heap.size + 1 ≤ q) (C3.out.toB (by omega)) (fun q hq => by omega);exact VerB.mono (VerB.ro h QR.out (fun q hq => by omega)) (fun q hq => by omega)
    ·rw [hO'] at hF1 CL;rw [if_pos rfl] at hF1;have HF1 := Hj hF1;have hr2 := cla_rem (v := m.pl) hO';clear hF1 hO';go_wp2_with fail;refine CL.out.mono ?_;rintro e w2 ⟨m', rfl, hm, hP', hC'⟩;have EM : Hid (claL tk g m'.pl (claQ tk m.pl s').2 = RES) := by show _ = _; rw [hm]; exact HF1.out
     have P2 := Hj hP';have C2 := Hj hC';clear hm hP' hC' CL;go_wp2
     go_roundg g
     case rel => exact ⟨m', N + 1, (claQ tk m.pl s').2, by omega, by omega, by omega, EM, P2, C2⟩
     case measure => omega
end Go.Proofs.YtlmclkaighlfaaaDoor

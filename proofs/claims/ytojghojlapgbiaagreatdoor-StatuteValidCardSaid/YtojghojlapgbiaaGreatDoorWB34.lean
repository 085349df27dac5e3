/- Lemmas, each as it is printed; no conditions but those printed. -/
import Derived.Test.YtojghojlapgbiaaGreatDoorWB33
namespace Go.Proofs.YtojghojlapgbiaaGreatDoor
set_option maxHeartbeats 16000000
open Go.RowKit Cal Str Tok Frac Txt Tree
attribute [local go_sem] calmUpon
set_option linter.unusedVariables false
set_option linter.unusedSimpArgs false
def PeRes (b G : Nat) (tk : List Tk) (E : Int) (r : Ex × Pt) (w : World) (e : Ending) (w' : World) : Prop :=
 ∃ x, e = .returned (.agg #[.int .i64 r.1.op, .int .i64 r.1.va, .int .i64 r.1.vb, .int .i64 r.1.dm, .string r.1.nm, x]) ∧ ExKidsB (fun g => w.heap.size ≤ g) r.1 w' x ∧ Prs w' b G tk E r.2 ∧ Ro b w w'
def cc (m : Nat) : Nat := if m = 0 then 8 else if m = 1 then 7 else if m = 2 then 6 else if m = 3 then 5 else if m = 4 then 4 else if m = 5 then 3 else if m = 6 then 2 else 1
def PC (b G : Nat) (tk : List Tk) (E : Int) (fn : FuncId) (m f : Nat) : Prop :=
 ∀ (w : World) (s : Pt), Prs w b G tk E s → 10 * rem tk s + cc m ≤ f → Calls Tryz.prog fn #[.pointer (some ⟨b, 0, none⟩)] w (PeRes b G tk E (pe tk f m .no s) w)
theorem BoxAt.put6 {W : World} {g : Nat} {v0 v1 v2 v3 v4 v5 : Value} (h : BoxAt W g v0 v1 v2 v3 v4 v5) (u0 u1 u2 u3 u4 u5 : Value) :
  BoxAt ((((((W.setCell ⟨g, 0, none⟩ u0).setCell ⟨g, 1, none⟩ u1).setCell ⟨g, 2, none⟩ u2).setCell ⟨g, 3, none⟩ u3).setCell ⟨g, 4, none⟩ u4).setCell ⟨g, 5, none⟩ u5) g u0 u1 u2 u3 u4 u5 := by
 have o : ∀ {X : World} {i j : Nat} {v : Value}, ¬ j = i → (X.setCell ⟨g, i, none⟩ v).cell? ⟨g, j, none⟩ = X.cell? ⟨g, j, none⟩ := fun hne => World.cell?_setCell_other _ _ _ _ (by intro e; injection e; omega)
 refine ⟨by simpa [World.setCell] using h.lt, ?_, ?_, ?_, ?_, ?_, ?_, ?_, ?_, ?_, ?_, ?_, ?_⟩
 ·rw [o (by decide), o (by decide), o (by decide), o (by decide), o (by decide)]; exact World.cell?_setCell_same _ _ _ h.c0
 ·rw [o (by decide), o (by decide), o (by decide), o (by decide)]; exact World.cell?_setCell_same _ _ _ ((o (by decide)).trans h.c1)
 ·rw [o (by decide), o (by decide), o (by decide)]; exact World.cell?_setCell_same _ _ _ ((o (by decide)).trans ((o (by decide)).trans h.c2))
 ·rw [o (by decide), o (by decide)]; exact World.cell?_setCell_same _ _ _ ((o (by decide)).trans ((o (by decide)).trans ((o (by decide)).trans h.c3)))
 ·rw [o (by decide)]; exact World.cell?_setCell_same _ _ _ ((o (by decide)).trans ((o (by decide)).trans ((o (by decide)).trans ((o (by decide)).trans h.c4))))
 ·exact World.cell?_setCell_same _ _ _ ((o (by decide)).trans ((o (by decide)).trans ((o (by decide)).trans ((o (by decide)).trans ((o (by decide)).trans h.c5)))))
 all_goals simp only [World.frozen?_setCell]
 ·exact h.f0
 ·exact h.f1
 ·exact h.f2
 ·exact h.f3
 ·exact h.f4
 ·exact h.f5
theorem kidsB_ro {P : Nat → Prop} {t : Ex} {w w' : World} {x : Value} {b : Nat} (h : ExKidsB P t w x) (r : Ro b w w') (hb : ∀ q, P q → q ≠ b) : ExKidsB P t w' x := kidsB_keep r.size (fun g hg hp => ⟨r.block g hg (hb g hp), hp⟩) h
theorem kidsB_rl {P : Nat → Prop} {t : Ex} {w w' : World} {x : Value} (h : ExKidsB P t w x) (r : Rel w w') : ExKidsB P t w' x := kidsB_keep (Below.size r) (fun g hg hp => ⟨Below.block r g hg, hp⟩) h
theorem kidsB_mono {P Q : Nat → Prop} {t : Ex} {w : World} {x : Value} (h : ExKidsB P t w x) (hq : ∀ q, q < w.heap.size → P q → Q q) : ExKidsB Q t w x := kidsB_keep (Nat.le_refl _) (fun g hg hp => ⟨rfl, hq g hg hp⟩) h
theorem kidsB_p6 {P Q : Nat → Prop} {t : Ex} {w : World} {x : Value} (h : ExKidsB P t w x) {g : Nat} (hg : ∀ q, q < w.heap.size → P q → q ≠ g ∧ Q q) (v0 v1 v2 v3 v4 v5 : Value) :
  ExKidsB Q t ((((((w.setCell ⟨g, 0, none⟩ v0).setCell ⟨g, 1, none⟩ v1).setCell ⟨g, 2, none⟩ v2).setCell ⟨g, 3, none⟩ v3).setCell ⟨g, 4, none⟩ v4).setCell ⟨g, 5, none⟩ v5) x :=
 kidsB_keep (by simp [World.setCell]) (fun q hq hp => ⟨by
  have hne := (hg q hq hp).1
  rw [Below.heap_setCell _ _ _ _ hne, Below.heap_setCell _ _ _ _ hne, Below.heap_setCell _ _ _ _ hne, Below.heap_setCell _ _ _ _ hne, Below.heap_setCell _ _ _ _ hne, Below.heap_setCell _ _ _ _ hne], (hg q hq hp).2⟩) h
theorem pair_tree {P : Nat → Prop} {W : World} {op : Int} {t u : Ex} {x y : Value} {T : TypeId} {g : Nat} (hg : g = W.heap.size) (hP : P g) (hop : 0 ≤ op ∧ op ≤ 100) (ht : ExKidsB P t W x) (hu : ExKidsB P u W y) :
  ExKidsB P (trB op t u) (W.alloc (.cells #[.int .i64 t.op, .int .i64 t.va, .int .i64 t.vb, .int .i64 t.dm, .string t.nm, x, .int .i64 u.op, .int .i64 u.va, .int .i64 u.vb, .int .i64 u.dm, .string u.nm, y] T)) (.slice (some ⟨g, 0, none⟩) 2 2) := by
 subst hg;have r : Rel W (W.alloc (.cells #[.int .i64 t.op, .int .i64 t.va, .int .i64 t.vb, .int .i64 t.dm, .string t.nm, x, .int .i64 u.op, .int .i64 u.va, .int .i64 u.vb, .int .i64 u.dm, .string u.nm, y] T)) := (Rel.refl _).alloc _;refine ⟨⟨by omega, by omega, by decide, by decide, by decide, by decide, by decide, by decide, by decide⟩, by omega, _, _, rfl, fun _ => ⟨W.heap.size, 0, rfl, by simp, hP, fun i hi => ?_⟩⟩
 rcases (show i = 0 ∨ i = 1 by omega) with rfl | rfl
 ·exact ⟨x, ⟨by simp, by simp, by simp, by simp, by simp, by simp⟩, kidsB_rl ht r⟩
 ·exact ⟨y, ⟨by simp, by simp, by simp, by simp, by simp, by simp⟩, kidsB_rl hu r⟩
theorem one_tree {P : Nat → Prop} {W : World} {op : Int} {t : Ex} {x : Value} {T : TypeId} {g : Nat} (hg : g = W.heap.size) (hP : P g) (hop : 0 ≤ op ∧ op ≤ 100) (ht : ExKidsB P t W x) :
  ExKidsB P (trU op t) (W.alloc (.cells #[.int .i64 t.op, .int .i64 t.va, .int .i64 t.vb, .int .i64 t.dm, .string t.nm, x] T)) (.slice (some ⟨g, 0, none⟩) 1 1) := by
 subst hg;have r : Rel W (W.alloc (.cells #[.int .i64 t.op, .int .i64 t.va, .int .i64 t.vb, .int .i64 t.dm, .string t.nm, x] T)) := (Rel.refl _).alloc _;refine ⟨⟨by omega, by omega, by decide, by decide, by decide, by decide, by decide, by decide, by decide⟩, by omega, _, _, rfl, fun _ => ⟨W.heap.size, 0, rfl, by simp, hP, fun i hi => ?_⟩⟩;obtain rfl : i = 0 := by omega
 exact ⟨x, ⟨by simp, by simp, by simp, by simp, by simp, by simp⟩, kidsB_rl ht r⟩
theorem bin_ops (l : List (List UInt8 × Int)) (tk : List Tk) (s : Pt) (h : l.all (fun p => decide (0 ≤ p.2) && decide (p.2 ≤ 100)) = true) : 0 ≤ binT tk s l ∧ binT tk s l ≤ 100 := by
 induction l with
 | nil => simp [binT]
 | cons p l ih =>
  simp only [List.all_cons, Bool.and_eq_true, decide_eq_true_eq] at h;simp only [binT];split
  ·exact h.1
  ·exact ih h.2
set_option maxRecDepth 20000 in
theorem psum_step (b G : Nat) (tk : List Tk) (E : Int) (hT : TksOk tk) (f : Nat) (H6 : ∀ g, g ≤ f → PC b G tk E 219 6 g) : PC b G tk E 215 5 (f + 1) := by
 intro w s hP hf;have hf' : 10 * rem tk s + 3 ≤ f + 1 := hf;have HP := Hj hP;have hlt := hP.lt;have hbw : w.heap.size ≠ b := by omega
 have HH6 := Hj H6;clear hP hf H6;rw [pe_5]
 have BR0 := Hj (BoxAt.new (w := w) (g := w.heap.size) rfl (.int .i64 0) (.int .i64 0) (.int .i64 0) (.int .i64 0) (.string ⟨#[]⟩) (.slice none 0 0) 63);have P0 := Hj (HP.out.rel ((Rel.refl _).alloc (.cells #[.int .i64 0, .int .i64 0, .int .i64 0, .int .i64 0, .string ⟨#[]⟩, .slice none 0 0] 63)));have C1 := Hj (HH6.out f (by omega) _ s P0.out (show 10 * rem tk s + 2 ≤ f by omega));unfold PeRes at C1;have B1 := Hj (pe_beh tk f 6 .no s (by unfold md; decide));obtain ⟨t1, ht1⟩ : ∃ t, (pe tk f 6 .no s).1 = t := ⟨_, rfl⟩;obtain ⟨s1, hs1⟩ : ∃ t, (pe tk f 6 .no s).2 = t := ⟨_, rfl⟩;rw [ht1, hs1] at C1 ⊢;rw [hs1] at B1;obtain ⟨RES, hRES⟩ : ∃ r, pe tk f 15 t1 s1 = r := ⟨_, rfl⟩;rw [hRES];have HRES := Hj hRES;have b1 := B1.out.rem;clear hRES ht1 hs1;unfold PeRes;go_enter Tryz.func215, Tryz.ntmps215;go_wp2_with fail;refine C1.out.mono ?_;rintro e w1 ⟨x1, rfl, hK1, hP1, h1⟩;obtain ⟨xa1, xc1, rfl⟩ := kids_slice (kidsB_to hK1);clear C1;have k1 : w.heap.size + 1 ≤ w1.heap.size := by have := h1.size; simpa using this
 have BR1 := Hj ((BR0.out.ro h1 hbw).rel ((Rel.refl _).alloc (.cells #[.int .i64 t1.op, .int .i64 t1.va, .int .i64 t1.vb, .int .i64 t1.dm, .string t1.nm, .slice xa1 t1.cnt xc1] 63)));have BE1 := Hj (BoxAt.new (w := w1) (g := w1.heap.size) rfl (.int .i64 t1.op) (.int .i64 t1.va) (.int .i64 t1.vb) (.int .i64 t1.dm) (.string t1.nm) (.slice xa1 t1.cnt xc1) 63);have P1 := Hj (hP1.rel ((Rel.refl _).alloc (.cells #[.int .i64 t1.op, .int .i64 t1.va, .int .i64 t1.vb, .int .i64 t1.dm, .string t1.nm, .slice xa1 t1.cnt xc1] 63)));have K1 := Hj (kidsB_rl (kidsB_mono (Q := fun q => w.heap.size < q ∧ q ≠ w1.heap.size) hK1 (fun q hq hp => ⟨by simp at hp; omega, by omega⟩)) ((Rel.refl _).alloc (.cells #[.int .i64 t1.op, .int .i64 t1.va, .int .i64 t1.vb, .int .i64 t1.dm, .string t1.nm, .slice xa1 t1.cnt xc1] 63)));have R1 := Hj ((((Ro.refl b w).alloc _).trans h1).alloc (.cells #[.int .i64 t1.op, .int .i64 t1.va, .int .i64 t1.vb, .int .i64 t1.dm, .string t1.nm, .slice xa1 t1.cnt xc1] 63));have hbe : w1.heap.size ≠ b := by omega
 clear hK1 hP1 h1;go_wp2_with fail
 go_loopg [] f (fun g wx => ∃ (a : Ex) (xa : Option Addr) (xc : Nat) (s' : Pt), g ≤ f ∧ 10 * rem tk s' + 1 ≤ g ∧ Hid (pe tk g 15 a s' = RES) ∧ Hid (BoxAt wx w.heap.size (.int .i64 0) (.int .i64 0) (.int .i64 0) (.int .i64 0) (.string ⟨#[]⟩) (.slice none 0 0)) ∧ Hid (BoxAt wx w1.heap.size (.int .i64 a.op) (.int .i64 a.va) (.int .i64 a.vb) (.int .i64 a.dm) (.string a.nm) (.slice xa a.cnt xc)) ∧ Hid (ExKidsB (fun q => w.heap.size < q ∧ q ≠ w1.heap.size) a wx (.slice xa a.cnt xc)) ∧ Hid (Prs wx b G tk E s') ∧ Hid (Ro b w wx) ∧ w1.heap.size < wx.heap.size)
 case atStart => exact ⟨t1, xa1, xc1, s1, Nat.le_refl _, by omega, HRES, BR1, BE1, K1, P1, R1, by simp⟩
 case round =>
  obtain ⟨a, xa, xc, s', hgf, hgr, hF, hBR, hBE, hK, hP, hR, hsz⟩ := hrel
  cases gk with
  | zero => omega
  | succ g =>
   have hF1 := hF.out;rw [pe_15] at hF1;have PW := Hj (hP.out.rel ((Rel.refl _).alloc (.cells #[.string ⟨#[43]⟩, .int .i64 7, .string ⟨#[45]⟩, .int .i64 8] 156)))
   have A := Hj (binary_any b G tk E sumL s' wr.heap.size 2 _ PW.out (by decide) (by simp) (by have := hP.out.lt; omega) (fun i p hp => by
    rcases (show i = 0 ∨ i = 1 ∨ 2 ≤ i by omega) with rfl | rfl | h
    ·cases hp; exact ⟨by simp, by simp⟩
    ·cases hp; exact ⟨by simp, by simp⟩
    ·rw [show (sumL)[i]? = none from List.getElem?_eq_none h] at hp; cases hp))
   unfold BinRes binP at A;have bt := bin_ops sumL tk s';obtain ⟨op, hop⟩ : ∃ op, binT tk s' sumL = op := ⟨_, rfl⟩;obtain ⟨k, hk⟩ : ∃ k, binO tk s' sumL = k := ⟨_, rfl⟩;rw [hk, hop] at A hF1;rw [hop] at bt;have hop2 : 0 ≤ op ∧ op ≤ 100 := bt (by decide);clear hop bt;cases k
   ·rw [if_neg (by simp)] at A hF1;clear hk;subst hF1;go_wp2_with fail;refine A.out.mono ?_;rintro e w2 ⟨rfl, hP2, h2'⟩;have h2 := (Ro.of (b := b) ((Rel.refl wr).alloc (.cells #[.string ⟨#[43]⟩, .int .i64 7, .string ⟨#[45]⟩, .int .i64 8] 156))).trans h2';clear h2';have BR2 := Hj (hBR.out.ro h2 hbw);have BE2 := Hj (hBE.out.ro h2 hbe);have K2 := Hj (kidsB_ro hK.out h2 (fun q hq => by have := hP.out.lt; have := HP.out.lt; omega));have P2 := Hj hP2;have R2 := Hj (hR.out.trans h2);clear hP2 h2;obtain ⟨el, ec0, ec1, ec2, ec3, ec4, ec5, ef0, ef1, ef2, ef3, ef4, ef5⟩ := BE2.out;obtain ⟨rl, rc0, rc1, rc2, rc3, rc4, rc5, rf0, rf1, rf2, rf3, rf4, rf5⟩ := BR2.out;((try simp only []); (repeat (first | go_values | go_skip | go_guarded | go_step | go_upon | go_in)));have hp := prs_put6 P2.out HP.out.toks R2.out (Nat.le_refl w.heap.size) hbw (.int .i64 a.op) (.int .i64 a.va) (.int .i64 a.vb) (.int .i64 a.dm) (.string a.nm) (.slice xa a.cnt xc);obtain ⟨g0, g1, g2, g3, g4, g5⟩ : G6 ((((((w2.setCell ⟨w.heap.size, 0, none⟩ (.int .i64 a.op)).setCell ⟨w.heap.size, 1, none⟩ (.int .i64 a.va)).setCell ⟨w.heap.size, 2, none⟩ (.int .i64 a.vb)).setCell ⟨w.heap.size, 3, none⟩ (.int .i64 a.dm)).setCell ⟨w.heap.size, 4, none⟩ (.string a.nm)).setCell ⟨w.heap.size, 5, none⟩ (.slice xa a.cnt xc)) (w.heap.size) (.int .i64 a.op) (.int .i64 a.va) (.int .i64 a.vb) (.int .i64 a.dm) (.string a.nm) (.slice xa a.cnt xc) := ⟨by go_simp, by go_simp, by go_simp, by go_simp, by go_simp, by go_simp⟩;refine bodyPost_ret (v := .agg #[.int .i64 a.op, .int .i64 a.va, .int .i64 a.vb, .int .i64 a.dm, .string a.nm, .slice xa a.cnt xc]) ?_ rfl ⟨_, rfl, kidsB_p6 K2.out (fun q _ hq => ⟨by omega, by omega⟩) _ _ _ _ _ _, hp.1, hp.2⟩;simp [results, Tryz.results215, go_sem, g0, g1, g2, g3, g4, g5]
   ·rw [if_pos rfl] at A hF1;obtain ⟨-, hrem⟩ := bin_beh hk;clear hk;go_wp2_with fail;refine A.out.mono ?_;rintro e w2 ⟨rfl, hP2, h2'⟩;have h2 := (Ro.of (b := b) ((Rel.refl wr).alloc (.cells #[.string ⟨#[43]⟩, .int .i64 7, .string ⟨#[45]⟩, .int .i64 8] 156))).trans h2';clear h2';have BR2 := Hj (hBR.out.ro h2 hbw);have BE2 := Hj (hBE.out.ro h2 hbe);have K2 := Hj (kidsB_ro hK.out h2 (fun q hq => by have := hP.out.lt; have := HP.out.lt; omega));have P2 := Hj hP2;have R2 := Hj (hR.out.trans h2);have sz2 := Nat.lt_of_lt_of_le hsz h2.size;clear hP2 h2;go_wp2_with fail;refine wp_region_calm (fun M w' => M.getD 6 false = false → BoxAt w' w1.heap.size (.int .i64 a.op) (.int .i64 a.va) (.int .i64 a.vb) (.int .i64 a.dm) (.string a.nm) (.slice xa a.cnt xc)) (fun i => i == 6) [0, 1, 2] 4 (by kernel_rfl) (by kernel_rfl) ?hst ?hS0 (fun w0 h0 => ?_)
    case hst => exact fun _ _ _ h r hM => (h hM).rel r
    case hS0 => exact fun _ => BE2.out
    iterate 3
     refine wpCalm_go rfl (by kernel_rfl) (fun K hK => ?_);apply Exists.intro;refine ⟨fun M w hM hS => ?_, hK _ ?_⟩
     ·have bx := hS (hM 6 (by kernel_rfl));have d0 := bx.c0;have d1 := bx.c1;have d2 := bx.c2;have d3 := bx.c3;have d4 := bx.c4;have d5 := bx.c5;unfold calmAt;go_simp;exact ⟨rfl, Rel.refl _⟩
     clear hK K
    refine wpCalm_nil ?_;have kz3 := h0.size;(try simp only [zsa, zsc, zsd] at kz3);have H3 := Hj h0;clear h0;refine wpAnyR_ready (rs := [3]) (by kernel_rfl) (by simp) (AllR.cons rfl (fun w4 h4 K' hK' => ?_) AllR.nil);have kz4 := h4.size;(try simp only [zsa, zsc, zsd] at kz4);have H4 := Hj h4;clear h4;have T4 := Hj (H3.out.trans H4.out);have sz4 := Nat.lt_of_lt_of_le sz2 T4.out.size;have P4 := Hj (P2.out.rel T4.out);have C5 := Hj (HH6.out g (by omega) w4 s'.adv P4.out (show 10 * rem tk s'.adv + 2 ≤ g by omega));unfold PeRes at C5;have B5 := Hj (pe_beh tk g 6 .no s'.adv (by unfold md; decide));obtain ⟨t5, ht5⟩ : ∃ t, (pe tk g 6 .no s'.adv).1 = t := ⟨_, rfl⟩;obtain ⟨s5, hs5⟩ : ∃ t, (pe tk g 6 .no s'.adv).2 = t := ⟨_, rfl⟩;rw [ht5, hs5] at C5 hF1;rw [hs5] at B5;have HF := Hj hF1;have b5 := B5.out.rem;clear ht5 hs5 hF1;go_simp;refine C5.out.mono ?_;rintro e w5 ⟨x5, rfl, hK5, hP5, h5⟩;obtain ⟨xa5, xc5, rfl⟩ := kids_slice (kidsB_to hK5);clear C5;have BR5 := Hj ((BR2.out.rel T4.out).ro h5 hbw);have BE5 := Hj ((BE2.out.rel T4.out).ro h5 hbe);have K5 := Hj (kidsB_ro (kidsB_rl K2.out T4.out) h5 (fun q hq => by have := hP.out.lt; have := HP.out.lt; omega));have L5 := Hj (kidsB_mono (Q := fun q => w.heap.size < q ∧ q ≠ w1.heap.size) hK5 (fun q hq hp => ⟨by omega, by omega⟩));have P5 := Hj hP5;have R5 := Hj ((R2.out.trans (Ro.of T4.out)).trans h5);have sz5 := Nat.lt_of_lt_of_le sz4 h5.size;clear hK5 hP5 h5;refine hK'.out _ _ (fun _ => BE5.out) ?_;clear hK' K';refine wpAnyR_ready (rs := [4]) (by kernel_rfl) (by simp) (AllR.cons rfl (fun w6 h6 K' hK' => ?_) AllR.nil);have kz6 := h6.size;(try simp only [zsa, zsc, zsd] at kz6);have H6 := Hj h6;clear h6;have sz6 := Nat.lt_of_lt_of_le sz5 H6.out.size;go_simp;refine hK'.out _ _ (fun _ => (BE5.out.rel H6.out).rel ((Rel.refl _).alloc _)) ?_;clear hK' K';have TR := Hj (pair_tree (op := op) (W := w6) (T := 63) rfl (P := fun q => w.heap.size < q ∧ q ≠ w1.heap.size) ⟨by omega, by omega⟩ hop2 (kidsB_rl K5.out H6.out) (kidsB_rl L5.out H6.out));refine wpAnyR_ready (rs := [5]) (by kernel_rfl) (by simp) (AllR.cons rfl (fun w7 h7 K' hK' => ?_) AllR.nil);have T7 := Hj (((H6.out).alloc (.cells #[.int .i64 a.op, .int .i64 a.va, .int .i64 a.vb, .int .i64 a.dm, .string a.nm, .slice xa a.cnt xc, .int .i64 t5.op, .int .i64 t5.va, .int .i64 t5.vb, .int .i64 t5.dm, .string t5.nm, .slice xa5 t5.cnt xc5] 63)).trans h7);have TK7 := Hj (kidsB_rl TR.out h7);clear h7;go_simp;refine hK'.out _ _ (fun _ => BE5.out.rel T7.out) ?_;clear hK' K';refine wpAnyR_ready (rs := [6]) (by kernel_rfl) (by simp) (AllR.cons rfl (fun w8 h8 K' hK' => ?_) AllR.nil);have T8 := Hj (T7.out.trans h8);have BE8 := Hj (BE5.out.rel T8.out);obtain ⟨el, ec0, ec1, ec2, ec3, ec4, ec5, ef0, ef1, ef2, ef3, ef4, ef5⟩ := BE8.out;have TK8 := Hj (kidsB_rl TK7.out h8);clear h8;go_simp;refine hK'.out _ _ (fun h => absurd (h.symm.trans (by kernel_rfl : _ = true)) (by simp)) ?_;clear hK' K';refine wpAnyR_end (by kernel_rfl) (fun w9 h9 => ?_);have P8 := prs_put6 (P5.out.rel T8.out) HP.out.toks (R5.out.trans (Ro.of T8.out)) (g := w1.heap.size) (by omega) hbe (.int .i64 op) (.int .i64 0) (.int .i64 0) (.int .i64 0) (.string ⟨#[]⟩) (.slice (some ⟨w6.heap.size, 0, none⟩) 2 2);have BR9 := Hj ((((((((BR5.out.rel T8.out).other (by omega) 0 (.int .i64 op)).other (by omega) 1 (.int .i64 0)).other (by omega) 2 (.int .i64 0)).other (by omega) 3 (.int .i64 0)).other (by omega) 4 (.string ⟨#[]⟩)).other (by omega) 5 (.slice (some ⟨w6.heap.size, 0, none⟩) 2 2)).rel h9);have BE9 := Hj ((BE8.out.put6 (.int .i64 op) (.int .i64 0) (.int .i64 0) (.int .i64 0) (.string ⟨#[]⟩) (.slice (some ⟨w6.heap.size, 0, none⟩) 2 2)).rel h9);have K9 := Hj (kidsB_rl (kidsB_p6 TK8.out (g := w1.heap.size) (Q := fun q => w.heap.size < q ∧ q ≠ w1.heap.size) (fun q _ hq => ⟨hq.2, hq⟩) (.int .i64 op) (.int .i64 0) (.int .i64 0) (.int .i64 0) (.string ⟨#[]⟩) (.slice (some ⟨w6.heap.size, 0, none⟩) 2 2)) h9);have P9 := Hj (P8.1.rel h9);have R9 := Hj (P8.2.trans (Ro.of h9));have sz9 : w1.heap.size < w9.heap.size := by have := h9.size; have := T8.out.size; simp [World.setCell] at *; omega
    clear h9 P8;go_wp2
    go_roundg g
    case rel => exact ⟨trB op a t5, some ⟨w6.heap.size, 0, none⟩, 2, s5, by omega, by omega, HF, BR9, BE9, K9, P9, R9, sz9⟩
    case measure => omega
end Go.Proofs.YtojghojlapgbiaaGreatDoor

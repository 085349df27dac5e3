/- Lemmas, each as it is printed; no conditions but those printed. -/
import Derived.Test.YtojghojlapgbiaaGreatDoorWB32
namespace Go.Proofs.YtojghojlapgbiaaGreatDoor
set_option maxHeartbeats 16000000
open Go.RowKit Cal Str Tok Frac Txt Tree
attribute [local go_sem] calmUpon
set_option linter.unusedVariables false
set_option linter.unusedSimpArgs false
def SameOk (t : Ex) : Prop := ∀ (u : Ex) (x y : Value) (w : World), ExKids t w x → ExKids u w y → Calls Tryz.prog 135 #[.agg #[.int .i64 t.op, .int .i64 t.va, .int .i64 t.vb, .int .i64 t.dm, .string t.nm, x], .agg #[.int .i64 u.op, .int .i64 u.va, .int .i64 u.vb, .int .i64 u.dm, .string u.nm, y]] w (BRes (t.same u) w)
theorem equal_of (n n' : Nat) (kid kid' : Nat → Ex) (IH : Hid (∀ k, SameOk (kid k))) (ad ad' : Option Addr) (cap cap' : Nat) (w : World) (hk : Hid (KidsAt w n kid ad)) (hk' : Hid (KidsAt w n' kid' ad')) (hn : n ≤ 17592186044416) (hn' : n' ≤ 17592186044416) :
  Calls Tryz.prog 168 #[.slice ad n cap, .slice ad' n' cap', .func (.func 135) #[] #[]] w (BRes ((n == n') && alK (fun i => (kid i).same (kid' i)) n) w) := by
 unfold BRes;by_cases hnn : n = n'
 ·subst hnn;rw [show (n == n) = true by simp, Bool.true_and];have en : ((n : Int) == (n : Int)) = true := by simp
  go_enter Tryz.func168, Tryz.ntmps168;go_wp2_with fail
  go_loopw [17] (fun i wx => ∃ k : Nat, k ≤ n ∧ i = .int .i64 k ∧ Hid (alK (fun i => (kid i).same (kid' i)) k = true) ∧ Hid (Rel w wx)) (fun i _ => n - (intOf i).toNat)
  case atStart => exact ⟨0, by omega, rfl, rfl, Rel.refl _⟩
  case round =>
   obtain ⟨k, hkn, rfl, hA, hR⟩ := hrel;by_cases hlt : k < n
   ·obtain ⟨g, off, rfl, hg, hc⟩ := hk.out (by omega);obtain ⟨g', off', rfl, hg', hc'⟩ := hk'.out (by omega);obtain ⟨xi, hs, hx⟩ := hc k hlt;obtain ⟨yi, hs', hy⟩ := hc' k hlt;obtain ⟨xa, xc, rfl⟩ := kids_slice hx;obtain ⟨ya, yc, rfl⟩ := kids_slice hy;obtain ⟨c0, c1, c2, c3, c4, c5⟩ := six_rel hs hR.out hg;obtain ⟨d0, d1, d2, d3, d4, d5⟩ := six_rel hs' hR.out hg';have hgr := Nat.lt_of_lt_of_le hg hR.out.size;have hgr' := Nat.lt_of_lt_of_le hg' hR.out.size;have ki : (k : Int) < (n : Int) := by omega
    have C := Hj fun w' (r : Rel w w') => IH.out k (kid' k) _ _ w' (kids_rel hx r) (kids_rel hy r)
    unfold BRes at C;have hsu : alK (fun i => (kid i).same (kid' i)) (k + 1) = ((kid k).same (kid' k)) := by simp only [alK]; rw [hA.out]; simp
    have HSU := Hj hsu;obtain ⟨B, hB⟩ : ∃ B, (kid k).same (kid' k) = B := ⟨_, rfl⟩;rw [hB] at C HSU;clear hs hs' hx hy hc hc' hsu hB;cases B
    ·have hno : Hid (alK (fun i => (kid i).same (kid' i)) n = false) := by
      show _ = _
      cases hX : alK (fun i => (kid i).same (kid' i)) n
      ·rfl
      ·have := HSU.out;rw [alK_of (fun i hi => alK_lt hX i (by omega))] at this;cases this
     go_wp2_with fail;refine (C.out _ (by show Rel _ _; refine hR.out.trans ?_; exact rx0)).mono ?_;rintro e w1 ⟨rfl, h1⟩;have kz1 := h1.size;(try simp only [zsa, zsc, zsd] at kz1);have H1 := Hj h1;clear h1;go_wp2;go_ret;exact ⟨ret_b2 hno.out.symm, by refine hR.out.trans ?_; exact rx10⟩
    ·go_wp2_with fail;refine (C.out _ (by show Rel _ _; refine hR.out.trans ?_; exact rx0)).mono ?_;rintro e w1 ⟨rfl, h1⟩;have kz1 := h1.size;(try simp only [zsa, zsc, zsd] at kz1);have H1 := Hj h1;clear h1;go_wp2
     go_roundw
     case rel => exact ⟨k + 1, by omega, by go_num, HSU, by show Rel _ _; refine hR.out.trans ?_; exact rx10⟩
     case measure => simp [intOf]; omega
   ·have : k = n := by omega
    subst this;have HA := hA;go_wp2;go_ret;exact ⟨ret_b2 HA.out.symm, hR.out⟩
 ·rw [show (n == n') = false by simpa using hnn, Bool.false_and];have en : ((n : Int) == (n' : Int)) = false := by rw [zn]; omega
  go_enter Tryz.func168, Tryz.ntmps168;go_wp2;go_ret;exact ⟨rfl, Rel.refl _⟩
theorem Same_any (t : Ex) : SameOk t := by
 induction t with
 | no => intro u x y w h; exact h.elim
 | mk op a b d s n kid ih =>
  intro u x y w h hu
  cases u with
  | no => exact hu.elim
  | mk op' a' b' d' s' n' kid' =>
   obtain ⟨-, hn, ad, cap, rfl, hk⟩ := h;obtain ⟨-, hn', ad', cap', rfl, hk'⟩ := hu;have HK : Hid (KidsAt w n kid ad) := hk;have HK' : Hid (KidsAt w n' kid' ad') := hk';have IH := Hj ih;have EQ := Hj fun w' (r : Rel w w') => equal_of n n' kid kid' IH ad ad' cap cap' w' (Hj (kidsAt_rel HK.out r)) (Hj (kidsAt_rel HK'.out r)) hn hn'
   unfold BRes at EQ ⊢;simp only [Ex.op, Ex.va, Ex.vb, Ex.dm, Ex.nm, Ex.same];obtain ⟨A, hA⟩ : ∃ A, ((n == n') && alK (fun i => (kid i).same (kid' i)) n) = A := ⟨_, rfl⟩;rw [hA] at EQ ⊢;rw [← str_eqL];clear hA hk hk' ih;by_cases h1 : op = op'
   ·subst h1;by_cases h2 : a = a' ∧ b = b'
    ·obtain ⟨rfl, rfl⟩ := h2;by_cases h3 : d = d'
     ·subst h3;obtain ⟨S, hS⟩ : ∃ S, (s.toList == s'.toList) = S := ⟨_, rfl⟩;rw [hS];cases S
      ·go_enter Tryz.func135, Tryz.ntmps135;go_wp2;go_ret;exact ⟨ret_b2 (by simp), rx0⟩
      ·go_enter Tryz.func135, Tryz.ntmps135;go_wp2_with fail;refine (EQ.out _ (rx0)).mono ?_;rintro e w1 ⟨rfl, h1⟩;have kz1 := h1.size;(try simp only [zsa, zsc, zsd] at kz1);have H1 := Hj h1;clear h1;go_wp2;go_ret;exact ⟨ret_b2 (by simp), rx10⟩
     ·have e3 : (d == d') = false := by rw [zn]; exact h3
      go_enter Tryz.func135, Tryz.ntmps135;go_wp2;go_ret;exact ⟨ret_b2 (by simp [e3]), rx0⟩
    ·by_cases ha : a = a'
     ·subst ha;have e2 : (b == b') = false := by rw [zn]; exact fun e => h2 ⟨rfl, e⟩
      go_enter Tryz.func135, Tryz.ntmps135;go_wp2;go_ret;exact ⟨ret_b2 (by simp [e2]), rx0⟩
     ·have e2 : (a == a') = false := by rw [zn]; exact ha
      go_enter Tryz.func135, Tryz.ntmps135;go_wp2;go_ret;exact ⟨ret_b2 (by simp [e2]), rx0⟩
   ·have e1 : (op == op') = false := by rw [zn]; exact h1
    go_enter Tryz.func135, Tryz.ntmps135;go_wp2;go_ret;exact ⟨ret_b2 (by simp [e1]), rx0⟩
theorem l_rl {P : Nat → Prop} {w w' : World} {p : ByteArray × (Ex × Value)} (h : LeB P w p) (r : Rel w w') : LeB P w' p := ⟨h.1, h.2.rel r⟩
theorem g_rl {P : Nat → Prop} {w w' : World} {p : Int × (Ex × Value) × (Ex × Value)} (h : GrB P w p) (r : Rel w w') : GrB P w' p := ⟨h.1, h.2.1.rel r, h.2.2.rel r⟩
theorem r_rl {P : Nat → Prop} {w w' : World} {p : Int × (Ex × Value)} (h : ReB P w p) (r : Rel w w') : ReB P w' p := ⟨h.1, h.2.rel r⟩
set_option maxRecDepth 20000 in
theorem sameLet_any (p q : ByteArray × (Ex × Value)) (w : World) (hp : LeB (fun _ => True) w p) (hq : LeB (fun _ => True) w q) : Calls Tryz.prog 77 #[.agg #[.string p.1, .int .i64 p.2.1.op, .int .i64 p.2.1.va, .int .i64 p.2.1.vb, .int .i64 p.2.1.dm, .string p.2.1.nm, p.2.2], .agg #[.string q.1, .int .i64 q.2.1.op, .int .i64 q.2.1.va, .int .i64 q.2.1.vb, .int .i64 q.2.1.dm, .string q.2.1.nm, q.2.2]] w (BRes (leS p q) w) := by
 obtain ⟨s, ⟨t, x⟩⟩ := p;obtain ⟨xa, xc, e1⟩ := kids_slice (kidsB_to hp.2.1);simp only at e1;subst e1;obtain ⟨s', ⟨t', x'⟩⟩ := q;obtain ⟨xa', xc', e1'⟩ := kids_slice (kidsB_to hq.2.1);simp only at e1';subst e1';have ET := Hj fun w' (r : Rel w w') => Same_any t t' _ _ w' (kids_rel (kidsB_to hp.2.1) r) (kids_rel (kidsB_to hq.2.1) r)
 obtain ⟨A, hA⟩ : ∃ A, t.same t' = A := ⟨_, rfl⟩;rw [hA] at ET;unfold BRes at ET;unfold BRes leS;dsimp only;rw [hA];clear hp hq hA;rw [← str_eqL];obtain ⟨S, hS⟩ : ∃ S, (s.toList == s'.toList) = S := ⟨_, rfl⟩;rw [hS];obtain ⟨WB, hWB⟩ : ∃ X, (w.alloc (.cells #[.string s, .int .i64 t.op, .int .i64 t.va, .int .i64 t.vb, .int .i64 t.dm, .string t.nm, .slice xa t.cnt xc] 74)).alloc (.cells #[.string s', .int .i64 t'.op, .int .i64 t'.va, .int .i64 t'.vb, .int .i64 t'.dm, .string t'.nm, .slice xa' t'.cnt xc'] 74) = X := ⟨_, rfl⟩;have R0 : Hid (Rel w WB) := by show Rel _ _; rw [← hWB]; exact ((Rel.refl w).alloc _).alloc _
 have BA : Hid (Blk WB w.heap.size 74 [.string s, .int .i64 t.op, .int .i64 t.va, .int .i64 t.vb, .int .i64 t.dm, .string t.nm, .slice xa t.cnt xc]) := by show Blk _ _ _ _; rw [← hWB]; exact (Blk.new w _ #[.string s, .int .i64 t.op, .int .i64 t.va, .int .i64 t.vb, .int .i64 t.dm, .string t.nm, .slice xa t.cnt xc]).alloc _
 have BB : Hid (Blk WB (w.heap.size + 1) 74 [.string s', .int .i64 t'.op, .int .i64 t'.va, .int .i64 t'.vb, .int .i64 t'.dm, .string t'.nm, .slice xa' t'.cnt xc']) := by
  show Blk _ _ _ _
  rw [← hWB];have h := Blk.new (w.alloc (.cells #[.string s, .int .i64 t.op, .int .i64 t.va, .int .i64 t.vb, .int .i64 t.dm, .string t.nm, .slice xa t.cnt xc] 74)) 74 #[.string s', .int .i64 t'.op, .int .i64 t'.va, .int .i64 t'.vb, .int .i64 t'.dm, .string t'.nm, .slice xa' t'.cnt xc'];rw [World.size_alloc] at h; exact h
 have x0 := (BA.out.rel (Rel.refl _)).c (j := 0) rfl;have y0 := (BB.out.rel (Rel.refl _)).c (j := 0) rfl;have x1 := (BA.out.rel (Rel.refl _)).c (j := 1) rfl;have y1 := (BB.out.rel (Rel.refl _)).c (j := 1) rfl;have x2 := (BA.out.rel (Rel.refl _)).c (j := 2) rfl;have y2 := (BB.out.rel (Rel.refl _)).c (j := 2) rfl;have x3 := (BA.out.rel (Rel.refl _)).c (j := 3) rfl;have y3 := (BB.out.rel (Rel.refl _)).c (j := 3) rfl;have x4 := (BA.out.rel (Rel.refl _)).c (j := 4) rfl;have y4 := (BB.out.rel (Rel.refl _)).c (j := 4) rfl;have x5 := (BA.out.rel (Rel.refl _)).c (j := 5) rfl;have y5 := (BB.out.rel (Rel.refl _)).c (j := 5) rfl;have x6 := (BA.out.rel (Rel.refl _)).c (j := 6) rfl;have y6 := (BB.out.rel (Rel.refl _)).c (j := 6) rfl;have xl := (BA.out.rel (Rel.refl _)).lt;have yl := (BB.out.rel (Rel.refl _)).lt;cases S
 ·go_enter Tryz.func77, Tryz.ntmps77;go_wp2;go_ret;exact ⟨ret_b2 (by simp), R0.out⟩
 ·go_enter Tryz.func77, Tryz.ntmps77;go_wp2_with fail;(try rw [hWB]);refine (ET.out _ R0.out).mono ?_;rintro e w1 ⟨rfl, h1⟩;have R1 := Hj h1;clear h1 hWB;clear xl yl x0 y0 x1 y1 x2 y2 x3 y3 x4 y4 x5 y5 x6 y6;have x0 := (BA.out.rel R1.out).c (j := 0) rfl;have y0 := (BB.out.rel R1.out).c (j := 0) rfl;have x1 := (BA.out.rel R1.out).c (j := 1) rfl;have y1 := (BB.out.rel R1.out).c (j := 1) rfl;have x2 := (BA.out.rel R1.out).c (j := 2) rfl;have y2 := (BB.out.rel R1.out).c (j := 2) rfl;have x3 := (BA.out.rel R1.out).c (j := 3) rfl;have y3 := (BB.out.rel R1.out).c (j := 3) rfl;have x4 := (BA.out.rel R1.out).c (j := 4) rfl;have y4 := (BB.out.rel R1.out).c (j := 4) rfl;have x5 := (BA.out.rel R1.out).c (j := 5) rfl;have y5 := (BB.out.rel R1.out).c (j := 5) rfl;have x6 := (BA.out.rel R1.out).c (j := 6) rfl;have y6 := (BB.out.rel R1.out).c (j := 6) rfl;have xl := (BA.out.rel R1.out).lt;have yl := (BB.out.rel R1.out).lt;go_wp2;go_ret;exact ⟨ret_b2 (by simp), R0.out.trans R1.out⟩
set_option maxRecDepth 20000 in
theorem sameGrant_any (p q : Int × (Ex × Value) × (Ex × Value)) (w : World) (hp : GrB (fun _ => True) w p) (hq : GrB (fun _ => True) w q) : Calls Tryz.prog 79 #[.agg #[.int .i64 p.1, .int .i64 p.2.1.1.op, .int .i64 p.2.1.1.va, .int .i64 p.2.1.1.vb, .int .i64 p.2.1.1.dm, .string p.2.1.1.nm, p.2.1.2, .int .i64 p.2.2.1.op, .int .i64 p.2.2.1.va, .int .i64 p.2.2.1.vb, .int .i64 p.2.2.1.dm, .string p.2.2.1.nm, p.2.2.2], .agg #[.int .i64 q.1, .int .i64 q.2.1.1.op, .int .i64 q.2.1.1.va, .int .i64 q.2.1.1.vb, .int .i64 q.2.1.1.dm, .string q.2.1.1.nm, q.2.1.2, .int .i64 q.2.2.1.op, .int .i64 q.2.2.1.va, .int .i64 q.2.2.1.vb, .int .i64 q.2.2.1.dm, .string q.2.2.1.nm, q.2.2.2]] w (BRes (grS p q) w) := by
 obtain ⟨k, ⟨t, x⟩, ⟨u, y⟩⟩ := p;obtain ⟨xa, xc, e1⟩ := kids_slice (kidsB_to hp.2.1.1);obtain ⟨ya, yc, e2⟩ := kids_slice (kidsB_to hp.2.2.1);simp only at e1 e2;subst e1 e2;obtain ⟨k', ⟨t', x'⟩, ⟨u', y'⟩⟩ := q;obtain ⟨xa', xc', e1'⟩ := kids_slice (kidsB_to hq.2.1.1);obtain ⟨ya', yc', e2'⟩ := kids_slice (kidsB_to hq.2.2.1);simp only at e1' e2';subst e1' e2';have ET := Hj fun w' (r : Rel w w') => Same_any t t' _ _ w' (kids_rel (kidsB_to hp.2.1.1) r) (kids_rel (kidsB_to hq.2.1.1) r)
 obtain ⟨A, hA⟩ : ∃ A, t.same t' = A := ⟨_, rfl⟩;rw [hA] at ET;unfold BRes at ET;have EU := Hj fun w' (r : Rel w w') => Same_any u u' _ _ w' (kids_rel (kidsB_to hp.2.2.1) r) (kids_rel (kidsB_to hq.2.2.1) r)
 obtain ⟨B, hB⟩ : ∃ B, u.same u' = B := ⟨_, rfl⟩;rw [hB] at EU;unfold BRes at EU;unfold BRes grS;dsimp only;rw [hA, hB];clear hp hq hA hB;obtain ⟨S, hS⟩ : ∃ S, (k == k') = S := ⟨_, rfl⟩;rw [hS];obtain ⟨WB, hWB⟩ : ∃ X, (w.alloc (.cells #[.int .i64 k, .int .i64 t.op, .int .i64 t.va, .int .i64 t.vb, .int .i64 t.dm, .string t.nm, .slice xa t.cnt xc, .int .i64 u.op, .int .i64 u.va, .int .i64 u.vb, .int .i64 u.dm, .string u.nm, .slice ya u.cnt yc] 77)).alloc (.cells #[.int .i64 k', .int .i64 t'.op, .int .i64 t'.va, .int .i64 t'.vb, .int .i64 t'.dm, .string t'.nm, .slice xa' t'.cnt xc', .int .i64 u'.op, .int .i64 u'.va, .int .i64 u'.vb, .int .i64 u'.dm, .string u'.nm, .slice ya' u'.cnt yc'] 77) = X := ⟨_, rfl⟩;have R0 : Hid (Rel w WB) := by show Rel _ _; rw [← hWB]; exact ((Rel.refl w).alloc _).alloc _
 have BA : Hid (Blk WB w.heap.size 77 [.int .i64 k, .int .i64 t.op, .int .i64 t.va, .int .i64 t.vb, .int .i64 t.dm, .string t.nm, .slice xa t.cnt xc, .int .i64 u.op, .int .i64 u.va, .int .i64 u.vb, .int .i64 u.dm, .string u.nm, .slice ya u.cnt yc]) := by show Blk _ _ _ _; rw [← hWB]; exact (Blk.new w _ #[.int .i64 k, .int .i64 t.op, .int .i64 t.va, .int .i64 t.vb, .int .i64 t.dm, .string t.nm, .slice xa t.cnt xc, .int .i64 u.op, .int .i64 u.va, .int .i64 u.vb, .int .i64 u.dm, .string u.nm, .slice ya u.cnt yc]).alloc _
 have BB : Hid (Blk WB (w.heap.size + 1) 77 [.int .i64 k', .int .i64 t'.op, .int .i64 t'.va, .int .i64 t'.vb, .int .i64 t'.dm, .string t'.nm, .slice xa' t'.cnt xc', .int .i64 u'.op, .int .i64 u'.va, .int .i64 u'.vb, .int .i64 u'.dm, .string u'.nm, .slice ya' u'.cnt yc']) := by
  show Blk _ _ _ _
  rw [← hWB];have h := Blk.new (w.alloc (.cells #[.int .i64 k, .int .i64 t.op, .int .i64 t.va, .int .i64 t.vb, .int .i64 t.dm, .string t.nm, .slice xa t.cnt xc, .int .i64 u.op, .int .i64 u.va, .int .i64 u.vb, .int .i64 u.dm, .string u.nm, .slice ya u.cnt yc] 77)) 77 #[.int .i64 k', .int .i64 t'.op, .int .i64 t'.va, .int .i64 t'.vb, .int .i64 t'.dm, .string t'.nm, .slice xa' t'.cnt xc', .int .i64 u'.op, .int .i64 u'.va, .int .i64 u'.vb, .int .i64 u'.dm, .string u'.nm, .slice ya' u'.cnt yc'];rw [World.size_alloc] at h; exact h
 have x0 := (BA.out.rel (Rel.refl _)).c (j := 0) rfl;have y0 := (BB.out.rel (Rel.refl _)).c (j := 0) rfl;have x1 := (BA.out.rel (Rel.refl _)).c (j := 1) rfl;have y1 := (BB.out.rel (Rel.refl _)).c (j := 1) rfl;have x2 := (BA.out.rel (Rel.refl _)).c (j := 2) rfl;have y2 := (BB.out.rel (Rel.refl _)).c (j := 2) rfl;have x3 := (BA.out.rel (Rel.refl _)).c (j := 3) rfl;have y3 := (BB.out.rel (Rel.refl _)).c (j := 3) rfl;have x4 := (BA.out.rel (Rel.refl _)).c (j := 4) rfl;have y4 := (BB.out.rel (Rel.refl _)).c (j := 4) rfl;have x5 := (BA.out.rel (Rel.refl _)).c (j := 5) rfl;have y5 := (BB.out.rel (Rel.refl _)).c (j := 5) rfl;have x6 := (BA.out.rel (Rel.refl _)).c (j := 6) rfl;have y6 := (BB.out.rel (Rel.refl _)).c (j := 6) rfl;have x7 := (BA.out.rel (Rel.refl _)).c (j := 7) rfl;have y7 := (BB.out.rel (Rel.refl _)).c (j := 7) rfl;have x8 := (BA.out.rel (Rel.refl _)).c (j := 8) rfl;have y8 := (BB.out.rel (Rel.refl _)).c (j := 8) rfl;have x9 := (BA.out.rel (Rel.refl _)).c (j := 9) rfl;have y9 := (BB.out.rel (Rel.refl _)).c (j := 9) rfl;have x10 := (BA.out.rel (Rel.refl _)).c (j := 10) rfl;have y10 := (BB.out.rel (Rel.refl _)).c (j := 10) rfl;have x11 := (BA.out.rel (Rel.refl _)).c (j := 11) rfl;have y11 := (BB.out.rel (Rel.refl _)).c (j := 11) rfl;have x12 := (BA.out.rel (Rel.refl _)).c (j := 12) rfl;have y12 := (BB.out.rel (Rel.refl _)).c (j := 12) rfl;have xl := (BA.out.rel (Rel.refl _)).lt;have yl := (BB.out.rel (Rel.refl _)).lt;cases S
 ·go_enter Tryz.func79, Tryz.ntmps79;go_wp2;go_ret;exact ⟨ret_b2 (by simp), R0.out⟩
 ·go_enter Tryz.func79, Tryz.ntmps79;go_wp2_with fail;(try rw [hWB]);refine (ET.out _ R0.out).mono ?_;rintro e w1 ⟨rfl, h1⟩;have R1 := Hj h1;clear h1 hWB;clear xl yl x0 y0 x1 y1 x2 y2 x3 y3 x4 y4 x5 y5 x6 y6 x7 y7 x8 y8 x9 y9 x10 y10 x11 y11 x12 y12;have x0 := (BA.out.rel R1.out).c (j := 0) rfl;have y0 := (BB.out.rel R1.out).c (j := 0) rfl;have x1 := (BA.out.rel R1.out).c (j := 1) rfl;have y1 := (BB.out.rel R1.out).c (j := 1) rfl;have x2 := (BA.out.rel R1.out).c (j := 2) rfl;have y2 := (BB.out.rel R1.out).c (j := 2) rfl;have x3 := (BA.out.rel R1.out).c (j := 3) rfl;have y3 := (BB.out.rel R1.out).c (j := 3) rfl;have x4 := (BA.out.rel R1.out).c (j := 4) rfl;have y4 := (BB.out.rel R1.out).c (j := 4) rfl;have x5 := (BA.out.rel R1.out).c (j := 5) rfl;have y5 := (BB.out.rel R1.out).c (j := 5) rfl;have x6 := (BA.out.rel R1.out).c (j := 6) rfl;have y6 := (BB.out.rel R1.out).c (j := 6) rfl;have x7 := (BA.out.rel R1.out).c (j := 7) rfl;have y7 := (BB.out.rel R1.out).c (j := 7) rfl;have x8 := (BA.out.rel R1.out).c (j := 8) rfl;have y8 := (BB.out.rel R1.out).c (j := 8) rfl;have x9 := (BA.out.rel R1.out).c (j := 9) rfl;have y9 := (BB.out.rel R1.out).c (j := 9) rfl;have x10 := (BA.out.rel R1.out).c (j := 10) rfl;have y10 := (BB.out.rel R1.out).c (j := 10) rfl;have x11 := (BA.out.rel R1.out).c (j := 11) rfl;have y11 := (BB.out.rel R1.out).c (j := 11) rfl;have x12 := (BA.out.rel R1.out).c (j := 12) rfl;have y12 := (BB.out.rel R1.out).c (j := 12) rfl;have xl := (BA.out.rel R1.out).lt;have yl := (BB.out.rel R1.out).lt;cases A
  ·go_wp2;go_ret;exact ⟨ret_b2 (by simp), R0.out.trans R1.out⟩
  ·go_wp2_with fail;refine (EU.out _ (R0.out.trans R1.out)).mono ?_;rintro e w2 ⟨rfl, h2⟩;have R2 := Hj (R1.out.trans h2);clear h2;clear xl yl x0 y0 x1 y1 x2 y2 x3 y3 x4 y4 x5 y5 x6 y6 x7 y7 x8 y8 x9 y9 x10 y10 x11 y11 x12 y12;go_wp2;go_ret;exact ⟨ret_b2 (by simp), R0.out.trans R2.out⟩
set_option maxRecDepth 20000 in
theorem sameReduce_any (p q : Int × (Ex × Value)) (w : World) (hp : ReB (fun _ => True) w p) (hq : ReB (fun _ => True) w q) : Calls Tryz.prog 81 #[.agg #[.int .i64 p.1, .int .i64 p.2.1.op, .int .i64 p.2.1.va, .int .i64 p.2.1.vb, .int .i64 p.2.1.dm, .string p.2.1.nm, p.2.2], .agg #[.int .i64 q.1, .int .i64 q.2.1.op, .int .i64 q.2.1.va, .int .i64 q.2.1.vb, .int .i64 q.2.1.dm, .string q.2.1.nm, q.2.2]] w (BRes (reS p q) w) := by
 obtain ⟨k, ⟨t, x⟩⟩ := p;obtain ⟨xa, xc, e1⟩ := kids_slice (kidsB_to hp.2.1);simp only at e1;subst e1;obtain ⟨k', ⟨t', x'⟩⟩ := q;obtain ⟨xa', xc', e1'⟩ := kids_slice (kidsB_to hq.2.1);simp only at e1';subst e1';have ET := Hj fun w' (r : Rel w w') => Same_any t t' _ _ w' (kids_rel (kidsB_to hp.2.1) r) (kids_rel (kidsB_to hq.2.1) r)
 obtain ⟨A, hA⟩ : ∃ A, t.same t' = A := ⟨_, rfl⟩;rw [hA] at ET;unfold BRes at ET;unfold BRes reS;dsimp only;rw [hA];clear hp hq hA;obtain ⟨S, hS⟩ : ∃ S, (k == k') = S := ⟨_, rfl⟩;rw [hS];obtain ⟨WB, hWB⟩ : ∃ X, (w.alloc (.cells #[.int .i64 k, .int .i64 t.op, .int .i64 t.va, .int .i64 t.vb, .int .i64 t.dm, .string t.nm, .slice xa t.cnt xc] 79)).alloc (.cells #[.int .i64 k', .int .i64 t'.op, .int .i64 t'.va, .int .i64 t'.vb, .int .i64 t'.dm, .string t'.nm, .slice xa' t'.cnt xc'] 79) = X := ⟨_, rfl⟩;have R0 : Hid (Rel w WB) := by show Rel _ _; rw [← hWB]; exact ((Rel.refl w).alloc _).alloc _
 have BA : Hid (Blk WB w.heap.size 79 [.int .i64 k, .int .i64 t.op, .int .i64 t.va, .int .i64 t.vb, .int .i64 t.dm, .string t.nm, .slice xa t.cnt xc]) := by show Blk _ _ _ _; rw [← hWB]; exact (Blk.new w _ #[.int .i64 k, .int .i64 t.op, .int .i64 t.va, .int .i64 t.vb, .int .i64 t.dm, .string t.nm, .slice xa t.cnt xc]).alloc _
 have BB : Hid (Blk WB (w.heap.size + 1) 79 [.int .i64 k', .int .i64 t'.op, .int .i64 t'.va, .int .i64 t'.vb, .int .i64 t'.dm, .string t'.nm, .slice xa' t'.cnt xc']) := by
  show Blk _ _ _ _
  rw [← hWB];have h := Blk.new (w.alloc (.cells #[.int .i64 k, .int .i64 t.op, .int .i64 t.va, .int .i64 t.vb, .int .i64 t.dm, .string t.nm, .slice xa t.cnt xc] 79)) 79 #[.int .i64 k', .int .i64 t'.op, .int .i64 t'.va, .int .i64 t'.vb, .int .i64 t'.dm, .string t'.nm, .slice xa' t'.cnt xc'];rw [World.size_alloc] at h; exact h
 have x0 := (BA.out.rel (Rel.refl _)).c (j := 0) rfl;have y0 := (BB.out.rel (Rel.refl _)).c (j := 0) rfl;have x1 := (BA.out.rel (Rel.refl _)).c (j := 1) rfl;have y1 := (BB.out.rel (Rel.refl _)).c (j := 1) rfl;have x2 := (BA.out.rel (Rel.refl _)).c (j := 2) rfl;have y2 := (BB.out.rel (Rel.refl _)).c (j := 2) rfl;have x3 := (BA.out.rel (Rel.refl _)).c (j := 3) rfl;have y3 := (BB.out.rel (Rel.refl _)).c (j := 3) rfl;have x4 := (BA.out.rel (Rel.refl _)).c (j := 4) rfl;have y4 := (BB.out.rel (Rel.refl _)).c (j := 4) rfl;have x5 := (BA.out.rel (Rel.refl _)).c (j := 5) rfl;have y5 := (BB.out.rel (Rel.refl _)).c (j := 5) rfl;have x6 := (BA.out.rel (Rel.refl _)).c (j := 6) rfl;have y6 := (BB.out.rel (Rel.refl _)).c (j := 6) rfl;have xl := (BA.out.rel (Rel.refl _)).lt;have yl := (BB.out.rel (Rel.refl _)).lt;cases S
 ·go_enter Tryz.func81, Tryz.ntmps81;go_wp2;go_ret;exact ⟨ret_b2 (by simp), R0.out⟩
 ·go_enter Tryz.func81, Tryz.ntmps81;go_wp2_with fail;(try rw [hWB]);refine (ET.out _ R0.out).mono ?_;rintro e w1 ⟨rfl, h1⟩;have R1 := Hj h1;clear h1 hWB;clear xl yl x0 y0 x1 y1 x2 y2 x3 y3 x4 y4 x5 y5 x6 y6;have x0 := (BA.out.rel R1.out).c (j := 0) rfl;have y0 := (BB.out.rel R1.out).c (j := 0) rfl;have x1 := (BA.out.rel R1.out).c (j := 1) rfl;have y1 := (BB.out.rel R1.out).c (j := 1) rfl;have x2 := (BA.out.rel R1.out).c (j := 2) rfl;have y2 := (BB.out.rel R1.out).c (j := 2) rfl;have x3 := (BA.out.rel R1.out).c (j := 3) rfl;have y3 := (BB.out.rel R1.out).c (j := 3) rfl;have x4 := (BA.out.rel R1.out).c (j := 4) rfl;have y4 := (BB.out.rel R1.out).c (j := 4) rfl;have x5 := (BA.out.rel R1.out).c (j := 5) rfl;have y5 := (BB.out.rel R1.out).c (j := 5) rfl;have x6 := (BA.out.rel R1.out).c (j := 6) rfl;have y6 := (BB.out.rel R1.out).c (j := 6) rfl;have xl := (BA.out.rel R1.out).lt;have yl := (BB.out.rel R1.out).lt;go_wp2;go_ret;exact ⟨ret_b2 (by simp), R0.out.trans R1.out⟩
set_option maxRecDepth 20000 in
theorem eqL_any (L M : List (ByteArray × (Ex × Value))) (ad ad' : Option Addr) (cap cap' : Nat) (w : World) (hL : RowB (fun _ => True) w ad (L.flatMap leC)) (hM : RowB (fun _ => True) w ad' (M.flatMap leC)) (bL : ∀ p ∈ L, LeB (fun _ => True) w p) (bM : ∀ p ∈ M, LeB (fun _ => True) w p) (h1 : L.length ≤ 100000) (h2 : M.length ≤ 100000) :
  Calls Tryz.prog 76 #[.slice ad L.length cap, .slice ad' M.length cap', .func (.func 77) #[] #[]] w (BRes (eqL leS L M) w) := by
 unfold BRes;have BL := Hj bL;have BM := Hj bM;clear bL bM;by_cases hnn : L.length = M.length
 ·rw [eqL_full hnn];obtain ⟨n, hn⟩ : ∃ n, L.length = n := ⟨_, rfl⟩;obtain ⟨n', hn'⟩ : ∃ n, M.length = n := ⟨_, rfl⟩;have RL : Hid (0 < n → ∃ g off, ad = some ⟨g, off, none⟩ ∧ g < w.heap.size ∧ True ∧ ∀ i p, L[i]? = some p → ∀ j u, (leC p)[j]? = some u → w.cell? ⟨g, off + i * 7 + j, none⟩ = some u) := fun h => row_open hL leC_len (by decide) (by omega)
  have RM : Hid (0 < n' → ∃ g off, ad' = some ⟨g, off, none⟩ ∧ g < w.heap.size ∧ True ∧ ∀ i p, M[i]? = some p → ∀ j u, (leC p)[j]? = some u → w.cell? ⟨g, off + i * 7 + j, none⟩ = some u) := fun h => row_open hM leC_len (by decide) (by omega)
  have HN := Hj hn;have HN' := Hj hn';rw [hn] at h1 ⊢;rw [hn'] at h2 ⊢;clear hL hM hn hn';obtain rfl : n' = n := by have e1 := HN.out; have e2 := HN'.out; omega
  have en : ((n' : Int) == (n' : Int)) = true := by simp
  obtain ⟨n, hnr⟩ : ∃ n, n = n' := ⟨_, rfl⟩;subst hnr;clear hnn;go_enter Tryz.func76, Tryz.ntmps76;go_wp2_with fail
  go_loopw [17] (fun z wx => ∃ i : Nat, i ≤ n ∧ z = .int .i64 i ∧ Hid (alK (fun i => eqO leS L[i]? M[i]?) i = true) ∧ Hid (Rel w wx)) (fun i _ => n - (intOf i).toNat)
  case atStart => exact ⟨0, by omega, rfl, rfl, Rel.refl _⟩
  case round =>
   obtain ⟨i, hi, rfl, hA, hR⟩ := hrel;by_cases hlt : i < n
   ·skip
    have ki : (i : Int) < (n : Int) := by omega
    obtain ⟨g, off, rfl, hg, -, hc⟩ := RL.out (by omega);obtain ⟨g', off', rfl, hg', -, hc'⟩ := RM.out (by omega);obtain ⟨p, hp⟩ : ∃ p, L[i]? = some p := get_some (by rw [HN.out]; exact hlt);obtain ⟨q, hq⟩ : ∃ p, M[i]? = some p := get_some (by rw [HN'.out]; exact hlt)
    have HS : Hid (alK (fun i => eqO leS L[i]? M[i]?) (i + 1) = leS p q) := by
     show _ = _
     simp only [alK]; rw [hA.out, eqO_at hp hq]; simp
    have hBp := BL.out p (List.mem_of_getElem? hp);have hBq := BM.out q (List.mem_of_getElem? hq);have EL := Hj fun w' (r : Rel w w') => sameLet_any p q w' (l_rl hBp r) (l_rl hBq r)
    have HCp := Hj fun j u h => hc i p hp j u h
    have HCq := Hj fun j u h => hc' i q hq j u h
    obtain ⟨s, ⟨t, x⟩⟩ := p;obtain ⟨xa, xc, e1⟩ := kids_slice (kidsB_to hBp.2.1);simp only at e1;subst e1;obtain ⟨s', ⟨t', x'⟩⟩ := q;obtain ⟨xa', xc', e1'⟩ := kids_slice (kidsB_to hBq.2.1);simp only at e1';subst e1';obtain ⟨Z, hZ⟩ : ∃ Z, leS (s, (t, .slice xa t.cnt xc)) (s', (t', .slice xa' t'.cnt xc')) = Z := ⟨_, rfl⟩;rw [hZ] at EL HS;unfold BRes at EL;dsimp only at EL;clear hZ hBp hBq;clear hp hq hc hc';have c0 := hR.out.cell (HCp.out 0 _ rfl);have c1 := hR.out.cell (HCp.out 1 _ rfl);have c2 := hR.out.cell (HCp.out 2 _ rfl);have c3 := hR.out.cell (HCp.out 3 _ rfl);have c4 := hR.out.cell (HCp.out 4 _ rfl);have c5 := hR.out.cell (HCp.out 5 _ rfl);have c6 := hR.out.cell (HCp.out 6 _ rfl);simp only [Nat.add_zero] at c0;have hgr := hR.out.lt hg;have hgr' := hR.out.lt hg';obtain ⟨X, hX⟩ : ∃ X, wr.alloc (.cells #[.string s, .int .i64 t.op, .int .i64 t.va, .int .i64 t.vb, .int .i64 t.dm, .string t.nm, .slice xa t.cnt xc] 74) = X := ⟨_, rfl⟩;have RX : Hid (Rel wr X) := by show Rel _ _; rw [← hX]; exact (Rel.refl wr).alloc _
    have BX : Hid (Blk X wr.heap.size 74 [.string s, .int .i64 t.op, .int .i64 t.va, .int .i64 t.vb, .int .i64 t.dm, .string t.nm, .slice xa t.cnt xc]) := by show Blk _ _ _ _; rw [← hX]; exact Blk.new wr _ #[.string s, .int .i64 t.op, .int .i64 t.va, .int .i64 t.vb, .int .i64 t.dm, .string t.nm, .slice xa t.cnt xc]
    have R1 := Hj (hR.out.trans RX.out);have d0 := R1.out.cell (HCq.out 0 _ rfl);have d1 := R1.out.cell (HCq.out 1 _ rfl);have d2 := R1.out.cell (HCq.out 2 _ rfl);have d3 := R1.out.cell (HCq.out 3 _ rfl);have d4 := R1.out.cell (HCq.out 4 _ rfl);have d5 := R1.out.cell (HCq.out 5 _ rfl);have d6 := R1.out.cell (HCq.out 6 _ rfl);simp only [Nat.add_zero] at d0;have hx' := R1.out.lt hg';obtain ⟨Y, hY⟩ : ∃ Y, X.alloc (.cells #[.string s', .int .i64 t'.op, .int .i64 t'.va, .int .i64 t'.vb, .int .i64 t'.dm, .string t'.nm, .slice xa' t'.cnt xc'] 74) = Y := ⟨_, rfl⟩;have RY : Hid (Rel X Y) := by show Rel _ _; rw [← hY]; exact (Rel.refl X).alloc _
    have BY : Hid (Blk Y X.heap.size 74 [.string s', .int .i64 t'.op, .int .i64 t'.va, .int .i64 t'.vb, .int .i64 t'.dm, .string t'.nm, .slice xa' t'.cnt xc']) := by show Blk _ _ _ _; rw [← hY]; exact Blk.new X _ #[.string s', .int .i64 t'.op, .int .i64 t'.va, .int .i64 t'.vb, .int .i64 t'.dm, .string t'.nm, .slice xa' t'.cnt xc']
    have R2 := Hj (R1.out.trans RY.out);have x0 := (BX.out.rel RY.out).c (j := 0) rfl;have x1 := (BX.out.rel RY.out).c (j := 1) rfl;have x2 := (BX.out.rel RY.out).c (j := 2) rfl;have x3 := (BX.out.rel RY.out).c (j := 3) rfl;have x4 := (BX.out.rel RY.out).c (j := 4) rfl;have x5 := (BX.out.rel RY.out).c (j := 5) rfl;have x6 := (BX.out.rel RY.out).c (j := 6) rfl;have y0 := BY.out.c (j := 0) rfl;have y1 := BY.out.c (j := 1) rfl;have y2 := BY.out.c (j := 2) rfl;have y3 := BY.out.c (j := 3) rfl;have y4 := BY.out.c (j := 4) rfl;have y5 := BY.out.c (j := 5) rfl;have y6 := BY.out.c (j := 6) rfl;have xl := (BX.out.rel RY.out).lt;have yl := BY.out.lt;go_wp2_with fail;refine (EL.out _ R2.out).mono ?_;rintro e w3 ⟨rfl, h3⟩;have R3 := Hj (R2.out.trans h3);clear h3 EL c0 c1 c2 c3 c4 c5 c6 d0 d1 d2 d3 d4 d5 d6 x0 x1 x2 x3 x4 x5 x6 y0 y1 y2 y3 y4 y5 y6 hX hY xl yl hgr hgr' hx';cases Z
    ·have fin : Hid (alK (fun i => eqO leS L[i]? M[i]?) n = false) := by
      show _ = _
      cases hX : alK (fun i => eqO leS L[i]? M[i]?) n
      ·rfl
      ·have := HS.out;rw [alK_of (fun i hi => alK_lt hX i (by omega))] at this;cases this
     go_wp2;go_ret;exact ⟨ret_b2 fin.out.symm, R3.out⟩
    ·go_wp2
     go_roundw
     case rel => exact ⟨i + 1, by omega, by go_num, HS, R3⟩
     case measure => simp [intOf]; omega
   ·obtain rfl : i = n := by omega
    have HA := hA;go_wp2;go_ret;exact ⟨ret_b2 HA.out.symm, hR.out⟩
 ·rw [eqL_len hnn];obtain ⟨n, hn⟩ : ∃ n, L.length = n := ⟨_, rfl⟩;obtain ⟨n', hn'⟩ : ∃ n, M.length = n := ⟨_, rfl⟩;rw [hn] at h1 hnn ⊢;rw [hn'] at h2 hnn ⊢;have en : ((n : Int) == (n' : Int)) = false := by rw [zn]; omega
  clear hL hM hn hn';go_enter Tryz.func76, Tryz.ntmps76;go_wp2;go_ret;exact ⟨rfl, Rel.refl _⟩
set_option maxRecDepth 20000 in
theorem eqG_any (L M : List (Int × (Ex × Value) × (Ex × Value))) (ad ad' : Option Addr) (cap cap' : Nat) (w : World) (hL : RowB (fun _ => True) w ad (L.flatMap grC)) (hM : RowB (fun _ => True) w ad' (M.flatMap grC)) (bL : ∀ p ∈ L, GrB (fun _ => True) w p) (bM : ∀ p ∈ M, GrB (fun _ => True) w p) (h1 : L.length ≤ 100000) (h2 : M.length ≤ 100000) :
  Calls Tryz.prog 78 #[.slice ad L.length cap, .slice ad' M.length cap', .func (.func 79) #[] #[]] w (BRes (eqL grS L M) w) := by
 unfold BRes;have BL := Hj bL;have BM := Hj bM;clear bL bM;by_cases hnn : L.length = M.length
 ·rw [eqL_full hnn];obtain ⟨n, hn⟩ : ∃ n, L.length = n := ⟨_, rfl⟩;obtain ⟨n', hn'⟩ : ∃ n, M.length = n := ⟨_, rfl⟩;have RL : Hid (0 < n → ∃ g off, ad = some ⟨g, off, none⟩ ∧ g < w.heap.size ∧ True ∧ ∀ i p, L[i]? = some p → ∀ j u, (grC p)[j]? = some u → w.cell? ⟨g, off + i * 13 + j, none⟩ = some u) := fun h => row_open hL grC_len (by decide) (by omega)
  have RM : Hid (0 < n' → ∃ g off, ad' = some ⟨g, off, none⟩ ∧ g < w.heap.size ∧ True ∧ ∀ i p, M[i]? = some p → ∀ j u, (grC p)[j]? = some u → w.cell? ⟨g, off + i * 13 + j, none⟩ = some u) := fun h => row_open hM grC_len (by decide) (by omega)
  have HN := Hj hn;have HN' := Hj hn';rw [hn] at h1 ⊢;rw [hn'] at h2 ⊢;clear hL hM hn hn';obtain rfl : n' = n := by have e1 := HN.out; have e2 := HN'.out; omega
  have en : ((n' : Int) == (n' : Int)) = true := by simp
  obtain ⟨n, hnr⟩ : ∃ n, n = n' := ⟨_, rfl⟩;subst hnr;clear hnn;go_enter Tryz.func78, Tryz.ntmps78;go_wp2_with fail
  go_loopw [17] (fun z wx => ∃ i : Nat, i ≤ n ∧ z = .int .i64 i ∧ Hid (alK (fun i => eqO grS L[i]? M[i]?) i = true) ∧ Hid (Rel w wx)) (fun i _ => n - (intOf i).toNat)
  case atStart => exact ⟨0, by omega, rfl, rfl, Rel.refl _⟩
  case round =>
   obtain ⟨i, hi, rfl, hA, hR⟩ := hrel;by_cases hlt : i < n
   ·skip
    have ki : (i : Int) < (n : Int) := by omega
    obtain ⟨g, off, rfl, hg, -, hc⟩ := RL.out (by omega);obtain ⟨g', off', rfl, hg', -, hc'⟩ := RM.out (by omega);obtain ⟨p, hp⟩ : ∃ p, L[i]? = some p := get_some (by rw [HN.out]; exact hlt);obtain ⟨q, hq⟩ : ∃ p, M[i]? = some p := get_some (by rw [HN'.out]; exact hlt)
    have HS : Hid (alK (fun i => eqO grS L[i]? M[i]?) (i + 1) = grS p q) := by
     show _ = _
     simp only [alK]; rw [hA.out, eqO_at hp hq]; simp
    have hBp := BL.out p (List.mem_of_getElem? hp);have hBq := BM.out q (List.mem_of_getElem? hq);have EL := Hj fun w' (r : Rel w w') => sameGrant_any p q w' (g_rl hBp r) (g_rl hBq r)
    have HCp := Hj fun j u h => hc i p hp j u h
    have HCq := Hj fun j u h => hc' i q hq j u h
    obtain ⟨k, ⟨t, x⟩, ⟨u, y⟩⟩ := p;obtain ⟨xa, xc, e1⟩ := kids_slice (kidsB_to hBp.2.1.1);obtain ⟨ya, yc, e2⟩ := kids_slice (kidsB_to hBp.2.2.1);simp only at e1 e2;subst e1 e2;obtain ⟨k', ⟨t', x'⟩, ⟨u', y'⟩⟩ := q;obtain ⟨xa', xc', e1'⟩ := kids_slice (kidsB_to hBq.2.1.1);obtain ⟨ya', yc', e2'⟩ := kids_slice (kidsB_to hBq.2.2.1);simp only at e1' e2';subst e1' e2';obtain ⟨Z, hZ⟩ : ∃ Z, grS (k, (t, .slice xa t.cnt xc), (u, .slice ya u.cnt yc)) (k', (t', .slice xa' t'.cnt xc'), (u', .slice ya' u'.cnt yc')) = Z := ⟨_, rfl⟩;rw [hZ] at EL HS;unfold BRes at EL;dsimp only at EL;clear hZ hBp hBq;clear hp hq hc hc';have c0 := hR.out.cell (HCp.out 0 _ rfl);have c1 := hR.out.cell (HCp.out 1 _ rfl);have c2 := hR.out.cell (HCp.out 2 _ rfl);have c3 := hR.out.cell (HCp.out 3 _ rfl);have c4 := hR.out.cell (HCp.out 4 _ rfl);have c5 := hR.out.cell (HCp.out 5 _ rfl);have c6 := hR.out.cell (HCp.out 6 _ rfl);have c7 := hR.out.cell (HCp.out 7 _ rfl);have c8 := hR.out.cell (HCp.out 8 _ rfl);have c9 := hR.out.cell (HCp.out 9 _ rfl);have c10 := hR.out.cell (HCp.out 10 _ rfl);have c11 := hR.out.cell (HCp.out 11 _ rfl);have c12 := hR.out.cell (HCp.out 12 _ rfl);simp only [Nat.add_zero] at c0;have hgr := hR.out.lt hg;have hgr' := hR.out.lt hg';obtain ⟨X, hX⟩ : ∃ X, wr.alloc (.cells #[.int .i64 k, .int .i64 t.op, .int .i64 t.va, .int .i64 t.vb, .int .i64 t.dm, .string t.nm, .slice xa t.cnt xc, .int .i64 u.op, .int .i64 u.va, .int .i64 u.vb, .int .i64 u.dm, .string u.nm, .slice ya u.cnt yc] 77) = X := ⟨_, rfl⟩;have RX : Hid (Rel wr X) := by show Rel _ _; rw [← hX]; exact (Rel.refl wr).alloc _
    have BX : Hid (Blk X wr.heap.size 77 [.int .i64 k, .int .i64 t.op, .int .i64 t.va, .int .i64 t.vb, .int .i64 t.dm, .string t.nm, .slice xa t.cnt xc, .int .i64 u.op, .int .i64 u.va, .int .i64 u.vb, .int .i64 u.dm, .string u.nm, .slice ya u.cnt yc]) := by show Blk _ _ _ _; rw [← hX]; exact Blk.new wr _ #[.int .i64 k, .int .i64 t.op, .int .i64 t.va, .int .i64 t.vb, .int .i64 t.dm, .string t.nm, .slice xa t.cnt xc, .int .i64 u.op, .int .i64 u.va, .int .i64 u.vb, .int .i64 u.dm, .string u.nm, .slice ya u.cnt yc]
    have R1 := Hj (hR.out.trans RX.out);have d0 := R1.out.cell (HCq.out 0 _ rfl);have d1 := R1.out.cell (HCq.out 1 _ rfl);have d2 := R1.out.cell (HCq.out 2 _ rfl);have d3 := R1.out.cell (HCq.out 3 _ rfl);have d4 := R1.out.cell (HCq.out 4 _ rfl);have d5 := R1.out.cell (HCq.out 5 _ rfl);have d6 := R1.out.cell (HCq.out 6 _ rfl);have d7 := R1.out.cell (HCq.out 7 _ rfl);have d8 := R1.out.cell (HCq.out 8 _ rfl);have d9 := R1.out.cell (HCq.out 9 _ rfl);have d10 := R1.out.cell (HCq.out 10 _ rfl);have d11 := R1.out.cell (HCq.out 11 _ rfl);have d12 := R1.out.cell (HCq.out 12 _ rfl);simp only [Nat.add_zero] at d0;have hx' := R1.out.lt hg';obtain ⟨Y, hY⟩ : ∃ Y, X.alloc (.cells #[.int .i64 k', .int .i64 t'.op, .int .i64 t'.va, .int .i64 t'.vb, .int .i64 t'.dm, .string t'.nm, .slice xa' t'.cnt xc', .int .i64 u'.op, .int .i64 u'.va, .int .i64 u'.vb, .int .i64 u'.dm, .string u'.nm, .slice ya' u'.cnt yc'] 77) = Y := ⟨_, rfl⟩;have RY : Hid (Rel X Y) := by show Rel _ _; rw [← hY]; exact (Rel.refl X).alloc _
    have BY : Hid (Blk Y X.heap.size 77 [.int .i64 k', .int .i64 t'.op, .int .i64 t'.va, .int .i64 t'.vb, .int .i64 t'.dm, .string t'.nm, .slice xa' t'.cnt xc', .int .i64 u'.op, .int .i64 u'.va, .int .i64 u'.vb, .int .i64 u'.dm, .string u'.nm, .slice ya' u'.cnt yc']) := by show Blk _ _ _ _; rw [← hY]; exact Blk.new X _ #[.int .i64 k', .int .i64 t'.op, .int .i64 t'.va, .int .i64 t'.vb, .int .i64 t'.dm, .string t'.nm, .slice xa' t'.cnt xc', .int .i64 u'.op, .int .i64 u'.va, .int .i64 u'.vb, .int .i64 u'.dm, .string u'.nm, .slice ya' u'.cnt yc']
    have R2 := Hj (R1.out.trans RY.out);have x0 := (BX.out.rel RY.out).c (j := 0) rfl;have x1 := (BX.out.rel RY.out).c (j := 1) rfl;have x2 := (BX.out.rel RY.out).c (j := 2) rfl;have x3 := (BX.out.rel RY.out).c (j := 3) rfl;have x4 := (BX.out.rel RY.out).c (j := 4) rfl;have x5 := (BX.out.rel RY.out).c (j := 5) rfl;have x6 := (BX.out.rel RY.out).c (j := 6) rfl;have x7 := (BX.out.rel RY.out).c (j := 7) rfl;have x8 := (BX.out.rel RY.out).c (j := 8) rfl;have x9 := (BX.out.rel RY.out).c (j := 9) rfl;have x10 := (BX.out.rel RY.out).c (j := 10) rfl;have x11 := (BX.out.rel RY.out).c (j := 11) rfl;have x12 := (BX.out.rel RY.out).c (j := 12) rfl;have y0 := BY.out.c (j := 0) rfl;have y1 := BY.out.c (j := 1) rfl;have y2 := BY.out.c (j := 2) rfl;have y3 := BY.out.c (j := 3) rfl;have y4 := BY.out.c (j := 4) rfl;have y5 := BY.out.c (j := 5) rfl;have y6 := BY.out.c (j := 6) rfl;have y7 := BY.out.c (j := 7) rfl;have y8 := BY.out.c (j := 8) rfl;have y9 := BY.out.c (j := 9) rfl;have y10 := BY.out.c (j := 10) rfl;have y11 := BY.out.c (j := 11) rfl;have y12 := BY.out.c (j := 12) rfl;have xl := (BX.out.rel RY.out).lt;have yl := BY.out.lt;go_wp2_with fail;refine (EL.out _ R2.out).mono ?_;rintro e w3 ⟨rfl, h3⟩;have R3 := Hj (R2.out.trans h3);clear h3 EL c0 c1 c2 c3 c4 c5 c6 c7 c8 c9 c10 c11 c12 d0 d1 d2 d3 d4 d5 d6 d7 d8 d9 d10 d11 d12 x0 x1 x2 x3 x4 x5 x6 x7 x8 x9 x10 x11 x12 y0 y1 y2 y3 y4 y5 y6 y7 y8 y9 y10 y11 y12 hX hY xl yl hgr hgr' hx';cases Z
    ·have fin : Hid (alK (fun i => eqO grS L[i]? M[i]?) n = false) := by
      show _ = _
      cases hX : alK (fun i => eqO grS L[i]? M[i]?) n
      ·rfl
      ·have := HS.out;rw [alK_of (fun i hi => alK_lt hX i (by omega))] at this;cases this
     go_wp2;go_ret;exact ⟨ret_b2 fin.out.symm, R3.out⟩
    ·go_wp2
     go_roundw
     case rel => exact ⟨i + 1, by omega, by go_num, HS, R3⟩
     case measure => simp [intOf]; omega
   ·obtain rfl : i = n := by omega
    have HA := hA;go_wp2;go_ret;exact ⟨ret_b2 HA.out.symm, hR.out⟩
 ·rw [eqL_len hnn];obtain ⟨n, hn⟩ : ∃ n, L.length = n := ⟨_, rfl⟩;obtain ⟨n', hn'⟩ : ∃ n, M.length = n := ⟨_, rfl⟩;rw [hn] at h1 hnn ⊢;rw [hn'] at h2 hnn ⊢;have en : ((n : Int) == (n' : Int)) = false := by rw [zn]; omega
  clear hL hM hn hn';go_enter Tryz.func78, Tryz.ntmps78;go_wp2;go_ret;exact ⟨rfl, Rel.refl _⟩
set_option maxRecDepth 20000 in
theorem eqR_any (L M : List (Int × (Ex × Value))) (ad ad' : Option Addr) (cap cap' : Nat) (w : World) (hL : RowB (fun _ => True) w ad (L.flatMap reC)) (hM : RowB (fun _ => True) w ad' (M.flatMap reC)) (bL : ∀ p ∈ L, ReB (fun _ => True) w p) (bM : ∀ p ∈ M, ReB (fun _ => True) w p) (h1 : L.length ≤ 100000) (h2 : M.length ≤ 100000) :
  Calls Tryz.prog 80 #[.slice ad L.length cap, .slice ad' M.length cap', .func (.func 81) #[] #[]] w (BRes (eqL reS L M) w) := by
 unfold BRes;have BL := Hj bL;have BM := Hj bM;clear bL bM;by_cases hnn : L.length = M.length
 ·rw [eqL_full hnn];obtain ⟨n, hn⟩ : ∃ n, L.length = n := ⟨_, rfl⟩;obtain ⟨n', hn'⟩ : ∃ n, M.length = n := ⟨_, rfl⟩;have RL : Hid (0 < n → ∃ g off, ad = some ⟨g, off, none⟩ ∧ g < w.heap.size ∧ True ∧ ∀ i p, L[i]? = some p → ∀ j u, (reC p)[j]? = some u → w.cell? ⟨g, off + i * 7 + j, none⟩ = some u) := fun h => row_open hL reC_len (by decide) (by omega)
  have RM : Hid (0 < n' → ∃ g off, ad' = some ⟨g, off, none⟩ ∧ g < w.heap.size ∧ True ∧ ∀ i p, M[i]? = some p → ∀ j u, (reC p)[j]? = some u → w.cell? ⟨g, off + i * 7 + j, none⟩ = some u) := fun h => row_open hM reC_len (by decide) (by omega)
  have HN := Hj hn;have HN' := Hj hn';rw [hn] at h1 ⊢;rw [hn'] at h2 ⊢;clear hL hM hn hn';obtain rfl : n' = n := by have e1 := HN.out; have e2 := HN'.out; omega
  have en : ((n' : Int) == (n' : Int)) = true := by simp
  obtain ⟨n, hnr⟩ : ∃ n, n = n' := ⟨_, rfl⟩;subst hnr;clear hnn;go_enter Tryz.func80, Tryz.ntmps80;go_wp2_with fail
  go_loopw [17] (fun z wx => ∃ i : Nat, i ≤ n ∧ z = .int .i64 i ∧ Hid (alK (fun i => eqO reS L[i]? M[i]?) i = true) ∧ Hid (Rel w wx)) (fun i _ => n - (intOf i).toNat)
  case atStart => exact ⟨0, by omega, rfl, rfl, Rel.refl _⟩
  case round =>
   obtain ⟨i, hi, rfl, hA, hR⟩ := hrel;by_cases hlt : i < n
   ·skip
    have ki : (i : Int) < (n : Int) := by omega
    obtain ⟨g, off, rfl, hg, -, hc⟩ := RL.out (by omega);obtain ⟨g', off', rfl, hg', -, hc'⟩ := RM.out (by omega);obtain ⟨p, hp⟩ : ∃ p, L[i]? = some p := get_some (by rw [HN.out]; exact hlt);obtain ⟨q, hq⟩ : ∃ p, M[i]? = some p := get_some (by rw [HN'.out]; exact hlt)
    have HS : Hid (alK (fun i => eqO reS L[i]? M[i]?) (i + 1) = reS p q) := by
     show _ = _
     simp only [alK]; rw [hA.out, eqO_at hp hq]; simp
    have hBp := BL.out p (List.mem_of_getElem? hp);have hBq := BM.out q (List.mem_of_getElem? hq);have EL := Hj fun w' (r : Rel w w') => sameReduce_any p q w' (r_rl hBp r) (r_rl hBq r)
    have HCp := Hj fun j u h => hc i p hp j u h
    have HCq := Hj fun j u h => hc' i q hq j u h
    obtain ⟨k, ⟨t, x⟩⟩ := p;obtain ⟨xa, xc, e1⟩ := kids_slice (kidsB_to hBp.2.1);simp only at e1;subst e1;obtain ⟨k', ⟨t', x'⟩⟩ := q;obtain ⟨xa', xc', e1'⟩ := kids_slice (kidsB_to hBq.2.1);simp only at e1';subst e1';obtain ⟨Z, hZ⟩ : ∃ Z, reS (k, (t, .slice xa t.cnt xc)) (k', (t', .slice xa' t'.cnt xc')) = Z := ⟨_, rfl⟩;rw [hZ] at EL HS;unfold BRes at EL;dsimp only at EL;clear hZ hBp hBq;clear hp hq hc hc';have c0 := hR.out.cell (HCp.out 0 _ rfl);have c1 := hR.out.cell (HCp.out 1 _ rfl);have c2 := hR.out.cell (HCp.out 2 _ rfl);have c3 := hR.out.cell (HCp.out 3 _ rfl);have c4 := hR.out.cell (HCp.out 4 _ rfl);have c5 := hR.out.cell (HCp.out 5 _ rfl);have c6 := hR.out.cell (HCp.out 6 _ rfl);simp only [Nat.add_zero] at c0;have hgr := hR.out.lt hg;have hgr' := hR.out.lt hg';obtain ⟨X, hX⟩ : ∃ X, wr.alloc (.cells #[.int .i64 k, .int .i64 t.op, .int .i64 t.va, .int .i64 t.vb, .int .i64 t.dm, .string t.nm, .slice xa t.cnt xc] 79) = X := ⟨_, rfl⟩;have RX : Hid (Rel wr X) := by show Rel _ _; rw [← hX]; exact (Rel.refl wr).alloc _
    have BX : Hid (Blk X wr.heap.size 79 [.int .i64 k, .int .i64 t.op, .int .i64 t.va, .int .i64 t.vb, .int .i64 t.dm, .string t.nm, .slice xa t.cnt xc]) := by show Blk _ _ _ _; rw [← hX]; exact Blk.new wr _ #[.int .i64 k, .int .i64 t.op, .int .i64 t.va, .int .i64 t.vb, .int .i64 t.dm, .string t.nm, .slice xa t.cnt xc]
    have R1 := Hj (hR.out.trans RX.out);have d0 := R1.out.cell (HCq.out 0 _ rfl);have d1 := R1.out.cell (HCq.out 1 _ rfl);have d2 := R1.out.cell (HCq.out 2 _ rfl);have d3 := R1.out.cell (HCq.out 3 _ rfl);have d4 := R1.out.cell (HCq.out 4 _ rfl);have d5 := R1.out.cell (HCq.out 5 _ rfl);have d6 := R1.out.cell (HCq.out 6 _ rfl);simp only [Nat.add_zero] at d0;have hx' := R1.out.lt hg';obtain ⟨Y, hY⟩ : ∃ Y, X.alloc (.cells #[.int .i64 k', .int .i64 t'.op, .int .i64 t'.va, .int .i64 t'.vb, .int .i64 t'.dm, .string t'.nm, .slice xa' t'.cnt xc'] 79) = Y := ⟨_, rfl⟩;have RY : Hid (Rel X Y) := by show Rel _ _; rw [← hY]; exact (Rel.refl X).alloc _
    have BY : Hid (Blk Y X.heap.size 79 [.int .i64 k', .int .i64 t'.op, .int .i64 t'.va, .int .i64 t'.vb, .int .i64 t'.dm, .string t'.nm, .slice xa' t'.cnt xc']) := by show Blk _ _ _ _; rw [← hY]; exact Blk.new X _ #[.int .i64 k', .int .i64 t'.op, .int .i64 t'.va, .int .i64 t'.vb, .int .i64 t'.dm, .string t'.nm, .slice xa' t'.cnt xc']
    have R2 := Hj (R1.out.trans RY.out);have x0 := (BX.out.rel RY.out).c (j := 0) rfl;have x1 := (BX.out.rel RY.out).c (j := 1) rfl;have x2 := (BX.out.rel RY.out).c (j := 2) rfl;have x3 := (BX.out.rel RY.out).c (j := 3) rfl;have x4 := (BX.out.rel RY.out).c (j := 4) rfl;have x5 := (BX.out.rel RY.out).c (j := 5) rfl;have x6 := (BX.out.rel RY.out).c (j := 6) rfl;have y0 := BY.out.c (j := 0) rfl;have y1 := BY.out.c (j := 1) rfl;have y2 := BY.out.c (j := 2) rfl;have y3 := BY.out.c (j := 3) rfl;have y4 := BY.out.c (j := 4) rfl;have y5 := BY.out.c (j := 5) rfl;have y6 := BY.out.c (j := 6) rfl;have xl := (BX.out.rel RY.out).lt;have yl := BY.out.lt;go_wp2_with fail;refine (EL.out _ R2.out).mono ?_;rintro e w3 ⟨rfl, h3⟩;have R3 := Hj (R2.out.trans h3);clear h3 EL c0 c1 c2 c3 c4 c5 c6 d0 d1 d2 d3 d4 d5 d6 x0 x1 x2 x3 x4 x5 x6 y0 y1 y2 y3 y4 y5 y6 hX hY xl yl hgr hgr' hx';cases Z
    ·have fin : Hid (alK (fun i => eqO reS L[i]? M[i]?) n = false) := by
      show _ = _
      cases hX : alK (fun i => eqO reS L[i]? M[i]?) n
      ·rfl
      ·have := HS.out;rw [alK_of (fun i hi => alK_lt hX i (by omega))] at this;cases this
     go_wp2;go_ret;exact ⟨ret_b2 fin.out.symm, R3.out⟩
    ·go_wp2
     go_roundw
     case rel => exact ⟨i + 1, by omega, by go_num, HS, R3⟩
     case measure => simp [intOf]; omega
   ·obtain rfl : i = n := by omega
    have HA := hA;go_wp2;go_ret;exact ⟨ret_b2 HA.out.symm, hR.out⟩
 ·rw [eqL_len hnn];obtain ⟨n, hn⟩ : ∃ n, L.length = n := ⟨_, rfl⟩;obtain ⟨n', hn'⟩ : ∃ n, M.length = n := ⟨_, rfl⟩;rw [hn] at h1 hnn ⊢;rw [hn'] at h2 hnn ⊢;have en : ((n : Int) == (n' : Int)) = false := by rw [zn]; omega
  clear hL hM hn hn';go_enter Tryz.func80, Tryz.ntmps80;go_wp2;go_ret;exact ⟨rfl, Rel.refl _⟩
set_option maxRecDepth 20000 in
theorem eqC_any (L M : List (Int × Int)) (ad ad' : Option Addr) (cap cap' : Nat) (w : World) (hL : RowB (fun _ => True) w ad (L.flatMap crC)) (hM : RowB (fun _ => True) w ad' (M.flatMap crC)) (h1 : L.length ≤ 100000) (h2 : M.length ≤ 100000) :
  Calls Tryz.prog 74 #[.slice ad L.length cap, .slice ad' M.length cap'] w (BRes (eqL crS L M) w) := by
 unfold BRes;by_cases hnn : L.length = M.length
 ·rw [eqL_full hnn];obtain ⟨n, hn⟩ : ∃ n, L.length = n := ⟨_, rfl⟩;obtain ⟨n', hn'⟩ : ∃ n, M.length = n := ⟨_, rfl⟩;have RL : Hid (0 < n → ∃ g off, ad = some ⟨g, off, none⟩ ∧ g < w.heap.size ∧ True ∧ ∀ i p, L[i]? = some p → ∀ j u, (crC p)[j]? = some u → w.cell? ⟨g, off + i * 2 + j, none⟩ = some u) := fun h => row_open hL crC_len (by decide) (by omega)
  have RM : Hid (0 < n' → ∃ g off, ad' = some ⟨g, off, none⟩ ∧ g < w.heap.size ∧ True ∧ ∀ i p, M[i]? = some p → ∀ j u, (crC p)[j]? = some u → w.cell? ⟨g, off + i * 2 + j, none⟩ = some u) := fun h => row_open hM crC_len (by decide) (by omega)
  have HN := Hj hn;have HN' := Hj hn';rw [hn] at h1 ⊢;rw [hn'] at h2 ⊢;clear hL hM hn hn';obtain rfl : n' = n := by have e1 := HN.out; have e2 := HN'.out; omega
  have en : ((n' : Int) == (n' : Int)) = true := by simp
  obtain ⟨n, hnr⟩ : ∃ n, n = n' := ⟨_, rfl⟩;subst hnr;clear hnn;go_enter Tryz.func74, Tryz.ntmps74;go_wp2_with fail
  go_loopw [13] (fun z wx => ∃ i : Nat, i ≤ n ∧ z = .int .i64 i ∧ Hid (alK (fun i => eqO crS L[i]? M[i]?) i = true) ∧ Hid (Rel w wx)) (fun i _ => n - (intOf i).toNat)
  case atStart => exact ⟨0, by omega, rfl, rfl, Rel.refl _⟩
  case round =>
   obtain ⟨i, hi, rfl, hA, hR⟩ := hrel;by_cases hlt : i < n
   ·skip
    have ki : (i : Int) < (n : Int) := by omega
    obtain ⟨g, off, rfl, hg, -, hc⟩ := RL.out (by omega);obtain ⟨g', off', rfl, hg', -, hc'⟩ := RM.out (by omega);obtain ⟨p, hp⟩ : ∃ p, L[i]? = some p := get_some (by rw [HN.out]; exact hlt);obtain ⟨q, hq⟩ : ∃ p, M[i]? = some p := get_some (by rw [HN'.out]; exact hlt)
    have HS : Hid (alK (fun i => eqO crS L[i]? M[i]?) (i + 1) = crS p q) := by
     show _ = _
     simp only [alK]; rw [hA.out, eqO_at hp hq]; simp
    have HCp := Hj fun j u h => hc i p hp j u h
    have HCq := Hj fun j u h => hc' i q hq j u h
    obtain ⟨k, l⟩ := p;obtain ⟨k', l'⟩ := q
    skip
    clear hp hq hc hc';by_cases hk : k = k'
    ·subst hk;by_cases hl : l = l'
     ·subst hl
      have HS2 : Hid (alK (fun i => eqO crS L[i]? M[i]?) (i + 1) = true) := by
       have h := HS.out; simp only [crS] at h; show _ = _; rw [h]; simp
      have c0 := hR.out.cell (HCp.out 0 _ rfl);have e0 := hR.out.cell (HCq.out 0 _ rfl);have c1 := hR.out.cell (HCp.out 1 _ rfl);have e1 := hR.out.cell (HCq.out 1 _ rfl);simp only [Nat.add_zero] at c0 e0;have hgr := hR.out.lt hg;have hgr' := hR.out.lt hg';go_wp2_with fail;refine wp_region_calm (fun _ w' => Rel wr w') (fun _ => false) [0, 1, 2, 3, 4, 5, 6, 7, 8] 0 (by kernel_rfl) (by kernel_rfl) ?hst ?hS0 (fun w0 h0 => ?_)
      case hst => exact fun _ _ _ h r => h.trans r
      case hS0 => exact Rel.refl _
      iterate 9
       refine wpCalm_go rfl (by kernel_rfl) (fun K hK => ?_);apply Exists.intro;refine ⟨fun M w hM hS => ?_, hK _ ?_⟩
       ·have d0 := hS.cell c0;have f0 := hS.cell e0;have d1 := hS.cell c1;have f1 := hS.cell e1;unfold calmAt;go_simp;exact ⟨rfl, Rel.refl _⟩
       clear hK K
      refine wpCalm_nil (wpAnyR_end (by kernel_rfl) (fun w1 h1 => ?_));simp only [Act.put, zla, zlb, zlc];have R2 : Hid (Rel w w1) := hR.out.trans (h0.trans h1);clear h0 h1 c0 e0 c1 e1;go_wp2
      go_roundw
      case rel => exact ⟨i + 1, by omega, by go_num, HS2, R2⟩
      case measure => simp [intOf]; omega
     ·have eql : (l == l') = false := by rw [zn]; exact hl
      have HS2 : Hid (alK (fun i => eqO crS L[i]? M[i]?) (i + 1) = false) := by
       have h := HS.out; simp only [crS] at h; show _ = _; rw [h, eql]; simp
      have c0 := hR.out.cell (HCp.out 0 _ rfl);have e0 := hR.out.cell (HCq.out 0 _ rfl);have c1 := hR.out.cell (HCp.out 1 _ rfl);have e1 := hR.out.cell (HCq.out 1 _ rfl);simp only [Nat.add_zero] at c0 e0;have hgr := hR.out.lt hg;have hgr' := hR.out.lt hg';go_wp2_with fail;refine wp_region_calm (fun _ w' => Rel wr w') (fun _ => false) [0, 1, 2, 3, 4, 5, 6, 7, 8] 0 (by kernel_rfl) (by kernel_rfl) ?hst ?hS0 (fun w0 h0 => ?_)
      case hst => exact fun _ _ _ h r => h.trans r
      case hS0 => exact Rel.refl _
      iterate 9
       refine wpCalm_go rfl (by kernel_rfl) (fun K hK => ?_);apply Exists.intro;refine ⟨fun M w hM hS => ?_, hK _ ?_⟩
       ·have d0 := hS.cell c0;have f0 := hS.cell e0;have d1 := hS.cell c1;have f1 := hS.cell e1;unfold calmAt;go_simp;exact ⟨rfl, Rel.refl _⟩
       clear hK K
      refine wpCalm_nil (wpAnyR_end (by kernel_rfl) (fun w1 h1 => ?_));simp only [Act.put, zla, zlb, zlc];have R2 : Hid (Rel w w1) := hR.out.trans (h0.trans h1);clear h0 h1 c0 e0 c1 e1
      have fin : Hid (alK (fun i => eqO crS L[i]? M[i]?) n = false) := by
       show _ = _
       cases hX : alK (fun i => eqO crS L[i]? M[i]?) n
       ·rfl
       ·have := HS2.out;rw [alK_of (fun i hi => alK_lt hX i (by omega))] at this;cases this
      go_wp2;go_ret;exact ⟨ret_b2 fin.out.symm, R2.out⟩
    ·have eqk : (k == k') = false := by rw [zn]; exact hk
     have HS2 : Hid (alK (fun i => eqO crS L[i]? M[i]?) (i + 1) = false) := by
      have h := HS.out; simp only [crS] at h; show _ = _; rw [h, eqk]; simp
     have c0 := hR.out.cell (HCp.out 0 _ rfl);have e0 := hR.out.cell (HCq.out 0 _ rfl);have c1 := hR.out.cell (HCp.out 1 _ rfl);have e1 := hR.out.cell (HCq.out 1 _ rfl);simp only [Nat.add_zero] at c0 e0;have hgr := hR.out.lt hg;have hgr' := hR.out.lt hg';go_wp2_with fail;refine wp_region_calm (fun _ w' => Rel wr w') (fun _ => false) [0, 1, 2, 3, 4, 5, 6, 7, 8] 0 (by kernel_rfl) (by kernel_rfl) ?hst ?hS0 (fun w0 h0 => ?_)
     case hst => exact fun _ _ _ h r => h.trans r
     case hS0 => exact Rel.refl _
     iterate 9
      refine wpCalm_go rfl (by kernel_rfl) (fun K hK => ?_);apply Exists.intro;refine ⟨fun M w hM hS => ?_, hK _ ?_⟩
      ·have d0 := hS.cell c0;have f0 := hS.cell e0;have d1 := hS.cell c1;have f1 := hS.cell e1;unfold calmAt;go_simp;exact ⟨rfl, Rel.refl _⟩
      clear hK K
     refine wpCalm_nil (wpAnyR_end (by kernel_rfl) (fun w1 h1 => ?_));simp only [Act.put, zla, zlb, zlc];have R2 : Hid (Rel w w1) := hR.out.trans (h0.trans h1);clear h0 h1 c0 e0 c1 e1
     have fin : Hid (alK (fun i => eqO crS L[i]? M[i]?) n = false) := by
      show _ = _
      cases hX : alK (fun i => eqO crS L[i]? M[i]?) n
      ·rfl
      ·have := HS2.out;rw [alK_of (fun i hi => alK_lt hX i (by omega))] at this;cases this
     go_wp2;go_ret;exact ⟨ret_b2 fin.out.symm, R2.out⟩
   ·obtain rfl : i = n := by omega
    have HA := hA;go_wp2;go_ret;exact ⟨ret_b2 HA.out.symm, hR.out⟩
 ·rw [eqL_len hnn];obtain ⟨n, hn⟩ : ∃ n, L.length = n := ⟨_, rfl⟩;obtain ⟨n', hn'⟩ : ∃ n, M.length = n := ⟨_, rfl⟩;rw [hn] at h1 hnn ⊢;rw [hn'] at h2 hnn ⊢;have en : ((n : Int) == (n' : Int)) = false := by rw [zn]; omega
  clear hL hM hn hn';go_enter Tryz.func74, Tryz.ntmps74;go_wp2;go_ret;exact ⟨rfl, Rel.refl _⟩
set_option maxRecDepth 20000 in
theorem eqS_any (L M : List (Int × Int × Int)) (ad ad' : Option Addr) (cap cap' : Nat) (w : World) (hL : RowB (fun _ => True) w ad (L.flatMap seC)) (hM : RowB (fun _ => True) w ad' (M.flatMap seC)) (h1 : L.length ≤ 100000) (h2 : M.length ≤ 100000) :
  Calls Tryz.prog 75 #[.slice ad L.length cap, .slice ad' M.length cap'] w (BRes (eqL seS L M) w) := by
 unfold BRes;by_cases hnn : L.length = M.length
 ·rw [eqL_full hnn];obtain ⟨n, hn⟩ : ∃ n, L.length = n := ⟨_, rfl⟩;obtain ⟨n', hn'⟩ : ∃ n, M.length = n := ⟨_, rfl⟩;have RL : Hid (0 < n → ∃ g off, ad = some ⟨g, off, none⟩ ∧ g < w.heap.size ∧ True ∧ ∀ i p, L[i]? = some p → ∀ j u, (seC p)[j]? = some u → w.cell? ⟨g, off + i * 3 + j, none⟩ = some u) := fun h => row_open hL seC_len (by decide) (by omega)
  have RM : Hid (0 < n' → ∃ g off, ad' = some ⟨g, off, none⟩ ∧ g < w.heap.size ∧ True ∧ ∀ i p, M[i]? = some p → ∀ j u, (seC p)[j]? = some u → w.cell? ⟨g, off + i * 3 + j, none⟩ = some u) := fun h => row_open hM seC_len (by decide) (by omega)
  have HN := Hj hn;have HN' := Hj hn';rw [hn] at h1 ⊢;rw [hn'] at h2 ⊢;clear hL hM hn hn';obtain rfl : n' = n := by have e1 := HN.out; have e2 := HN'.out; omega
  have en : ((n' : Int) == (n' : Int)) = true := by simp
  obtain ⟨n, hnr⟩ : ∃ n, n = n' := ⟨_, rfl⟩;subst hnr;clear hnn;go_enter Tryz.func75, Tryz.ntmps75;go_wp2_with fail
  go_loopw [13] (fun z wx => ∃ i : Nat, i ≤ n ∧ z = .int .i64 i ∧ Hid (alK (fun i => eqO seS L[i]? M[i]?) i = true) ∧ Hid (Rel w wx)) (fun i _ => n - (intOf i).toNat)
  case atStart => exact ⟨0, by omega, rfl, rfl, Rel.refl _⟩
  case round =>
   obtain ⟨i, hi, rfl, hA, hR⟩ := hrel;by_cases hlt : i < n
   ·skip
    have ki : (i : Int) < (n : Int) := by omega
    obtain ⟨g, off, rfl, hg, -, hc⟩ := RL.out (by omega);obtain ⟨g', off', rfl, hg', -, hc'⟩ := RM.out (by omega);obtain ⟨p, hp⟩ : ∃ p, L[i]? = some p := get_some (by rw [HN.out]; exact hlt);obtain ⟨q, hq⟩ : ∃ p, M[i]? = some p := get_some (by rw [HN'.out]; exact hlt)
    have HS : Hid (alK (fun i => eqO seS L[i]? M[i]?) (i + 1) = seS p q) := by
     show _ = _
     simp only [alK]; rw [hA.out, eqO_at hp hq]; simp
    have HCp := Hj fun j u h => hc i p hp j u h
    have HCq := Hj fun j u h => hc' i q hq j u h
    obtain ⟨k, l, m⟩ := p;obtain ⟨k', l', m'⟩ := q
    skip
    clear hp hq hc hc';by_cases hk : k = k'
    ·subst hk;by_cases hl : l = l'
     ·subst hl;by_cases hm : m = m'
      ·subst hm
       have HS2 : Hid (alK (fun i => eqO seS L[i]? M[i]?) (i + 1) = true) := by
        have h := HS.out; simp only [seS] at h; show _ = _; rw [h]; simp
       have c0 := hR.out.cell (HCp.out 0 _ rfl);have e0 := hR.out.cell (HCq.out 0 _ rfl);have c1 := hR.out.cell (HCp.out 1 _ rfl);have e1 := hR.out.cell (HCq.out 1 _ rfl);have c2 := hR.out.cell (HCp.out 2 _ rfl);have e2 := hR.out.cell (HCq.out 2 _ rfl);simp only [Nat.add_zero] at c0 e0;have hgr := hR.out.lt hg;have hgr' := hR.out.lt hg';go_wp2_with fail;refine wp_region_calm (fun _ w' => Rel wr w') (fun _ => false) [0, 1, 2, 3, 4, 5, 6, 7, 8] 0 (by kernel_rfl) (by kernel_rfl) ?hst ?hS0 (fun w0 h0 => ?_)
       case hst => exact fun _ _ _ h r => h.trans r
       case hS0 => exact Rel.refl _
       iterate 9
        refine wpCalm_go rfl (by kernel_rfl) (fun K hK => ?_);apply Exists.intro;refine ⟨fun M w hM hS => ?_, hK _ ?_⟩
        ·have d0 := hS.cell c0;have f0 := hS.cell e0;have d1 := hS.cell c1;have f1 := hS.cell e1;have d2 := hS.cell c2;have f2 := hS.cell e2;unfold calmAt;go_simp;exact ⟨rfl, Rel.refl _⟩
        clear hK K
       refine wpCalm_nil (wpAnyR_end (by kernel_rfl) (fun w1 h1 => ?_));simp only [Act.put, zla, zlb, zlc];have R2 : Hid (Rel w w1) := hR.out.trans (h0.trans h1);clear h0 h1 c0 e0 c1 e1 c2 e2;go_wp2
       go_roundw
       case rel => exact ⟨i + 1, by omega, by go_num, HS2, R2⟩
       case measure => simp [intOf]; omega
      ·have eqm : (m == m') = false := by rw [zn]; exact hm
       have HS2 : Hid (alK (fun i => eqO seS L[i]? M[i]?) (i + 1) = false) := by
        have h := HS.out; simp only [seS] at h; show _ = _; rw [h, eqm]; simp
       have c0 := hR.out.cell (HCp.out 0 _ rfl);have e0 := hR.out.cell (HCq.out 0 _ rfl);have c1 := hR.out.cell (HCp.out 1 _ rfl);have e1 := hR.out.cell (HCq.out 1 _ rfl);have c2 := hR.out.cell (HCp.out 2 _ rfl);have e2 := hR.out.cell (HCq.out 2 _ rfl);simp only [Nat.add_zero] at c0 e0;have hgr := hR.out.lt hg;have hgr' := hR.out.lt hg';go_wp2_with fail;refine wp_region_calm (fun _ w' => Rel wr w') (fun _ => false) [0, 1, 2, 3, 4, 5, 6, 7, 8] 0 (by kernel_rfl) (by kernel_rfl) ?hst ?hS0 (fun w0 h0 => ?_)
       case hst => exact fun _ _ _ h r => h.trans r
       case hS0 => exact Rel.refl _
       iterate 9
        refine wpCalm_go rfl (by kernel_rfl) (fun K hK => ?_);apply Exists.intro;refine ⟨fun M w hM hS => ?_, hK _ ?_⟩
        ·have d0 := hS.cell c0;have f0 := hS.cell e0;have d1 := hS.cell c1;have f1 := hS.cell e1;have d2 := hS.cell c2;have f2 := hS.cell e2;unfold calmAt;go_simp;exact ⟨rfl, Rel.refl _⟩
        clear hK K
       refine wpCalm_nil (wpAnyR_end (by kernel_rfl) (fun w1 h1 => ?_));simp only [Act.put, zla, zlb, zlc];have R2 : Hid (Rel w w1) := hR.out.trans (h0.trans h1);clear h0 h1 c0 e0 c1 e1 c2 e2
       have fin : Hid (alK (fun i => eqO seS L[i]? M[i]?) n = false) := by
        show _ = _
        cases hX : alK (fun i => eqO seS L[i]? M[i]?) n
        ·rfl
        ·have := HS2.out;rw [alK_of (fun i hi => alK_lt hX i (by omega))] at this;cases this
       go_wp2;go_ret;exact ⟨ret_b2 fin.out.symm, R2.out⟩
     ·have eql : (l == l') = false := by rw [zn]; exact hl
      have HS2 : Hid (alK (fun i => eqO seS L[i]? M[i]?) (i + 1) = false) := by
       have h := HS.out; simp only [seS] at h; show _ = _; rw [h, eql]; simp
      have c0 := hR.out.cell (HCp.out 0 _ rfl);have e0 := hR.out.cell (HCq.out 0 _ rfl);have c1 := hR.out.cell (HCp.out 1 _ rfl);have e1 := hR.out.cell (HCq.out 1 _ rfl);have c2 := hR.out.cell (HCp.out 2 _ rfl);have e2 := hR.out.cell (HCq.out 2 _ rfl);simp only [Nat.add_zero] at c0 e0;have hgr := hR.out.lt hg;have hgr' := hR.out.lt hg';go_wp2_with fail;refine wp_region_calm (fun _ w' => Rel wr w') (fun _ => false) [0, 1, 2, 3, 4, 5, 6, 7, 8] 0 (by kernel_rfl) (by kernel_rfl) ?hst ?hS0 (fun w0 h0 => ?_)
      case hst => exact fun _ _ _ h r => h.trans r
      case hS0 => exact Rel.refl _
      iterate 9
       refine wpCalm_go rfl (by kernel_rfl) (fun K hK => ?_);apply Exists.intro;refine ⟨fun M w hM hS => ?_, hK _ ?_⟩
       ·have d0 := hS.cell c0;have f0 := hS.cell e0;have d1 := hS.cell c1;have f1 := hS.cell e1;have d2 := hS.cell c2;have f2 := hS.cell e2;unfold calmAt;go_simp;exact ⟨rfl, Rel.refl _⟩
       clear hK K
      refine wpCalm_nil (wpAnyR_end (by kernel_rfl) (fun w1 h1 => ?_));simp only [Act.put, zla, zlb, zlc];have R2 : Hid (Rel w w1) := hR.out.trans (h0.trans h1);clear h0 h1 c0 e0 c1 e1 c2 e2
      have fin : Hid (alK (fun i => eqO seS L[i]? M[i]?) n = false) := by
       show _ = _
       cases hX : alK (fun i => eqO seS L[i]? M[i]?) n
       ·rfl
       ·have := HS2.out;rw [alK_of (fun i hi => alK_lt hX i (by omega))] at this;cases this
      go_wp2;go_ret;exact ⟨ret_b2 fin.out.symm, R2.out⟩
    ·have eqk : (k == k') = false := by rw [zn]; exact hk
     have HS2 : Hid (alK (fun i => eqO seS L[i]? M[i]?) (i + 1) = false) := by
      have h := HS.out; simp only [seS] at h; show _ = _; rw [h, eqk]; simp
     have c0 := hR.out.cell (HCp.out 0 _ rfl);have e0 := hR.out.cell (HCq.out 0 _ rfl);have c1 := hR.out.cell (HCp.out 1 _ rfl);have e1 := hR.out.cell (HCq.out 1 _ rfl);have c2 := hR.out.cell (HCp.out 2 _ rfl);have e2 := hR.out.cell (HCq.out 2 _ rfl);simp only [Nat.add_zero] at c0 e0;have hgr := hR.out.lt hg;have hgr' := hR.out.lt hg';go_wp2_with fail;refine wp_region_calm (fun _ w' => Rel wr w') (fun _ => false) [0, 1, 2, 3, 4, 5, 6, 7, 8] 0 (by kernel_rfl) (by kernel_rfl) ?hst ?hS0 (fun w0 h0 => ?_)
     case hst => exact fun _ _ _ h r => h.trans r
     case hS0 => exact Rel.refl _
     iterate 9
      refine wpCalm_go rfl (by kernel_rfl) (fun K hK => ?_);apply Exists.intro;refine ⟨fun M w hM hS => ?_, hK _ ?_⟩
      ·have d0 := hS.cell c0;have f0 := hS.cell e0;have d1 := hS.cell c1;have f1 := hS.cell e1;have d2 := hS.cell c2;have f2 := hS.cell e2;unfold calmAt;go_simp;exact ⟨rfl, Rel.refl _⟩
      clear hK K
     refine wpCalm_nil (wpAnyR_end (by kernel_rfl) (fun w1 h1 => ?_));simp only [Act.put, zla, zlb, zlc];have R2 : Hid (Rel w w1) := hR.out.trans (h0.trans h1);clear h0 h1 c0 e0 c1 e1 c2 e2
     have fin : Hid (alK (fun i => eqO seS L[i]? M[i]?) n = false) := by
      show _ = _
      cases hX : alK (fun i => eqO seS L[i]? M[i]?) n
      ·rfl
      ·have := HS2.out;rw [alK_of (fun i hi => alK_lt hX i (by omega))] at this;cases this
     go_wp2;go_ret;exact ⟨ret_b2 fin.out.symm, R2.out⟩
   ·obtain rfl : i = n := by omega
    have HA := hA;go_wp2;go_ret;exact ⟨ret_b2 HA.out.symm, hR.out⟩
 ·rw [eqL_len hnn];obtain ⟨n, hn⟩ : ∃ n, L.length = n := ⟨_, rfl⟩;obtain ⟨n', hn'⟩ : ∃ n, M.length = n := ⟨_, rfl⟩;rw [hn] at h1 hnn ⊢;rw [hn'] at h2 hnn ⊢;have en : ((n : Int) == (n' : Int)) = false := by rw [zn]; omega
  clear hL hM hn hn';go_enter Tryz.func75, Tryz.ntmps75;go_wp2;go_ret;exact ⟨rfl, Rel.refl _⟩
set_option maxRecDepth 20000 in
theorem sameVersion_any (a b : VerM) (w : World) (ha : VerB (fun _ => True) w a) (hb : VerB (fun _ => True) w b) : Calls Tryz.prog 25 #[a.val, b.val] w (BRes (a.same b) w) := by
 have EV : Hid (a.same b = ((a.frm == b.frm) && (((a.mode == b.mode) && (a.unit == b.unit)) && (eqL crS a.cr b.cr && (eqL seS a.se b.se && (eqL leS a.le b.le && (eqL grS a.gr b.gr && eqL reS a.re b.re))))))) := by show _ = _; rfl
 obtain ⟨V, hV⟩ : ∃ v, a.same b = v := ⟨_, rfl⟩;rw [hV] at EV ⊢;clear hV;unfold BRes VerM.val;have EC := Hj fun w' (r : Rel w w') => eqC_any a.cr b.cr a.ca b.ca a.cc b.cc w' ((VerB.rel ha r).r0) ((VerB.rel hb r).r0) ha.n0 hb.n0
 obtain ⟨ZC, hZC⟩ : ∃ z, eqL crS a.cr b.cr = z := ⟨_, rfl⟩;rw [hZC] at EV EC;unfold BRes at EC;clear hZC;have ES := Hj fun w' (r : Rel w w') => eqS_any a.se b.se a.sa b.sa a.sc b.sc w' ((VerB.rel ha r).r1) ((VerB.rel hb r).r1) ha.n1 hb.n1
 obtain ⟨ZS, hZS⟩ : ∃ z, eqL seS a.se b.se = z := ⟨_, rfl⟩;rw [hZS] at EV ES;unfold BRes at ES;clear hZS;have EL := Hj fun w' (r : Rel w w') => eqL_any a.le b.le a.la b.la a.lc b.lc w' ((VerB.rel ha r).r2) ((VerB.rel hb r).r2) (VerB.rel ha r).b2 (VerB.rel hb r).b2 ha.n2 hb.n2
 obtain ⟨ZL, hZL⟩ : ∃ z, eqL leS a.le b.le = z := ⟨_, rfl⟩;rw [hZL] at EV EL;unfold BRes at EL;clear hZL;have EG := Hj fun w' (r : Rel w w') => eqG_any a.gr b.gr a.ga b.ga a.gc b.gc w' ((VerB.rel ha r).r3) ((VerB.rel hb r).r3) (VerB.rel ha r).b3 (VerB.rel hb r).b3 ha.n3 hb.n3
 obtain ⟨ZG, hZG⟩ : ∃ z, eqL grS a.gr b.gr = z := ⟨_, rfl⟩;rw [hZG] at EV EG;unfold BRes at EG;clear hZG;have ER := Hj fun w' (r : Rel w w') => eqR_any a.re b.re a.ra b.ra a.rc b.rc w' ((VerB.rel ha r).r4) ((VerB.rel hb r).r4) (VerB.rel ha r).b4 (VerB.rel hb r).b4 ha.n4 hb.n4
 obtain ⟨ZR, hZR⟩ : ∃ z, eqL reS a.re b.re = z := ⟨_, rfl⟩;rw [hZR] at EV ER;unfold BRes at ER;clear hZR;clear ha hb;obtain ⟨WB, hWB⟩ : ∃ X, (w.alloc (.cells #[.int .i64 a.frm, .int .i64 a.mode, .int .i64 a.unit, .slice a.ca a.cr.length a.cc, .slice a.sa a.se.length a.sc, .slice a.la a.le.length a.lc, .slice a.ga a.gr.length a.gc, .slice a.ra a.re.length a.rc] 36)).alloc (.cells #[.int .i64 b.frm, .int .i64 b.mode, .int .i64 b.unit, .slice b.ca b.cr.length b.cc, .slice b.sa b.se.length b.sc, .slice b.la b.le.length b.lc, .slice b.ga b.gr.length b.gc, .slice b.ra b.re.length b.rc] 36) = X := ⟨_, rfl⟩;have R0 : Hid (Rel w WB) := by show Rel _ _; rw [← hWB]; exact ((Rel.refl w).alloc _).alloc _
 have BA : Hid (Blk WB w.heap.size 36 [.int .i64 a.frm, .int .i64 a.mode, .int .i64 a.unit, .slice a.ca a.cr.length a.cc, .slice a.sa a.se.length a.sc, .slice a.la a.le.length a.lc, .slice a.ga a.gr.length a.gc, .slice a.ra a.re.length a.rc]) := by show Blk _ _ _ _; rw [← hWB]; exact (Blk.new w _ #[.int .i64 a.frm, .int .i64 a.mode, .int .i64 a.unit, .slice a.ca a.cr.length a.cc, .slice a.sa a.se.length a.sc, .slice a.la a.le.length a.lc, .slice a.ga a.gr.length a.gc, .slice a.ra a.re.length a.rc]).alloc _
 have BB : Hid (Blk WB (w.heap.size + 1) 36 [.int .i64 b.frm, .int .i64 b.mode, .int .i64 b.unit, .slice b.ca b.cr.length b.cc, .slice b.sa b.se.length b.sc, .slice b.la b.le.length b.lc, .slice b.ga b.gr.length b.gc, .slice b.ra b.re.length b.rc]) := by
  show Blk _ _ _ _
  rw [← hWB];have h := Blk.new (w.alloc (.cells #[.int .i64 a.frm, .int .i64 a.mode, .int .i64 a.unit, .slice a.ca a.cr.length a.cc, .slice a.sa a.se.length a.sc, .slice a.la a.le.length a.lc, .slice a.ga a.gr.length a.gc, .slice a.ra a.re.length a.rc] 36)) 36 #[.int .i64 b.frm, .int .i64 b.mode, .int .i64 b.unit, .slice b.ca b.cr.length b.cc, .slice b.sa b.se.length b.sc, .slice b.la b.le.length b.lc, .slice b.ga b.gr.length b.gc, .slice b.ra b.re.length b.rc];rw [World.size_alloc] at h; exact h
 have x0 := (BA.out.rel (Rel.refl _)).c (j := 0) rfl;have y0 := (BB.out.rel (Rel.refl _)).c (j := 0) rfl;have x1 := (BA.out.rel (Rel.refl _)).c (j := 1) rfl;have y1 := (BB.out.rel (Rel.refl _)).c (j := 1) rfl;have x2 := (BA.out.rel (Rel.refl _)).c (j := 2) rfl;have y2 := (BB.out.rel (Rel.refl _)).c (j := 2) rfl;have x3 := (BA.out.rel (Rel.refl _)).c (j := 3) rfl;have y3 := (BB.out.rel (Rel.refl _)).c (j := 3) rfl;have x4 := (BA.out.rel (Rel.refl _)).c (j := 4) rfl;have y4 := (BB.out.rel (Rel.refl _)).c (j := 4) rfl;have x5 := (BA.out.rel (Rel.refl _)).c (j := 5) rfl;have y5 := (BB.out.rel (Rel.refl _)).c (j := 5) rfl;have x6 := (BA.out.rel (Rel.refl _)).c (j := 6) rfl;have y6 := (BB.out.rel (Rel.refl _)).c (j := 6) rfl;have x7 := (BA.out.rel (Rel.refl _)).c (j := 7) rfl;have y7 := (BB.out.rel (Rel.refl _)).c (j := 7) rfl;have xl := (BA.out.rel (Rel.refl _)).lt;have yl := (BB.out.rel (Rel.refl _)).lt;obtain ⟨f1, hf1⟩ : ∃ z, (a.frm == b.frm) = z := ⟨_, rfl⟩;obtain ⟨f2, hf2⟩ : ∃ z, (a.mode == b.mode) = z := ⟨_, rfl⟩;obtain ⟨f3, hf3⟩ : ∃ z, (a.unit == b.unit) = z := ⟨_, rfl⟩;rw [hf1, hf2, hf3] at EV;cases f1
 ·skip
  have fin : Hid (V = false) := by show _ = _; rw [EV.out]; simp
  go_enter Tryz.func25, Tryz.ntmps25;go_wp2;go_ret;exact ⟨ret_b2 fin.out.symm, R0.out⟩
 ·cases f2
  ·skip
   have fin : Hid (V = false) := by show _ = _; rw [EV.out]; simp
   go_enter Tryz.func25, Tryz.ntmps25;go_wp2;go_ret;exact ⟨ret_b2 fin.out.symm, R0.out⟩
  ·cases f3
   ·skip
    have fin : Hid (V = false) := by show _ = _; rw [EV.out]; simp
    go_enter Tryz.func25, Tryz.ntmps25;go_wp2;go_ret;exact ⟨ret_b2 fin.out.symm, R0.out⟩
   ·skip
    have EV1 : Hid (V = (ZC && (ZS && (ZL && (ZG && ZR))))) := by show _ = _; rw [EV.out]; simp
    clear EV;go_enter Tryz.func25, Tryz.ntmps25;go_wp2_with fail;(try rw [hWB]);refine (EC.out _ R0.out).mono ?_;rintro e w1 ⟨rfl, k1⟩;have R1 := Hj k1;clear k1 hWB;clear xl yl x0 y0 x1 y1 x2 y2 x3 y3 x4 y4 x5 y5 x6 y6 x7 y7;have x0 := (BA.out.rel R1.out).c (j := 0) rfl;have y0 := (BB.out.rel R1.out).c (j := 0) rfl;have x1 := (BA.out.rel R1.out).c (j := 1) rfl;have y1 := (BB.out.rel R1.out).c (j := 1) rfl;have x2 := (BA.out.rel R1.out).c (j := 2) rfl;have y2 := (BB.out.rel R1.out).c (j := 2) rfl;have x3 := (BA.out.rel R1.out).c (j := 3) rfl;have y3 := (BB.out.rel R1.out).c (j := 3) rfl;have x4 := (BA.out.rel R1.out).c (j := 4) rfl;have y4 := (BB.out.rel R1.out).c (j := 4) rfl;have x5 := (BA.out.rel R1.out).c (j := 5) rfl;have y5 := (BB.out.rel R1.out).c (j := 5) rfl;have x6 := (BA.out.rel R1.out).c (j := 6) rfl;have y6 := (BB.out.rel R1.out).c (j := 6) rfl;have x7 := (BA.out.rel R1.out).c (j := 7) rfl;have y7 := (BB.out.rel R1.out).c (j := 7) rfl;have xl := (BA.out.rel R1.out).lt;have yl := (BB.out.rel R1.out).lt;cases ZC
    ·have fin : Hid (V = false) := by show _ = _; rw [EV1.out]; simp
     go_wp2;go_ret;exact ⟨ret_b2 fin.out.symm, R0.out.trans R1.out⟩
    ·skip
     go_wp2_with fail;refine (ES.out _ (R0.out.trans R1.out)).mono ?_;rintro e w2 ⟨rfl, k2⟩;have R2 := Hj (R1.out.trans k2);clear k2;clear xl yl x0 y0 x1 y1 x2 y2 x3 y3 x4 y4 x5 y5 x6 y6 x7 y7;have x0 := (BA.out.rel R2.out).c (j := 0) rfl;have y0 := (BB.out.rel R2.out).c (j := 0) rfl;have x1 := (BA.out.rel R2.out).c (j := 1) rfl;have y1 := (BB.out.rel R2.out).c (j := 1) rfl;have x2 := (BA.out.rel R2.out).c (j := 2) rfl;have y2 := (BB.out.rel R2.out).c (j := 2) rfl;have x3 := (BA.out.rel R2.out).c (j := 3) rfl;have y3 := (BB.out.rel R2.out).c (j := 3) rfl;have x4 := (BA.out.rel R2.out).c (j := 4) rfl;have y4 := (BB.out.rel R2.out).c (j := 4) rfl;have x5 := (BA.out.rel R2.out).c (j := 5) rfl;have y5 := (BB.out.rel R2.out).c (j := 5) rfl;have x6 := (BA.out.rel R2.out).c (j := 6) rfl;have y6 := (BB.out.rel R2.out).c (j := 6) rfl;have x7 := (BA.out.rel R2.out).c (j := 7) rfl;have y7 := (BB.out.rel R2.out).c (j := 7) rfl;have xl := (BA.out.rel R2.out).lt;have yl := (BB.out.rel R2.out).lt;cases ZS
     ·have fin : Hid (V = false) := by show _ = _; rw [EV1.out]; simp
      go_wp2;go_ret;exact ⟨ret_b2 fin.out.symm, R0.out.trans R2.out⟩
     ·skip
      go_wp2_with fail;refine (EL.out _ (R0.out.trans R2.out)).mono ?_;rintro e w3 ⟨rfl, k3⟩;have R3 := Hj (R2.out.trans k3);clear k3;clear xl yl x0 y0 x1 y1 x2 y2 x3 y3 x4 y4 x5 y5 x6 y6 x7 y7;have x0 := (BA.out.rel R3.out).c (j := 0) rfl;have y0 := (BB.out.rel R3.out).c (j := 0) rfl;have x1 := (BA.out.rel R3.out).c (j := 1) rfl;have y1 := (BB.out.rel R3.out).c (j := 1) rfl;have x2 := (BA.out.rel R3.out).c (j := 2) rfl;have y2 := (BB.out.rel R3.out).c (j := 2) rfl;have x3 := (BA.out.rel R3.out).c (j := 3) rfl;have y3 := (BB.out.rel R3.out).c (j := 3) rfl;have x4 := (BA.out.rel R3.out).c (j := 4) rfl;have y4 := (BB.out.rel R3.out).c (j := 4) rfl;have x5 := (BA.out.rel R3.out).c (j := 5) rfl;have y5 := (BB.out.rel R3.out).c (j := 5) rfl;have x6 := (BA.out.rel R3.out).c (j := 6) rfl;have y6 := (BB.out.rel R3.out).c (j := 6) rfl;have x7 := (BA.out.rel R3.out).c (j := 7) rfl;have y7 := (BB.out.rel R3.out).c (j := 7) rfl;have xl := (BA.out.rel R3.out).lt;have yl := (BB.out.rel R3.out).lt;cases ZL
      ·have fin : Hid (V = false) := by show _ = _; rw [EV1.out]; simp
       go_wp2;go_ret;exact ⟨ret_b2 fin.out.symm, R0.out.trans R3.out⟩
      ·skip
       go_wp2_with fail;refine (EG.out _ (R0.out.trans R3.out)).mono ?_;rintro e w4 ⟨rfl, k4⟩;have R4 := Hj (R3.out.trans k4);clear k4;clear xl yl x0 y0 x1 y1 x2 y2 x3 y3 x4 y4 x5 y5 x6 y6 x7 y7;have x0 := (BA.out.rel R4.out).c (j := 0) rfl;have y0 := (BB.out.rel R4.out).c (j := 0) rfl;have x1 := (BA.out.rel R4.out).c (j := 1) rfl;have y1 := (BB.out.rel R4.out).c (j := 1) rfl;have x2 := (BA.out.rel R4.out).c (j := 2) rfl;have y2 := (BB.out.rel R4.out).c (j := 2) rfl;have x3 := (BA.out.rel R4.out).c (j := 3) rfl;have y3 := (BB.out.rel R4.out).c (j := 3) rfl;have x4 := (BA.out.rel R4.out).c (j := 4) rfl;have y4 := (BB.out.rel R4.out).c (j := 4) rfl;have x5 := (BA.out.rel R4.out).c (j := 5) rfl;have y5 := (BB.out.rel R4.out).c (j := 5) rfl;have x6 := (BA.out.rel R4.out).c (j := 6) rfl;have y6 := (BB.out.rel R4.out).c (j := 6) rfl;have x7 := (BA.out.rel R4.out).c (j := 7) rfl;have y7 := (BB.out.rel R4.out).c (j := 7) rfl;have xl := (BA.out.rel R4.out).lt;have yl := (BB.out.rel R4.out).lt;cases ZG
       ·have fin : Hid (V = false) := by show _ = _; rw [EV1.out]; simp
        go_wp2;go_ret;exact ⟨ret_b2 fin.out.symm, R0.out.trans R4.out⟩
       ·skip
        go_wp2_with fail;refine (ER.out _ (R0.out.trans R4.out)).mono ?_;rintro e w5 ⟨rfl, k5⟩;have R5 := Hj (R4.out.trans k5);clear k5;clear xl yl x0 y0 x1 y1 x2 y2 x3 y3 x4 y4 x5 y5 x6 y6 x7 y7;have x0 := (BA.out.rel R5.out).c (j := 0) rfl;have y0 := (BB.out.rel R5.out).c (j := 0) rfl;have x1 := (BA.out.rel R5.out).c (j := 1) rfl;have y1 := (BB.out.rel R5.out).c (j := 1) rfl;have x2 := (BA.out.rel R5.out).c (j := 2) rfl;have y2 := (BB.out.rel R5.out).c (j := 2) rfl;have x3 := (BA.out.rel R5.out).c (j := 3) rfl;have y3 := (BB.out.rel R5.out).c (j := 3) rfl;have x4 := (BA.out.rel R5.out).c (j := 4) rfl;have y4 := (BB.out.rel R5.out).c (j := 4) rfl;have x5 := (BA.out.rel R5.out).c (j := 5) rfl;have y5 := (BB.out.rel R5.out).c (j := 5) rfl;have x6 := (BA.out.rel R5.out).c (j := 6) rfl;have y6 := (BB.out.rel R5.out).c (j := 6) rfl;have x7 := (BA.out.rel R5.out).c (j := 7) rfl;have y7 := (BB.out.rel R5.out).c (j := 7) rfl;have xl := (BA.out.rel R5.out).lt;have yl := (BB.out.rel R5.out).lt;have fin : Hid (V = ZR) := by show _ = _; rw [EV1.out]; simp
        go_wp2;go_ret;exact ⟨ret_b2 fin.out.symm, R0.out.trans R5.out⟩
set_option maxRecDepth 20000 in
theorem eqV_any (L M : List (VerM)) (ad ad' : Option Addr) (cap cap' : Nat) (w : World) (hL : RowB (fun _ => True) w ad (L.flatMap verC)) (hM : RowB (fun _ => True) w ad' (M.flatMap verC)) (bL : ∀ p ∈ L, VerB (fun _ => True) w p) (bM : ∀ p ∈ M, VerB (fun _ => True) w p) (h1 : L.length ≤ 100000) (h2 : M.length ≤ 100000) :
  Calls Tryz.prog 24 #[.slice ad L.length cap, .slice ad' M.length cap', .func (.func 25) #[] #[]] w (BRes (eqL VerM.same L M) w) := by
 unfold BRes;have BL := Hj bL;have BM := Hj bM;clear bL bM;by_cases hnn : L.length = M.length
 ·rw [eqL_full hnn];obtain ⟨n, hn⟩ : ∃ n, L.length = n := ⟨_, rfl⟩;obtain ⟨n', hn'⟩ : ∃ n, M.length = n := ⟨_, rfl⟩;have RL : Hid (0 < n → ∃ g off, ad = some ⟨g, off, none⟩ ∧ g < w.heap.size ∧ True ∧ ∀ i p, L[i]? = some p → ∀ j u, (verC p)[j]? = some u → w.cell? ⟨g, off + i * 8 + j, none⟩ = some u) := fun h => row_open hL verC_len (by decide) (by omega)
  have RM : Hid (0 < n' → ∃ g off, ad' = some ⟨g, off, none⟩ ∧ g < w.heap.size ∧ True ∧ ∀ i p, M[i]? = some p → ∀ j u, (verC p)[j]? = some u → w.cell? ⟨g, off + i * 8 + j, none⟩ = some u) := fun h => row_open hM verC_len (by decide) (by omega)
  have HN := Hj hn;have HN' := Hj hn';rw [hn] at h1 ⊢;rw [hn'] at h2 ⊢;clear hL hM hn hn';obtain rfl : n' = n := by have e1 := HN.out; have e2 := HN'.out; omega
  have en : ((n' : Int) == (n' : Int)) = true := by simp
  obtain ⟨n, hnr⟩ : ∃ n, n = n' := ⟨_, rfl⟩;subst hnr;clear hnn;go_enter Tryz.func24, Tryz.ntmps24;go_wp2_with fail
  go_loopw [17] (fun i wx => ∃ k : Nat, k ≤ n ∧ i = .int .i64 k ∧ Hid (alK (fun i => eqO VerM.same L[i]? M[i]?) k = true) ∧ Hid (Rel w wx)) (fun i _ => n - (intOf i).toNat)
  case atStart => exact ⟨0, by omega, rfl, rfl, Rel.refl _⟩
  case round =>
   obtain ⟨k, hk, rfl, hA, hR⟩ := hrel;by_cases hlt : k < n
   ·skip
    have ki : (k : Int) < (n : Int) := by omega
    obtain ⟨g, off, rfl, hg, -, hc⟩ := RL.out (by omega);obtain ⟨g', off', rfl, hg', -, hc'⟩ := RM.out (by omega);obtain ⟨p, hp⟩ : ∃ p, L[k]? = some p := get_some (by rw [HN.out]; exact hlt);obtain ⟨q, hq⟩ : ∃ p, M[k]? = some p := get_some (by rw [HN'.out]; exact hlt)
    have HS : Hid (alK (fun i => eqO VerM.same L[i]? M[i]?) (k + 1) = VerM.same p q) := by
     show _ = _
     simp only [alK]; rw [hA.out, eqO_at hp hq]; simp
    have hBp := BL.out p (List.mem_of_getElem? hp);have hBq := BM.out q (List.mem_of_getElem? hq);have EL := Hj fun w' (r : Rel w w') => sameVersion_any p q w' (VerB.rel hBp r) (VerB.rel hBq r)
    have HCp := Hj fun j u h => hc k p hp j u h
    have HCq := Hj fun j u h => hc' k q hq j u h
    obtain ⟨m, hm⟩ : ∃ m, m = p := ⟨_, rfl⟩;subst hm;obtain ⟨m', hm'⟩ : ∃ m, m = q := ⟨_, rfl⟩;subst hm';obtain ⟨Z, hZ⟩ : ∃ Z, VerM.same m m' = Z := ⟨_, rfl⟩;rw [hZ] at EL HS;unfold BRes at EL;unfold VerM.val at EL;clear hZ hBp hBq;clear hp hq hc hc';have c0 := hR.out.cell (HCp.out 0 _ rfl);have c1 := hR.out.cell (HCp.out 1 _ rfl);have c2 := hR.out.cell (HCp.out 2 _ rfl);have c3 := hR.out.cell (HCp.out 3 _ rfl);have c4 := hR.out.cell (HCp.out 4 _ rfl);have c5 := hR.out.cell (HCp.out 5 _ rfl);have c6 := hR.out.cell (HCp.out 6 _ rfl);have c7 := hR.out.cell (HCp.out 7 _ rfl);simp only [Nat.add_zero] at c0;have hgr := hR.out.lt hg;have hgr' := hR.out.lt hg';obtain ⟨X, hX⟩ : ∃ X, wr.alloc (.cells #[.int .i64 m.frm, .int .i64 m.mode, .int .i64 m.unit, .slice m.ca m.cr.length m.cc, .slice m.sa m.se.length m.sc, .slice m.la m.le.length m.lc, .slice m.ga m.gr.length m.gc, .slice m.ra m.re.length m.rc] 36) = X := ⟨_, rfl⟩;have RX : Hid (Rel wr X) := by show Rel _ _; rw [← hX]; exact (Rel.refl wr).alloc _
    have BX : Hid (Blk X wr.heap.size 36 [.int .i64 m.frm, .int .i64 m.mode, .int .i64 m.unit, .slice m.ca m.cr.length m.cc, .slice m.sa m.se.length m.sc, .slice m.la m.le.length m.lc, .slice m.ga m.gr.length m.gc, .slice m.ra m.re.length m.rc]) := by show Blk _ _ _ _; rw [← hX]; exact Blk.new wr _ #[.int .i64 m.frm, .int .i64 m.mode, .int .i64 m.unit, .slice m.ca m.cr.length m.cc, .slice m.sa m.se.length m.sc, .slice m.la m.le.length m.lc, .slice m.ga m.gr.length m.gc, .slice m.ra m.re.length m.rc]
    have R1 := Hj (hR.out.trans RX.out);have d0 := R1.out.cell (HCq.out 0 _ rfl);have d1 := R1.out.cell (HCq.out 1 _ rfl);have d2 := R1.out.cell (HCq.out 2 _ rfl);have d3 := R1.out.cell (HCq.out 3 _ rfl);have d4 := R1.out.cell (HCq.out 4 _ rfl);have d5 := R1.out.cell (HCq.out 5 _ rfl);have d6 := R1.out.cell (HCq.out 6 _ rfl);have d7 := R1.out.cell (HCq.out 7 _ rfl);simp only [Nat.add_zero] at d0;have hx' := R1.out.lt hg';obtain ⟨Y, hY⟩ : ∃ Y, X.alloc (.cells #[.int .i64 m'.frm, .int .i64 m'.mode, .int .i64 m'.unit, .slice m'.ca m'.cr.length m'.cc, .slice m'.sa m'.se.length m'.sc, .slice m'.la m'.le.length m'.lc, .slice m'.ga m'.gr.length m'.gc, .slice m'.ra m'.re.length m'.rc] 36) = Y := ⟨_, rfl⟩;have RY : Hid (Rel X Y) := by show Rel _ _; rw [← hY]; exact (Rel.refl X).alloc _
    have BY : Hid (Blk Y X.heap.size 36 [.int .i64 m'.frm, .int .i64 m'.mode, .int .i64 m'.unit, .slice m'.ca m'.cr.length m'.cc, .slice m'.sa m'.se.length m'.sc, .slice m'.la m'.le.length m'.lc, .slice m'.ga m'.gr.length m'.gc, .slice m'.ra m'.re.length m'.rc]) := by show Blk _ _ _ _; rw [← hY]; exact Blk.new X _ #[.int .i64 m'.frm, .int .i64 m'.mode, .int .i64 m'.unit, .slice m'.ca m'.cr.length m'.cc, .slice m'.sa m'.se.length m'.sc, .slice m'.la m'.le.length m'.lc, .slice m'.ga m'.gr.length m'.gc, .slice m'.ra m'.re.length m'.rc]
    have R2 := Hj (R1.out.trans RY.out);have x0 := (BX.out.rel RY.out).c (j := 0) rfl;have x1 := (BX.out.rel RY.out).c (j := 1) rfl;have x2 := (BX.out.rel RY.out).c (j := 2) rfl;have x3 := (BX.out.rel RY.out).c (j := 3) rfl;have x4 := (BX.out.rel RY.out).c (j := 4) rfl;have x5 := (BX.out.rel RY.out).c (j := 5) rfl;have x6 := (BX.out.rel RY.out).c (j := 6) rfl;have x7 := (BX.out.rel RY.out).c (j := 7) rfl;have y0 := BY.out.c (j := 0) rfl;have y1 := BY.out.c (j := 1) rfl;have y2 := BY.out.c (j := 2) rfl;have y3 := BY.out.c (j := 3) rfl;have y4 := BY.out.c (j := 4) rfl;have y5 := BY.out.c (j := 5) rfl;have y6 := BY.out.c (j := 6) rfl;have y7 := BY.out.c (j := 7) rfl;have xl := (BX.out.rel RY.out).lt;have yl := BY.out.lt;go_wp2_with fail;refine (EL.out _ R2.out).mono ?_;rintro e w3 ⟨rfl, h3⟩;have R3 := Hj (R2.out.trans h3);clear h3 EL c0 c1 c2 c3 c4 c5 c6 c7 d0 d1 d2 d3 d4 d5 d6 d7 x0 x1 x2 x3 x4 x5 x6 x7 y0 y1 y2 y3 y4 y5 y6 y7 hX hY xl yl hgr hgr' hx';cases Z
    ·have fin : Hid (alK (fun i => eqO VerM.same L[i]? M[i]?) n = false) := by
      show _ = _
      cases hX : alK (fun i => eqO VerM.same L[i]? M[i]?) n
      ·rfl
      ·have := HS.out;rw [alK_of (fun i hi => alK_lt hX i (by omega))] at this;cases this
     go_wp2;go_ret;exact ⟨ret_b2 fin.out.symm, R3.out⟩
    ·go_wp2
     go_roundw
     case rel => exact ⟨k + 1, by omega, by go_num, HS, R3⟩
     case measure => simp [intOf]; omega
   ·obtain rfl : k = n := by omega
    have HA := hA;go_wp2;go_ret;exact ⟨ret_b2 HA.out.symm, hR.out⟩
 ·rw [eqL_len hnn];obtain ⟨n, hn⟩ : ∃ n, L.length = n := ⟨_, rfl⟩;obtain ⟨n', hn'⟩ : ∃ n, M.length = n := ⟨_, rfl⟩;rw [hn] at h1 hnn ⊢;rw [hn'] at h2 hnn ⊢;have en : ((n : Int) == (n' : Int)) = false := by rw [zn]; omega
  clear hL hM hn hn';go_enter Tryz.func24, Tryz.ntmps24;go_wp2;go_ret;exact ⟨rfl, Rel.refl _⟩
set_option maxRecDepth 20000 in
theorem sSame_any (a b : StaM) (w : World) (ha : StaAt w a) (hb : StaAt w b) : Calls Tryz.prog 11 #[a.val, b.val] w (BRes (a.same b) w) := by
 have ES : Hid (a.same b = ((a.nm.toList == b.nm.toList) && ((a.cur == b.cur) && eqL VerM.same a.vs b.vs))) := by show _ = _; rw [str_eqL]; rfl
 obtain ⟨V, hV⟩ : ∃ v, a.same b = v := ⟨_, rfl⟩;rw [hV] at ES ⊢;have EV := Hj fun w' (r : Rel w w') => eqV_any a.vs b.vs a.ad b.ad a.cap b.cap w' (StaB.rel ha r).r (StaB.rel hb r).r (StaB.rel ha r).b (StaB.rel hb r).b ha.l hb.l
 obtain ⟨Z, hZ⟩ : ∃ z, eqL VerM.same a.vs b.vs = z := ⟨_, rfl⟩;rw [hZ] at ES EV;unfold BRes at EV;clear hV hZ ha hb;unfold BRes StaM.val;obtain ⟨N, hN⟩ : ∃ N, (a.nm.toList == b.nm.toList) = N := ⟨_, rfl⟩;obtain ⟨K, hK⟩ : ∃ K, (a.cur == b.cur) = K := ⟨_, rfl⟩;rw [hN, hK] at ES;obtain ⟨WB, hWB⟩ : ∃ X, (w.alloc (.cells #[.string a.nm, .int .i64 a.cur, .slice a.ad a.vs.length a.cap] 25)).alloc (.cells #[.string b.nm, .int .i64 b.cur, .slice b.ad b.vs.length b.cap] 25) = X := ⟨_, rfl⟩;have R0 : Hid (Rel w WB) := by show Rel _ _; rw [← hWB]; exact ((Rel.refl w).alloc _).alloc _
 have BA : Hid (Blk WB w.heap.size 25 [.string a.nm, .int .i64 a.cur, .slice a.ad a.vs.length a.cap]) := by show Blk _ _ _ _; rw [← hWB]; exact (Blk.new w _ #[.string a.nm, .int .i64 a.cur, .slice a.ad a.vs.length a.cap]).alloc _
 have BB : Hid (Blk WB (w.heap.size + 1) 25 [.string b.nm, .int .i64 b.cur, .slice b.ad b.vs.length b.cap]) := by
  show Blk _ _ _ _
  rw [← hWB];have h := Blk.new (w.alloc (.cells #[.string a.nm, .int .i64 a.cur, .slice a.ad a.vs.length a.cap] 25)) 25 #[.string b.nm, .int .i64 b.cur, .slice b.ad b.vs.length b.cap];rw [World.size_alloc] at h; exact h
 have x0 := (BA.out.rel (Rel.refl _)).c (j := 0) rfl;have y0 := (BB.out.rel (Rel.refl _)).c (j := 0) rfl;have x1 := (BA.out.rel (Rel.refl _)).c (j := 1) rfl;have y1 := (BB.out.rel (Rel.refl _)).c (j := 1) rfl;have x2 := (BA.out.rel (Rel.refl _)).c (j := 2) rfl;have y2 := (BB.out.rel (Rel.refl _)).c (j := 2) rfl;have xl := (BA.out.rel (Rel.refl _)).lt;have yl := (BB.out.rel (Rel.refl _)).lt;cases N
 ·have fin : Hid (V = false) := by show _ = _; rw [ES.out]; simp
  go_enter Tryz.func11, Tryz.ntmps11;go_wp2;go_ret;exact ⟨ret_b2 fin.out.symm, R0.out⟩
 ·cases K
  ·have fin : Hid (V = false) := by show _ = _; rw [ES.out]; simp
   go_enter Tryz.func11, Tryz.ntmps11;go_wp2;go_ret;exact ⟨ret_b2 fin.out.symm, R0.out⟩
  ·have fin : Hid (V = Z) := by show _ = _; rw [ES.out]; simp
   go_enter Tryz.func11, Tryz.ntmps11;go_wp2_with fail;(try rw [hWB]);refine (EV.out _ R0.out).mono ?_;rintro e w1 ⟨rfl, k1⟩;have R1 := Hj (R0.out.trans k1);clear k1 hWB;clear xl yl x0 y0 x1 y1 x2 y2;go_wp2;go_ret;exact ⟨ret_b2 fin.out.symm, R1.out⟩
end Go.Proofs.YtojghojlapgbiaaGreatDoor

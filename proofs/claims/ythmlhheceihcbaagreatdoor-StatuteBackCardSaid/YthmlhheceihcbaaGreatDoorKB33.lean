/- Lemmas, each as it is printed; no conditions but those printed. -/
import Derived.Test.YthmlhheceihcbaaGreatDoorKB13
namespace Go.Proofs.YthmlhheceihcbaaGreatDoor
set_option maxHeartbeats 16000000
open Go.RowKit Cal Str Tok Frac Txt Tree Go.Proofs.Tryz
attribute [local go_sem] calmUpon
set_option linter.unusedVariables false
set_option linter.unusedSimpArgs false
def _root_.Go.Proofs.YthmlhheceihcbaaGreatDoor.Tree.Ex.same : Ex -> Ex -> Bool
 | .no, .no => true
 | .mk op a b d s n kid, .mk op' a' b' d' s' n' kid' => (op == op') && ((a == a' && b == b') && ((d == d') && ((s.data.toList == s'.data.toList) && ((n == n') && alK (fun i => (kid i).same (kid' i)) n))))
 | _, _ => false
theorem same_refl (t : Ex) : t.same t = true := by
 induction t with
 | no => rfl
 | mk op a b d s n kid ih =>
  simp only [Ex.same, beq_self_eq_true, Bool.true_and];exact alK_of (fun i _ => ih i)
theorem str_eqL {a b : ByteArray} : (a.toList == b.toList) = (a.data.toList == b.data.toList) := by
 rw [Lib.toList_data, Lib.toList_data]
end Go.Proofs.YthmlhheceihcbaaGreatDoor
namespace Go.Proofs.YthmlhheceihcbaaGreatDoor
set_option maxHeartbeats 16000000
open Cal Str Tok Frac Txt Tree
set_option linter.unusedVariables false
def eqO {α : Type} (f : α -> α -> Bool) : Option α -> Option α -> Bool
 | some a, some b => f a b
 | _, _ => false
def eqL {α : Type} (f : α -> α -> Bool) (L M : List α) : Bool := (L.length == M.length) && alK (fun i => eqO f L[i]? M[i]?) L.length
def crS (p q : Int × Int) : Bool := (p.1 == q.1) && (p.2 == q.2)
def seS (p q : Int × Int × Int) : Bool := (p.1 == q.1) && ((p.2.1 == q.2.1) && (p.2.2 == q.2.2))
def leS (p q : ByteArray × (Ex × Value)) : Bool := (p.1.data.toList == q.1.data.toList) && p.2.1.same q.2.1
def grS (p q : Int × (Ex × Value) × (Ex × Value)) : Bool := (p.1 == q.1) && (p.2.1.1.same q.2.1.1 && p.2.2.1.same q.2.2.1)
def reS (p q : Int × (Ex × Value)) : Bool := (p.1 == q.1) && p.2.1.same q.2.1
def VerM.same (a b : VerM) : Bool := (a.frm == b.frm) && (((a.mode == b.mode) && (a.unit == b.unit)) && (eqL crS a.cr b.cr && (eqL seS a.se b.se && (eqL leS a.le b.le && (eqL grS a.gr b.gr && eqL reS a.re b.re)))))
def StaM.same (a b : StaM) : Bool := (a.nm.data.toList == b.nm.data.toList) && ((a.cur == b.cur) && eqL VerM.same a.vs b.vs)
end Go.Proofs.YthmlhheceihcbaaGreatDoor
namespace Go.Proofs.YthmlhheceihcbaaGreatDoor
set_option maxHeartbeats 16000000
open Go.RowKit Cal Str Tok Frac Txt Tree Go.Proofs.Tryz
attribute [local go_sem] calmUpon
set_option linter.unusedVariables false
set_option linter.unusedSimpArgs false
def RSameOk (t : Ex) : Prop := ∀ (u : Ex) (x y : Value) (w : World), ExKids t w x -> ExKids u w y -> Calls prog 87 #[.agg #[.int .i64 t.op, .int .i64 t.va, .int .i64 t.vb, .int .i64 t.dm, .string t.nm, x], .agg #[.int .i64 u.op, .int .i64 u.va, .int .i64 u.vb, .int .i64 u.dm, .string u.nm, y]] w (BRes (t.same u) w)
theorem rSame_any (t : Ex) : RSameOk t := by
 induction t with
 | no => intro u x y w h; exact h.elim
 | mk op a b d s n kid ih =>
  intro u x y w h hu
  cases u with
  | no => exact hu.elim
  | mk op' a' b' d' s' n' kid' =>
   obtain ⟨-, hn, ad, cap, rfl, hk⟩ := h;obtain ⟨-, hn', ad', cap', rfl, hk'⟩ := hu;have HK : Hid (KidsAt w n kid ad) := hk;have HK' : Hid (KidsAt w n' kid' ad') := hk';have IH := Hj ih;unfold BRes;simp only [Ex.op, Ex.va, Ex.vb, Ex.dm, Ex.nm, Ex.same];rw [<- str_eqL];clear hk hk' ih;by_cases h1 : op = op'
   ·subst h1;by_cases ha : a = a'
    ·subst ha;by_cases hb : b = b'
     ·subst hb;by_cases h3 : d = d'
      ·subst h3;obtain ⟨S, hS⟩ : ∃ S, (s.toList == s'.toList) = S := ⟨_, rfl⟩;rw [hS];cases S
       ·go_enter func87, ntmps87;go_wp2;go_ret;exact ⟨ret_b2 (by simp), rx0⟩
       ·by_cases hnn : n = n'
        ·subst hnn;rw [show (n == n) = true by simp];simp only [beq_self_eq_true, Bool.true_and];go_enter func87, ntmps87;go_wp2_with fail
         go_loopw [5] (fun i wx => ∃ k : Nat, k <= n /\ i = .int .i64 k /\ Hid (alK (fun i => (kid i).same (kid' i)) k = true) /\ Hid (Rel ((w.alloc (.cells #[.int .i64 op, .int .i64 a, .int .i64 b, .int .i64 d, .string s, .slice ad n cap] 59)).alloc (.cells #[.int .i64 op, .int .i64 a, .int .i64 b, .int .i64 d, .string s', .slice ad' n cap'] 59)) wx)) (fun i _ => n - (intOf i).toNat)
         case atStart => exact ⟨0, by omega, rfl, rfl, rx0⟩
         case round =>
          obtain ⟨k, hkn, rfl, hA, hR⟩ := hrel;have hR2 := hR.out;have kq0 := keep6 hR2 (b := w.heap.size) (by first | (simp; done) | (simp; omega) | omega);have kq1 := keep6 hR2 (b := w.heap.size + 1) (by first | (simp; done) | (simp; omega) | omega);have kz2 := hR2.size;(try simp only [zsa, zsc, zsd] at kz2);have H2 := Hj hR2;clear hR2
          have RW : Hid (Rel w wr) := by
           show Rel _ _
           exact rx210
          have e5 : wr.cell? ⟨w.heap.size, 5, none⟩ = some (.slice ad n cap) := hR.out.cell (by simp);have e6 : wr.cell? ⟨w.heap.size + 1, 5, none⟩ = some (.slice ad' n cap') := hR.out.cell (by simp);by_cases hlt : k < n
          ·obtain ⟨g, off, rfl, hg, hc⟩ := HK.out (by omega);obtain ⟨g', off', rfl, hg', hc'⟩ := HK'.out (by omega);obtain ⟨xi, hs, hx⟩ := hc k hlt;obtain ⟨yi, hs', hy⟩ := hc' k hlt;obtain ⟨xa, xc, rfl⟩ := kids_slice hx;obtain ⟨ya, yc, rfl⟩ := kids_slice hy;obtain ⟨c0, c1, c2, c3, c4, c5⟩ := six_rel hs RW.out hg;obtain ⟨d0, d1, d2, d3, d4, d5⟩ := six_rel hs' RW.out hg';have ki : (k : Int) < (n : Int) := by omega
           have C := Hj fun w' (r : Rel wr w') => IH.out k (kid' k) _ _ w' (kids_rel hx (RW.out.trans r)) (kids_rel hy (RW.out.trans r))
           unfold BRes at C;have hsu : alK (fun i => (kid i).same (kid' i)) (k + 1) = ((kid k).same (kid' k)) := by simp only [alK]; rw [hA.out]; simp
           have HSU := Hj hsu;obtain ⟨B, hB⟩ : ∃ B, (kid k).same (kid' k) = B := ⟨_, rfl⟩;rw [hB] at C HSU;clear hs hs' hx hy hc hc' hsu hB;go_wp2_with fail;refine wp_region_calm (fun _ w' => Rel wr w') (fun _ => false) [0, 1, 2, 3, 4, 5, 6, 7, 8, 9, 10, 11] 0 (by kernel_rfl) (by kernel_rfl) ?hst ?hS0 (fun w0 h0 => ?_)
           case hst => exact fun _ _ _ h r => h.trans r
           case hS0 => exact Rel.refl _
           iterate 10
            refine wcg ?_;apply ei
            ·intro M w hM hS;have p5 := hS.cell e5;have p6 := hS.cell e6;have p0 := hS.cell c0;have p1 := hS.cell c1;have p2 := hS.cell c2;have p3 := hS.cell c3;have p4 := hS.cell c4;have p7 := hS.cell c5;have r0 := hS.cell d0;have r1 := hS.cell d1;have r2 := hS.cell d2;have r3 := hS.cell d3;have r4 := hS.cell d4;have r5 := hS.cell d5;unfold calmAt;go_simp;exact ⟨rfl, Rel.refl _⟩
           refine wcg ?_;apply ei
           ·intro M w hM hS;unfold calmAt;go_simp
            with_reducible refine (C.out _ hS).mono ?_
            rintro e w1 ⟨rfl, hb⟩;exact ⟨rfl, hb⟩
           iterate 1
            refine wcg ?_;apply ei
            ·intro M w hM hS;unfold calmAt;go_simp;exact ⟨rfl, Rel.refl _⟩
           refine wpAnyR_end (by kernel_rfl) (fun w3 h3' => ?_);(try simp only [Act.put, zla, zlb, zlc]);have h3 := h0.trans h3';clear h0 h3';have kz3 := h3.size;(try simp only [zsa, zsc, zsd] at kz3);have H3 := Hj h3;clear h3;have R3 := Hj (hR.out.trans H3.out);cases B
           ·have hno : Hid (alK (fun i => (kid i).same (kid' i)) n = false) := by
             show _ = _
             cases hX : alK (fun i => (kid i).same (kid' i)) n
             ·rfl
             ·have := HSU.out;rw [alK_of (fun i hi => alK_lt hX i (by omega))] at this;cases this
            go_wp2;go_ret;exact ⟨ret_b2 hno.out.symm, RW.out.trans H3.out⟩
           ·go_wp2
            go_roundw
            case rel => exact ⟨k + 1, by omega, by go_num, HSU, R3⟩
            case measure => simp [intOf]; omega
          ·have : k = n := by omega
           subst this;go_wp2;go_ret;exact ⟨ret_b2 hA.out.symm, RW.out⟩
        ·have en : ((n : Int) == (n' : Int)) = false := by rw [zn]; omega
         have en' : (n == n') = false := by simpa using hnn
         rw [en'];go_enter func87, ntmps87;go_wp2;go_ret;exact ⟨ret_b2 (by simp), rx0⟩
      ·have e3 : (d == d') = false := by rw [zn]; exact h3
       go_enter func87, ntmps87;go_wp2;go_ret;exact ⟨ret_b2 (by simp [e3]), rx0⟩
     ·have e2 : (b == b') = false := by rw [zn]; exact hb
      go_enter func87, ntmps87;go_wp2;go_ret;exact ⟨ret_b2 (by simp [e2]), rx0⟩
    ·have e2 : (a == a') = false := by rw [zn]; exact ha
     go_enter func87, ntmps87;go_wp2;go_ret;exact ⟨ret_b2 (by simp [e2]), rx0⟩
   ·have e1 : (op == op') = false := by rw [zn]; exact h1
    go_enter func87, ntmps87;go_wp2;go_ret;exact ⟨ret_b2 (by simp [e1]), rx0⟩
end Go.Proofs.YthmlhheceihcbaaGreatDoor
namespace Go.Proofs.YthmlhheceihcbaaGreatDoor
set_option maxHeartbeats 16000000
open Go.RowKit Cal Str Tok Frac Txt Tree Go.Proofs.Tryz
set_option linter.unusedVariables false
set_option linter.unusedSimpArgs false
def adr (m : VerM) : Nat -> Option Addr
 | 0 => m.ca
 | 1 => m.sa
 | 2 => m.la
 | 3 => m.ga
 | _ => m.ra
def Apt (f : Nat -> Option Addr) : Prop := ∀ i j, i < 5 -> j < 5 -> i ≠ j -> Apart (f i) (f j)
theorem apt_set {f f' : Nat -> Option Addr} {a : Nat} (h : Apt f) (e : ∀ i, i < 5 -> i ≠ a -> f' i = f i) (hn : ∀ j, j < 5 -> j ≠ a -> Apart (f' a) (f j)) : Apt f' := fun i j hi hj hne => by
 by_cases h1 : i = a
 ·subst h1;rw [e j hj (fun h => hne h.symm)]; exact hn j hj (fun h => hne h.symm)
 ·by_cases h2 : j = a
  ·subst h2;rw [e i hi h1]; exact fun x y hx hy hxy => hn i hi h1 y x hy hx hxy.symm
  ·rw [e i hi h1, e j hj h2]; exact h i j hi hj hne
def OffV (m : VerM) (q : Nat) : Prop := ∀ i, i < 5 -> OffB (adr m i) q
theorem own_lt {w : World} {base T d k rc n : Nat} {ra : Option Addr} {vs : List Value} (h : w.ownsRow base T d (.slice ra k rc) n vs) : ∀ b, ra = some b -> base <= b.block /\ b.block < w.heap.size := fun b hb => by
 subst hb;exact h.lt b.block rfl
theorem own_cap2 {w : World} {base d k n cap : Nat} {T : TypeId} {ad : Option Addr} {vs : List Value} (h : w.ownsRow base T d (.slice ad n cap) k vs) : n <= cap := by
 rcases h.2 with ⟨h2, h3⟩ | ⟨g, c, cur, e, hg, r, hc, -⟩
 ·simp only [Value.slice.injEq] at h2; omega
 ·simp only [Value.slice.injEq] at e; omega
theorem apart_new {ra ea : Option Addr} {k rc g H : Nat} (h : Apart ra ea) (hat : (Value.slice ra k rc).ownBlock = some g \/ g = H) (hE : ∀ b, ea = some b -> b.block < H) : Apart (some ⟨g, 0, none⟩) ea := fun a b ha hb => by
 cases ha
 rcases hat with e | rfl
 ·obtain ⟨a', ha', e2⟩ := own_block e;rw [<- e2]; exact h a' b ha' hb
 ·have := hE b hb;simp only []; omega
theorem apart_row {ra ea : Option Addr} {k rc n ec : Nat} (h : Apart ra ea) : ∀ g, (Value.slice ea n ec).ownBlock = some g -> (Value.slice ra k rc).ownBlock ≠ some g := fun g hg e => by
 obtain ⟨a, ha, e1⟩ := own_block hg;obtain ⟨b, hb, e2⟩ := own_block e;exact h b a hb ha (by omega)
structure ClS (b : Nat) (w0 W : World) (BO N : Nat) (m : VerM) : Prop where
 ro : Ro b w0 W
 hb : b < w0.heap.size
 lt : w0.heap.size <= BO
 o : Blk W BO 48 (verC m)
 c : W.ownsRow (BO + 1) 51 2 (.slice m.ca m.cr.length m.cc) m.cr.length (m.cr.flatMap crC)
 s : W.ownsRow (BO + 1) 56 3 (.slice m.sa m.se.length m.sc) m.se.length (m.se.flatMap seC)
 l : W.ownsRow (BO + 1) 61 7 (.slice m.la m.le.length m.lc) m.le.length (m.le.flatMap leC)
 g : W.ownsRow (BO + 1) 64 13 (.slice m.ga m.gr.length m.gc) m.gr.length (m.gr.flatMap grC)
 r : W.ownsRow (BO + 1) 66 7 (.slice m.ra m.re.length m.rc) m.re.length (m.re.flatMap reC)
 ap : Apt (adr m)
 n : m.cr.length <= N /\ m.se.length <= N /\ m.le.length <= N /\ m.gr.length <= N /\ m.re.length <= N
 i0 : I64 m.frm
 i1 : I64 m.mode
 i2 : I64 m.unit
 b0 : ∀ p ∈ m.cr, I64 p.1 /\ I64 p.2
 b1 : ∀ p ∈ m.se, I64 p.1 /\ I64 p.2.1 /\ I64 p.2.2
 b2 : ∀ p ∈ m.le, LeB (fun q => BO < q /\ OffV m q) W p
 b3 : ∀ p ∈ m.gr, GrB (fun q => BO < q /\ OffV m q) W p
 b4 : ∀ p ∈ m.re, ReB (fun q => BO < q /\ OffV m q) W p
section
variable {b BO N g2 cap2 : Nat} {w0 W X w8 w9 : World} {m : VerM}
theorem ClS.go (h : ClS b w0 W BO N m) (r : Ro b W X) : ClS b w0 X BO N m := by
 have h1 := h.hb;have h2 := h.lt;have hq : ∀ q, BO < q /\ OffV m q -> q ≠ b := fun q hq => by omega
 exact ⟨h.ro.trans r, h.hb, h.lt, h.o.ro r (by omega), own_rox h.c r (by omega), own_rox h.s r (by omega), own_rox h.l r (by omega), own_rox h.g r (by omega), own_rox h.r r (by omega), h.ap, h.n, h.i0, h.i1, h.i2, h.b0, h.b1,
  fun p hp => ⟨(h.b2 p hp).1, (h.b2 p hp).2.ro r hq⟩, fun p hp => ⟨(h.b3 p hp).1, (h.b3 p hp).2.1.ro r hq, (h.b3 p hp).2.2.ro r hq⟩, fun p hp => ⟨(h.b4 p hp).1, (h.b4 p hp).2.ro r hq⟩⟩
theorem ClS.on (h : ClS b w0 W BO N m) (r : Rel W X) : ClS b w0 X BO N m := h.go (Ro.of r)
theorem ClS.up {M : Nat} (h : ClS b w0 W BO N m) (hM : N <= M) : ClS b w0 W BO M m := { h with n := by have := h.n; omega }
theorem ClS.adr_lt (h : ClS b w0 W BO N m) (i : Nat) : ∀ a, adr m i = some a -> BO + 1 <= a.block /\ a.block < W.heap.size := fun a ha => by
 match i with
 | 0 => exact own_lt h.c a ha
 | 1 => exact own_lt h.s a ha
 | 2 => exact own_lt h.l a ha
 | 3 => exact own_lt h.g a ha
 | i + 4 => exact own_lt h.r a ha
theorem ClS.off (h : ClS b w0 W BO N m) {q : Nat} (hq : W.heap.size <= q) : BO < q /\ OffV m q := by
 have h1 := h.o.lt;refine ⟨by omega, fun i hi a ha => ?_⟩;have := h.adr_lt i a ha;omega
theorem ClS.toB (h : ClS b w0 W BO N m) (hN : N <= 100000) : VerB (fun q => w0.heap.size <= q) W m := by
 have h2 := h.lt;have n := h.n;have hq : ∀ q, BO < q /\ OffV m q -> w0.heap.size <= q := fun q hq => by omega
 exact ⟨h.i0, h.i1, h.i2, by omega, by omega, by omega, by omega, by omega, (own_rowB h.c).mono (fun q hq => by omega), (own_rowB h.s).mono (fun q hq => by omega), (own_rowB h.l).mono (fun q hq => by omega), (own_rowB h.g).mono (fun q hq => by omega), (own_rowB h.r).mono (fun q hq => by omega), h.b0, h.b1,
  fun p hp => ⟨(h.b2 p hp).1, (h.b2 p hp).2.mono hq⟩, fun p hp => ⟨(h.b3 p hp).1, (h.b3 p hp).2.1.mono hq, (h.b3 p hp).2.2.mono hq⟩, fun p hp => ⟨(h.b4 p hp).1, (h.b4 p hp).2.mono hq⟩, own_cap2 h.c, own_cap2 h.s, own_cap2 h.l, own_cap2 h.g, own_cap2 h.r⟩
theorem tx_app {a k rc H : Nat} {m' : VerM} {ra : Option Addr} (ha : a < 5) (hra : adr m a = ra) (h1 : adr m' a = some ⟨g2, 0, none⟩) (h2 : ∀ i, i < 5 -> i ≠ a -> adr m' i = adr m i) (hg : W.grownBy w8 (Value.slice ra k rc).ownBlock) (hat : (Value.slice ra k rc).ownBlock = some g2 \/ g2 = H) (hH : W.heap.size <= H) (r : Rel w8 w9) (i : Nat) (u : Value) {p : Ex × Value} (h : TxB (fun q => BO < q /\ OffV m q) W p) : TxB (fun q => BO < q /\ OffV m' q) (w9.setCell ⟨BO, i, none⟩ u) p := by
 subst hra
 have h3 : TxB (fun q => BO < q /\ OffV m' q) w8 p := h.keep hg.size (fun q hq hp => ⟨offB_grown hg hq (hp.2 a ha), hp.1, fun j hj => by
  by_cases e : j = a
  ·subst e; rw [h1]; exact offB_next hat (by omega) (hp.2 j hj)
  ·rw [h2 j hj e]; exact hp.2 j hj⟩)
 exact (h3.rel r).other (fun q hq => by omega) i u
theorem own_app {d n k rc base : Nat} {Ty : TypeId} {ra ea : Option Addr} {ec : Nat} {vs : List Value} (h : W.ownsRow base Ty d (.slice ea n ec) n vs) (hA : Apart ra ea) (hg : W.grownBy w8 (Value.slice ra k rc).ownBlock) (r : Rel w8 w9) (hb : BO < base) (i : Nat) (u : Value) : (w9.setCell ⟨BO, i, none⟩ u).ownsRow base Ty d (.slice ea n ec) n vs :=
 own_set (own_rel' (own_grown h hg (apart_row hA)) r) hb i u
theorem ClS.appC (h : ClS b w0 W BO N m) {H : Nat} {x : Int × Int} (hx : I64 x.1 /\ I64 x.2) (hown : w8.ownsRow (BO + 1) 51 2 (.slice (some ⟨g2, 0, none⟩) (m.cr.length + 1) cap2) (m.cr.length + 1) (m.cr.flatMap crC ++ crC x)) (hg : W.grownBy w8 (Value.slice m.ca m.cr.length m.cc).ownBlock) (hat : (Value.slice m.ca m.cr.length m.cc).ownBlock = some g2 \/ g2 = H) (hH : W.heap.size <= H) (r : Rel w8 w9) :
  ClS b w0 (w9.setCell ⟨BO, 3, none⟩ (.slice (some ⟨g2, 0, none⟩) (m.cr.length + 1) cap2)) BO (N + 1) { m with cr := m.cr ++ [x], ca := some ⟨g2, 0, none⟩, cc := cap2 } := by
 have h1 := h.hb;have h2 := h.lt;have hrow : ∀ q, (Value.slice m.ca m.cr.length m.cc).ownBlock = some q -> BO + 1 <= q := fun q hq => (h.c.lt q hq).1
 have ro8 : Ro b w0 w8 := Ro.grown h.ro hg (fun q hq => by have := hrow q hq; omega);have o8 : Blk w8 BO 48 (verC m) := h.o.grown hg (fun e => by have := hrow _ e.symm; omega)
 have TX : ∀ p, TxB (fun q => BO < q /\ OffV m q) W p -> TxB (fun q => BO < q /\ OffV { m with cr := m.cr ++ [x], ca := some ⟨g2, 0, none⟩, cc := cap2 } q) (w9.setCell ⟨BO, 3, none⟩ (.slice (some ⟨g2, 0, none⟩) (m.cr.length + 1) cap2)) p := fun p hp =>
  tx_app (a := 0) (by decide) rfl rfl (fun i hi hne => by rcases (show i = 0 \/ i = 1 \/ i = 2 \/ i = 3 \/ i = 4 by omega) with rfl | rfl | rfl | rfl | rfl <;> first | rfl | exact absurd rfl hne) hg hat hH r _ _ hp
 refine ⟨(ro8.trans (Ro.of r)).setNew (p := ⟨BO, 3, none⟩) h2 _, h1, h2, (by unfold verC; dsimp only; rw [List.length_append]; exact (o8.rel r).set 3 _), (by show World.ownsRow _ _ _ _ (.slice (some ⟨g2, 0, none⟩) (m.cr ++ [x]).length cap2) (m.cr ++ [x]).length _; rw [flat_snoc, List.length_append]; exact own_set (own_rel' hown r) (by omega) _ _), own_app h.s (h.ap 0 1 (by decide) (by decide) (by decide)) hg r (by omega) _ _, own_app h.l (h.ap 0 2 (by decide) (by decide) (by decide)) hg r (by omega) _ _, own_app h.g (h.ap 0 3 (by decide) (by decide) (by decide)) hg r (by omega) _ _, own_app h.r (h.ap 0 4 (by decide) (by decide) (by decide)) hg r (by omega) _ _,
  apt_set (a := 0) h.ap (fun i hi hne => by rcases (show i = 0 \/ i = 1 \/ i = 2 \/ i = 3 \/ i = 4 by omega) with rfl | rfl | rfl | rfl | rfl <;> first | rfl | exact absurd rfl hne) (fun j hj hne => apart_new (h.ap 0 j (by decide) hj (fun e => hne e.symm)) hat (fun b hb => Nat.lt_of_lt_of_le (h.adr_lt j b hb).2 hH)),
  by have := h.n; simp only [List.length_append, List.length_cons, List.length_nil]; omega, h.i0, h.i1, h.i2, fun p hp => (by rcases List.mem_append.1 hp with h1 | h1; exact h.b0 p h1; simp at h1; subst h1; exact hx), h.b1, fun p hp => ⟨(h.b2 p hp).1, TX _ (h.b2 p hp).2⟩, fun p hp => ⟨(h.b3 p hp).1, TX _ (h.b3 p hp).2.1, TX _ (h.b3 p hp).2.2⟩, fun p hp => ⟨(h.b4 p hp).1, TX _ (h.b4 p hp).2⟩⟩
theorem ClS.appS (h : ClS b w0 W BO N m) {H : Nat} {x : Int × Int × Int} (hx : I64 x.1 /\ I64 x.2.1 /\ I64 x.2.2) (hown : w8.ownsRow (BO + 1) 56 3 (.slice (some ⟨g2, 0, none⟩) (m.se.length + 1) cap2) (m.se.length + 1) (m.se.flatMap seC ++ seC x)) (hg : W.grownBy w8 (Value.slice m.sa m.se.length m.sc).ownBlock) (hat : (Value.slice m.sa m.se.length m.sc).ownBlock = some g2 \/ g2 = H) (hH : W.heap.size <= H) (r : Rel w8 w9) :
  ClS b w0 (w9.setCell ⟨BO, 4, none⟩ (.slice (some ⟨g2, 0, none⟩) (m.se.length + 1) cap2)) BO (N + 1) { m with se := m.se ++ [x], sa := some ⟨g2, 0, none⟩, sc := cap2 } := by
 have h1 := h.hb;have h2 := h.lt;have hrow : ∀ q, (Value.slice m.sa m.se.length m.sc).ownBlock = some q -> BO + 1 <= q := fun q hq => (h.s.lt q hq).1
 have ro8 : Ro b w0 w8 := Ro.grown h.ro hg (fun q hq => by have := hrow q hq; omega);have o8 : Blk w8 BO 48 (verC m) := h.o.grown hg (fun e => by have := hrow _ e.symm; omega)
 have TX : ∀ p, TxB (fun q => BO < q /\ OffV m q) W p -> TxB (fun q => BO < q /\ OffV { m with se := m.se ++ [x], sa := some ⟨g2, 0, none⟩, sc := cap2 } q) (w9.setCell ⟨BO, 4, none⟩ (.slice (some ⟨g2, 0, none⟩) (m.se.length + 1) cap2)) p := fun p hp =>
  tx_app (a := 1) (by decide) rfl rfl (fun i hi hne => by rcases (show i = 0 \/ i = 1 \/ i = 2 \/ i = 3 \/ i = 4 by omega) with rfl | rfl | rfl | rfl | rfl <;> first | rfl | exact absurd rfl hne) hg hat hH r _ _ hp
 refine ⟨(ro8.trans (Ro.of r)).setNew (p := ⟨BO, 4, none⟩) h2 _, h1, h2, (by unfold verC; dsimp only; rw [List.length_append]; exact (o8.rel r).set 4 _), own_app h.c (h.ap 1 0 (by decide) (by decide) (by decide)) hg r (by omega) _ _, (by show World.ownsRow _ _ _ _ (.slice (some ⟨g2, 0, none⟩) (m.se ++ [x]).length cap2) (m.se ++ [x]).length _; rw [flat_snoc, List.length_append]; exact own_set (own_rel' hown r) (by omega) _ _), own_app h.l (h.ap 1 2 (by decide) (by decide) (by decide)) hg r (by omega) _ _, own_app h.g (h.ap 1 3 (by decide) (by decide) (by decide)) hg r (by omega) _ _, own_app h.r (h.ap 1 4 (by decide) (by decide) (by decide)) hg r (by omega) _ _,
  apt_set (a := 1) h.ap (fun i hi hne => by rcases (show i = 0 \/ i = 1 \/ i = 2 \/ i = 3 \/ i = 4 by omega) with rfl | rfl | rfl | rfl | rfl <;> first | rfl | exact absurd rfl hne) (fun j hj hne => apart_new (h.ap 1 j (by decide) hj (fun e => hne e.symm)) hat (fun b hb => Nat.lt_of_lt_of_le (h.adr_lt j b hb).2 hH)),
  by have := h.n; simp only [List.length_append, List.length_cons, List.length_nil]; omega, h.i0, h.i1, h.i2, h.b0, fun p hp => (by rcases List.mem_append.1 hp with h1 | h1; exact h.b1 p h1; simp at h1; subst h1; exact hx), fun p hp => ⟨(h.b2 p hp).1, TX _ (h.b2 p hp).2⟩, fun p hp => ⟨(h.b3 p hp).1, TX _ (h.b3 p hp).2.1, TX _ (h.b3 p hp).2.2⟩, fun p hp => ⟨(h.b4 p hp).1, TX _ (h.b4 p hp).2⟩⟩
theorem ClS.appL (h : ClS b w0 W BO N m) {H : Nat} {x : ByteArray × (Ex × Value)} (hx : LeB (fun q => BO < q /\ OffV m q) W x) (hown : w8.ownsRow (BO + 1) 61 7 (.slice (some ⟨g2, 0, none⟩) (m.le.length + 1) cap2) (m.le.length + 1) (m.le.flatMap leC ++ leC x)) (hg : W.grownBy w8 (Value.slice m.la m.le.length m.lc).ownBlock) (hat : (Value.slice m.la m.le.length m.lc).ownBlock = some g2 \/ g2 = H) (hH : W.heap.size <= H) (r : Rel w8 w9) :
  ClS b w0 (w9.setCell ⟨BO, 5, none⟩ (.slice (some ⟨g2, 0, none⟩) (m.le.length + 1) cap2)) BO (N + 1) { m with le := m.le ++ [x], la := some ⟨g2, 0, none⟩, lc := cap2 } := by
 have h1 := h.hb;have h2 := h.lt;have hrow : ∀ q, (Value.slice m.la m.le.length m.lc).ownBlock = some q -> BO + 1 <= q := fun q hq => (h.l.lt q hq).1
 have ro8 : Ro b w0 w8 := Ro.grown h.ro hg (fun q hq => by have := hrow q hq; omega);have o8 : Blk w8 BO 48 (verC m) := h.o.grown hg (fun e => by have := hrow _ e.symm; omega)
 have TX : ∀ p, TxB (fun q => BO < q /\ OffV m q) W p -> TxB (fun q => BO < q /\ OffV { m with le := m.le ++ [x], la := some ⟨g2, 0, none⟩, lc := cap2 } q) (w9.setCell ⟨BO, 5, none⟩ (.slice (some ⟨g2, 0, none⟩) (m.le.length + 1) cap2)) p := fun p hp =>
  tx_app (a := 2) (by decide) rfl rfl (fun i hi hne => by rcases (show i = 0 \/ i = 1 \/ i = 2 \/ i = 3 \/ i = 4 by omega) with rfl | rfl | rfl | rfl | rfl <;> first | rfl | exact absurd rfl hne) hg hat hH r _ _ hp
 refine ⟨(ro8.trans (Ro.of r)).setNew (p := ⟨BO, 5, none⟩) h2 _, h1, h2, (by unfold verC; dsimp only; rw [List.length_append]; exact (o8.rel r).set 5 _), own_app h.c (h.ap 2 0 (by decide) (by decide) (by decide)) hg r (by omega) _ _, own_app h.s (h.ap 2 1 (by decide) (by decide) (by decide)) hg r (by omega) _ _, (by show World.ownsRow _ _ _ _ (.slice (some ⟨g2, 0, none⟩) (m.le ++ [x]).length cap2) (m.le ++ [x]).length _; rw [flat_snoc, List.length_append]; exact own_set (own_rel' hown r) (by omega) _ _), own_app h.g (h.ap 2 3 (by decide) (by decide) (by decide)) hg r (by omega) _ _, own_app h.r (h.ap 2 4 (by decide) (by decide) (by decide)) hg r (by omega) _ _,
  apt_set (a := 2) h.ap (fun i hi hne => by rcases (show i = 0 \/ i = 1 \/ i = 2 \/ i = 3 \/ i = 4 by omega) with rfl | rfl | rfl | rfl | rfl <;> first | rfl | exact absurd rfl hne) (fun j hj hne => apart_new (h.ap 2 j (by decide) hj (fun e => hne e.symm)) hat (fun b hb => Nat.lt_of_lt_of_le (h.adr_lt j b hb).2 hH)),
  by have := h.n; simp only [List.length_append, List.length_cons, List.length_nil]; omega, h.i0, h.i1, h.i2, h.b0, h.b1, fun p hp => (by rcases List.mem_append.1 hp with h1 | h1; exact ⟨(h.b2 p h1).1, TX _ (h.b2 p h1).2⟩; simp at h1; subst h1; exact ⟨hx.1, TX _ hx.2⟩), fun p hp => ⟨(h.b3 p hp).1, TX _ (h.b3 p hp).2.1, TX _ (h.b3 p hp).2.2⟩, fun p hp => ⟨(h.b4 p hp).1, TX _ (h.b4 p hp).2⟩⟩
theorem ClS.appG (h : ClS b w0 W BO N m) {H : Nat} {x : Int × (Ex × Value) × (Ex × Value)} (hx : GrB (fun q => BO < q /\ OffV m q) W x) (hown : w8.ownsRow (BO + 1) 64 13 (.slice (some ⟨g2, 0, none⟩) (m.gr.length + 1) cap2) (m.gr.length + 1) (m.gr.flatMap grC ++ grC x)) (hg : W.grownBy w8 (Value.slice m.ga m.gr.length m.gc).ownBlock) (hat : (Value.slice m.ga m.gr.length m.gc).ownBlock = some g2 \/ g2 = H) (hH : W.heap.size <= H) (r : Rel w8 w9) :
  ClS b w0 (w9.setCell ⟨BO, 6, none⟩ (.slice (some ⟨g2, 0, none⟩) (m.gr.length + 1) cap2)) BO (N + 1) { m with gr := m.gr ++ [x], ga := some ⟨g2, 0, none⟩, gc := cap2 } := by
 have h1 := h.hb;have h2 := h.lt;have hrow : ∀ q, (Value.slice m.ga m.gr.length m.gc).ownBlock = some q -> BO + 1 <= q := fun q hq => (h.g.lt q hq).1
 have ro8 : Ro b w0 w8 := Ro.grown h.ro hg (fun q hq => by have := hrow q hq; omega);have o8 : Blk w8 BO 48 (verC m) := h.o.grown hg (fun e => by have := hrow _ e.symm; omega)
 have TX : ∀ p, TxB (fun q => BO < q /\ OffV m q) W p -> TxB (fun q => BO < q /\ OffV { m with gr := m.gr ++ [x], ga := some ⟨g2, 0, none⟩, gc := cap2 } q) (w9.setCell ⟨BO, 6, none⟩ (.slice (some ⟨g2, 0, none⟩) (m.gr.length + 1) cap2)) p := fun p hp =>
  tx_app (a := 3) (by decide) rfl rfl (fun i hi hne => by rcases (show i = 0 \/ i = 1 \/ i = 2 \/ i = 3 \/ i = 4 by omega) with rfl | rfl | rfl | rfl | rfl <;> first | rfl | exact absurd rfl hne) hg hat hH r _ _ hp
 refine ⟨(ro8.trans (Ro.of r)).setNew (p := ⟨BO, 6, none⟩) h2 _, h1, h2, (by unfold verC; dsimp only; rw [List.length_append]; exact (o8.rel r).set 6 _), own_app h.c (h.ap 3 0 (by decide) (by decide) (by decide)) hg r (by omega) _ _, own_app h.s (h.ap 3 1 (by decide) (by decide) (by decide)) hg r (by omega) _ _, own_app h.l (h.ap 3 2 (by decide) (by decide) (by decide)) hg r (by omega) _ _, (by show World.ownsRow _ _ _ _ (.slice (some ⟨g2, 0, none⟩) (m.gr ++ [x]).length cap2) (m.gr ++ [x]).length _; rw [flat_snoc, List.length_append]; exact own_set (own_rel' hown r) (by omega) _ _), own_app h.r (h.ap 3 4 (by decide) (by decide) (by decide)) hg r (by omega) _ _,
  apt_set (a := 3) h.ap (fun i hi hne => by rcases (show i = 0 \/ i = 1 \/ i = 2 \/ i = 3 \/ i = 4 by omega) with rfl | rfl | rfl | rfl | rfl <;> first | rfl | exact absurd rfl hne) (fun j hj hne => apart_new (h.ap 3 j (by decide) hj (fun e => hne e.symm)) hat (fun b hb => Nat.lt_of_lt_of_le (h.adr_lt j b hb).2 hH)),
  by have := h.n; simp only [List.length_append, List.length_cons, List.length_nil]; omega, h.i0, h.i1, h.i2, h.b0, h.b1, fun p hp => ⟨(h.b2 p hp).1, TX _ (h.b2 p hp).2⟩, fun p hp => (by rcases List.mem_append.1 hp with h1 | h1; exact ⟨(h.b3 p h1).1, TX _ (h.b3 p h1).2.1, TX _ (h.b3 p h1).2.2⟩; simp at h1; subst h1; exact ⟨hx.1, TX _ hx.2.1, TX _ hx.2.2⟩), fun p hp => ⟨(h.b4 p hp).1, TX _ (h.b4 p hp).2⟩⟩
theorem ClS.appR (h : ClS b w0 W BO N m) {H : Nat} {x : Int × (Ex × Value)} (hx : ReB (fun q => BO < q /\ OffV m q) W x) (hown : w8.ownsRow (BO + 1) 66 7 (.slice (some ⟨g2, 0, none⟩) (m.re.length + 1) cap2) (m.re.length + 1) (m.re.flatMap reC ++ reC x)) (hg : W.grownBy w8 (Value.slice m.ra m.re.length m.rc).ownBlock) (hat : (Value.slice m.ra m.re.length m.rc).ownBlock = some g2 \/ g2 = H) (hH : W.heap.size <= H) (r : Rel w8 w9) :
  ClS b w0 (w9.setCell ⟨BO, 7, none⟩ (.slice (some ⟨g2, 0, none⟩) (m.re.length + 1) cap2)) BO (N + 1) { m with re := m.re ++ [x], ra := some ⟨g2, 0, none⟩, rc := cap2 } := by
 have h1 := h.hb;have h2 := h.lt;have hrow : ∀ q, (Value.slice m.ra m.re.length m.rc).ownBlock = some q -> BO + 1 <= q := fun q hq => (h.r.lt q hq).1
 have ro8 : Ro b w0 w8 := Ro.grown h.ro hg (fun q hq => by have := hrow q hq; omega);have o8 : Blk w8 BO 48 (verC m) := h.o.grown hg (fun e => by have := hrow _ e.symm; omega)
 have TX : ∀ p, TxB (fun q => BO < q /\ OffV m q) W p -> TxB (fun q => BO < q /\ OffV { m with re := m.re ++ [x], ra := some ⟨g2, 0, none⟩, rc := cap2 } q) (w9.setCell ⟨BO, 7, none⟩ (.slice (some ⟨g2, 0, none⟩) (m.re.length + 1) cap2)) p := fun p hp =>
  tx_app (a := 4) (by decide) rfl rfl (fun i hi hne => by rcases (show i = 0 \/ i = 1 \/ i = 2 \/ i = 3 \/ i = 4 by omega) with rfl | rfl | rfl | rfl | rfl <;> first | rfl | exact absurd rfl hne) hg hat hH r _ _ hp
 refine ⟨(ro8.trans (Ro.of r)).setNew (p := ⟨BO, 7, none⟩) h2 _, h1, h2, (by unfold verC; dsimp only; rw [List.length_append]; exact (o8.rel r).set 7 _), own_app h.c (h.ap 4 0 (by decide) (by decide) (by decide)) hg r (by omega) _ _, own_app h.s (h.ap 4 1 (by decide) (by decide) (by decide)) hg r (by omega) _ _, own_app h.l (h.ap 4 2 (by decide) (by decide) (by decide)) hg r (by omega) _ _, own_app h.g (h.ap 4 3 (by decide) (by decide) (by decide)) hg r (by omega) _ _, (by show World.ownsRow _ _ _ _ (.slice (some ⟨g2, 0, none⟩) (m.re ++ [x]).length cap2) (m.re ++ [x]).length _; rw [flat_snoc, List.length_append]; exact own_set (own_rel' hown r) (by omega) _ _),
  apt_set (a := 4) h.ap (fun i hi hne => by rcases (show i = 0 \/ i = 1 \/ i = 2 \/ i = 3 \/ i = 4 by omega) with rfl | rfl | rfl | rfl | rfl <;> first | rfl | exact absurd rfl hne) (fun j hj hne => apart_new (h.ap 4 j (by decide) hj (fun e => hne e.symm)) hat (fun b hb => Nat.lt_of_lt_of_le (h.adr_lt j b hb).2 hH)),
  by have := h.n; simp only [List.length_append, List.length_cons, List.length_nil]; omega, h.i0, h.i1, h.i2, h.b0, h.b1, fun p hp => ⟨(h.b2 p hp).1, TX _ (h.b2 p hp).2⟩, fun p hp => ⟨(h.b3 p hp).1, TX _ (h.b3 p hp).2.1, TX _ (h.b3 p hp).2.2⟩, fun p hp => (by rcases List.mem_append.1 hp with h1 | h1; exact ⟨(h.b4 p h1).1, TX _ (h.b4 p h1).2⟩; simp at h1; subst h1; exact ⟨hx.1, TX _ hx.2⟩)⟩
end
end Go.Proofs.YthmlhheceihcbaaGreatDoor

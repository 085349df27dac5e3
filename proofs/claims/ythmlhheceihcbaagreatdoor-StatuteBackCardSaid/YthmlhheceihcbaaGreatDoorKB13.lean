/- Lemmas, each as it is printed; no conditions but those printed. -/
import Derived.Test.YthmlhheceihcbaaGreatDoorKB12
import Derived.Deep.AppendLies
import Derived.Laws.OwnMore
namespace Go.Proofs.YthmlhheceihcbaaGreatDoor
set_option maxHeartbeats 16000000
open Go.RowKit Cal Str Tok Frac Txt Tree Go.Proofs.Tryz
set_option linter.unusedVariables false
set_option linter.unusedSimpArgs false
def Blk (W : World) (B : Nat) (T : TypeId) (l : List Value) : Prop := W.heap[B]? = some (.cells l.toArray T (0, 0))
section
variable {W W' : World} {B b : Nat} {T : TypeId} {l : List Value}
theorem Blk.c (h : Blk W B T l) {j : Nat} {u : Value} (hu : l[j]? = some u) : W.cell? ⟨B, j, none⟩ = some u := by
 rw [cell_of_row W B j _ T (0, 0) h]; simpa using hu
theorem Blk.f (h : Blk W B T l) (j : Nat) : W.frozen? ⟨B, j, none⟩ = false := frozen_of_row W B j _ T h
theorem Blk.lt (h : Blk W B T l) : B < W.heap.size := (Array.getElem?_eq_some_iff.1 h).1
theorem Blk.new (W : World) (T : TypeId) (c : Array Value) : Blk (W.alloc (.cells c T)) W.heap.size T c.toList := by
 unfold Blk; rw [heap_alloc_new]
theorem Blk.set (h : Blk W B T l) (j : Nat) (u : Value) : Blk (W.setCell ⟨B, j, none⟩ u) B T (l.set j u) := by
 unfold Blk;rw [heap_setCell_same W B j l.toArray T u h];simp
theorem Blk.keep (h : Blk W B T l) (e : W'.heap[B]? = W.heap[B]?) : Blk W' B T l := e.trans h
theorem Blk.ro (h : Blk W B T l) (r : Ro b W W') (hn : B ≠ b) : Blk W' B T l := h.keep (r.block B h.lt hn)
theorem Blk.rel (h : Blk W B T l) (r : Rel W W') : Blk W' B T l := h.keep (Below.block r B h.lt)
theorem Blk.alloc (h : Blk W B T l) (o : Obj) : Blk (W.alloc o) B T l := h.rel ((Rel.refl _).alloc _)
theorem Blk.other (h : Blk W B T l) (hn : B ≠ b) (i : Nat) (u : Value) : Blk (W.setCell ⟨b, i, none⟩ u) B T l := h.keep (heap_setCell_other W _ B u hn)
theorem Blk.grown {row : Option Nat} (h : Blk W B T l) (g : W.grownBy W' row) (hn : some B ≠ row) : Blk W' B T l := h.keep (g.block B h.lt hn)
end
theorem Ro.grownBy {b : Nat} {w w' : World} (r : Ro b w w') : w.grownBy w' (some b) := ⟨r.os, r.tape, r.output, r.size, fun k hk hne => r.block k hk (by rintro rfl; exact hne rfl)⟩
theorem own_rox {w w' : World} {base d k b : Nat} {T : TypeId} {v : Value} {vs : List Value} (h : w.ownsRow base T d v k vs) (r : Ro b w w') (hb : b < base) : w'.ownsRow base T d v k vs :=
 h.kept r.grownBy (by
  cases hv : v.ownBlock with
  | none => exact .inl rfl
  | some g => right; have := (h.lt g hv).1; simp; omega)
theorem own_set {w : World} {base d k n cap b : Nat} {T : TypeId} {ad : Option Addr} {vs : List Value} (h : w.ownsRow base T d (.slice ad n cap) k vs) (hb : b < base) (i : Nat) (u : Value) : (w.setCell ⟨b, i, none⟩ u).ownsRow base T d (.slice ad n cap) k vs :=
 own_rox h ((Ro.refl b w).set i u) hb
theorem own_rel' {w w' : World} {base d k : Nat} {T : TypeId} {v : Value} {vs : List Value} (h : w.ownsRow base T d v k vs) (r : Rel w w') : w'.ownsRow base T d v k vs :=
 h.kept (row := none) ⟨Below.os r, Below.tape r, Below.output r, Below.size r, fun q hq _ => Below.block r q hq⟩ (by cases hv : v.ownBlock <;> simp)
theorem own_grown {w w' : World} {base d k : Nat} {T : TypeId} {v : Value} {vs : List Value} {row : Option Nat} (h : w.ownsRow base T d v k vs) (hg : w.grownBy w' row) (hn : ∀ g, v.ownBlock = some g -> row ≠ some g) : w'.ownsRow base T d v k vs :=
 h.kept hg (by
  cases hv : v.ownBlock with
  | none => exact .inl rfl
  | some g => right; exact fun e => hn g hv e.symm)
def Apart (x y : Option Addr) : Prop := ∀ a b, x = some a -> y = some b -> a.block ≠ b.block
theorem own_block {ad : Option Addr} {k c g : Nat} (h : (Value.slice ad k c).ownBlock = some g) : ∃ a, ad = some a /\ a.block = g := by
 cases ad with
 | none => cases h
 | some a => exact ⟨a, rfl, by simpa [Value.ownBlock] using h⟩
theorem offB_grown {w w' : World} {ra : Option Addr} {k rc q : Nat} (hg : w.grownBy w' (Value.slice ra k rc).ownBlock) (hq : q < w.heap.size) (ho : OffB ra q) : w'.heap[q]? = w.heap[q]? :=
 hg.block q hq (fun e => by
  obtain ⟨a, ha, e2⟩ := own_block e.symm
  exact ho a ha e2.symm)
theorem offB_next {ra : Option Addr} {k rc g H q : Nat} (hat : (Value.slice ra k rc).ownBlock = some g \/ g = H) (hq : q < H) (ho : OffB ra q) : OffB (some ⟨g, 0, none⟩) q := fun a ha => by
 cases ha
 rcases hat with e | rfl
 ·obtain ⟨a, ha, e2⟩ := own_block e;rw [<- e2]; exact ho a ha
 ·simp only []; omega
theorem offB_own {w : World} {base T d k rc n : Nat} {ra : Option Addr} {vs : List Value} (h : w.ownsRow base T d (.slice ra k rc) n vs) {q : Nat} (hq : w.heap.size <= q) : OffB ra q := fun a ha => by
 subst ha;have := (h.lt a.block (by simp [Value.ownBlock])).2;omega
theorem TxB.grown {base : Nat} {Z : Nat -> Prop} {ra : Option Addr} {k rc g H : Nat} {w w' : World} {p : Ex × Value} (h : TxB (fun q => (base <= q /\ Z q) /\ OffB ra q) w p) (hg : w.grownBy w' (Value.slice ra k rc).ownBlock) (hat : (Value.slice ra k rc).ownBlock = some g \/ g = H) (hH : w.heap.size <= H) : TxB (fun q => (base <= q /\ Z q) /\ OffB (some ⟨g, 0, none⟩) q) w' p :=
 h.keep hg.size (fun q hq hp => ⟨offB_grown hg hq hp.2, hp.1, offB_next hat (by omega) hp.2⟩)
theorem TxB.ro {P : Nat -> Prop} {b : Nat} {w w' : World} {p : Ex × Value} (h : TxB P w p) (r : Ro b w w') (hb : ∀ q, P q -> q ≠ b) : TxB P w' p := h.keep r.size (fun q hq hp => ⟨r.block q hq (hb q hp), hp⟩)
theorem TxB.rel {P : Nat -> Prop} {w w' : World} {p : Ex × Value} (h : TxB P w p) (r : Rel w w') : TxB P w' p := h.keep (Below.size r) (fun q hq hp => ⟨Below.block r q hq, hp⟩)
theorem TxB.up {n0 : Nat} {Q : Nat -> Prop} {w : World} {t : Ex} {x : Value} (h : ExKidsB (fun g => n0 <= g) t w x) (hz : t.size <= 60) (hb : ∀ q, n0 <= q -> q < w.heap.size -> Q q) : TxB Q w (t, x) :=
 ⟨kidsB_keep (Nat.le_refl _) (fun g hg hp => ⟨rfl, hb g hp hg⟩) h, by show t.size <= _; omega⟩
theorem TxB.lt {P Q : Nat -> Prop} {w : World} {p : Ex × Value} (h : TxB P w p) (hb : ∀ q, P q -> q < w.heap.size -> Q q) : TxB Q w p := h.keep (Nat.le_refl _) (fun g hg hp => ⟨rfl, hb g hp hg⟩)
theorem VerI.low {a b0 b1 b2 b3 b4 b5 : Nat} {w : World} {m : VerM} (h : VerI b0 b1 b2 b3 b4 b5 w m) (ha : a <= b0) : VerI a b1 b2 b3 b4 b5 w m :=
 { h with r0 := h.r0.mono (fun g hp => ⟨Nat.le_trans ha hp.1, hp.2⟩), o1 := Nat.le_trans ha h.o1 }
structure OfS (TV TO : TypeId) (w W : World) (BO : Nat) (raw zer l : List Value) : Prop where
 rel : Rel w W
 v : Blk W w.heap.size TV raw
 r : Blk W (w.heap.size + 1) TO zer
 o : Blk W BO TO l
 lt : w.heap.size + 2 <= BO
section
variable {TV TO T : TypeId} {w W0 W X Y Z : World} {BO d k n rc base : Nat} {raw zer l l' : List Value} {ra : Option Addr} {vs : List Value}
theorem OfS.go (h : OfS TV TO w W BO raw zer l) (r : Ro BO W X) (o : Blk X BO TO l') : OfS TV TO w X BO raw zer l' :=
 have lt := h.lt
 ⟨Ro.rel h.rel r (by omega), h.v.ro r (by omega), h.r.ro r (by omega), o, h.lt⟩
theorem OfS.on (h : OfS TV TO w W BO raw zer l) (r : Rel W X) : OfS TV TO w X BO raw zer l := h.go (Ro.of r) (h.o.rel r)
theorem OfS.put (h : OfS TV TO w W BO raw zer l) (i : Nat) (u : Value) : OfS TV TO w (W.setCell ⟨BO, i, none⟩ u) BO raw zer (l.set i u) := h.go ((Ro.refl BO W).set i u) (h.o.set i u)
theorem OfS.app (h : OfS TV TO w W BO raw zer l) (hO : W.ownsRow base T d (.slice ra k rc) n vs) (hb : BO < base) (r : Rel W Y) (hg : Y.grownBy Z (Value.slice ra k rc).ownBlock) : OfS TV TO w Z BO raw zer l := by
 have h2 := h.on r;have lt := h.lt;have hrow : ∀ q, (Value.slice ra k rc).ownBlock = some q -> base <= q := fun q hq => (hO.lt q hq).1
 have bs := h2.rel.size
 exact ⟨Below.grown h2.rel hg bs (fun q hq => by have := hrow q hq; have := h.o.lt; have := h.rel.size; omega),
  h2.v.grown hg (fun e => by have := hrow _ e.symm; omega), h2.r.grown hg (fun e => by have := hrow _ e.symm; omega), h2.o.grown hg (fun e => by have := hrow _ e.symm; omega), h.lt⟩
end
section
variable {b0 b1 b2 b3 b4 b5 g : Nat} {W W' : World} {m : VerM}
theorem RowB.at' {lo hi : Nat} {T : TypeId} {d n cap : Nat} {vs' : List Value} (h : W'.ownsRow lo T d (.slice (some ⟨g, 0, none⟩) n cap) n vs') (hg : g < hi) : RowB (fun q => lo <= q /\ q < hi) W' (some ⟨g, 0, none⟩) vs' := fun h0 => by
 obtain ⟨g2, off, e, h1, h2, h3⟩ := own_rowB h h0;have e2 := e;simp only [Option.some.injEq, Addr.mk.injEq] at e2;exact ⟨g2, off, e, h1, ⟨h2.1, by omega⟩, h3⟩
end
end Go.Proofs.YthmlhheceihcbaaGreatDoor
namespace Go.Proofs.YthmlhheceihcbaaGreatDoor
set_option maxHeartbeats 16000000
open Go.ChangeShapes Go.WideShapes Go.ChangeAt Go.RowKit Go.Deep
set_option linter.unusedVariables false
section
variable {H : Type} {enc : TypeId × Value -> H} {w : World} {base : Nat} {spare : Nat -> Bool} {held : Bool}
theorem open_rows {fuel : Nat} {cs : List Value} {x : DataW H × List MemPlace} (h : DataW.trod enc Tryz.prog w base spare held fuel 70 cs = some x) (hl : Light Tryz.prog 70 x.1) : ∃ (v : Value) (n : Nat), cs = [v] /\ RowsIn w v n := by
 have cells1 : Tryz.prog.cellsOf 69 = 1 := by kernel_rfl
 have bytes1 : Tryz.prog.bytesOf 69 = 24 := by kernel_rfl
 rcases open_slice1 Tryz.underlying70 cells1 h with ⟨rfl, rfl⟩ | ⟨a, len, cap, m, n, V, D, Pl, rfl, hb, hlc, hm, hmm, rfl, hi⟩
 ·exact ⟨_, 0, rfl, none, 0, rfl, by omega, fun h => by omega⟩
 ·have hlm : len <= m := by rw [hmm]; split <;> omega
  obtain ⟨hz, hd⟩ := light_slice hl Tryz.underlying70;rw [bytes1] at hz;simp only [List.length_map, List.length_range, reachBytes] at hz
  have key : ∀ i, i < len -> ∃ ni, w.cell? (a.add i) = some (V i) /\ IntsIn w (V i) ni := fun i hi' => by
   obtain ⟨hc, ht'⟩ := hi i (by omega);have hL := hd (D i) (List.mem_map_of_mem (List.mem_range.2 hi'));obtain ⟨vi, ni, e, hin⟩ := open_ints_in ht' hL;simp only [List.cons.injEq, and_true] at e;subst e;exact ⟨ni, hc, hin⟩
  refine ⟨_, len, rfl, some a, cap, rfl, by omega, fun h0 => ?_⟩;obtain ⟨n0, hc0, -⟩ := key 0 h0;obtain ⟨ha, hlt⟩ := plain_addr hc0;refine ⟨a.block, a.off, by rw [<- ha], hlt, fun i hi' => ?_⟩;obtain ⟨ni, hc, hin⟩ := key i hi';rw [ha, add_plain] at hc;exact ⟨V i, ni, hc, hin⟩
theorem raw_of {P : Nat -> Value -> Prop} (F : ∀ j (f : Field), (Tryz.prog.underlying 72).bind (fun u => match u with | .struct fs => fs[j]? | _ => none) = some f -> ∃ (v : Value) (y : DataW H × List MemPlace) (n : Nat), P j v /\ DataW.trod enc Tryz.prog w base spare held n f.type [v] = some y /\ Light Tryz.prog f.type y.1) :
  ∃ r : RawV, RawIn w r /\ ∀ j u, r.vals[j]? = some u -> P j u := by
 rw [Tryz.underlying72] at F;simp only [Option.bind_some] at F;obtain ⟨v0, y0, n0, p0, t0, -⟩ := F 0 _ rfl;obtain ⟨v1, y1, n1, p1, t1, -⟩ := F 1 _ rfl;obtain ⟨v2, y2, n2, p2, t2, -⟩ := F 2 _ rfl;obtain ⟨v3, y3, n3, p3, t3, l3⟩ := F 3 _ rfl;obtain ⟨v4, y4, n4, p4, t4, l4⟩ := F 4 _ rfl;obtain ⟨v5, y5, n5, p5, t5, l5⟩ := F 5 _ rfl;obtain ⟨v6, y6, n6, p6, t6, l6⟩ := F 6 _ rfl;obtain ⟨v7, y7, n7, p7, t7, l7⟩ := F 7 _ rfl;obtain ⟨v8, y8, n8, p8, t8, l8⟩ := F 8 _ rfl;obtain ⟨v9, y9, n9, p9, t9, -⟩ := F 9 _ rfl;obtain ⟨z0, e0, -, w0⟩ := DataW.trod_int Tryz.underlying3 t0;obtain ⟨z1, e1, -, w1⟩ := DataW.trod_int Tryz.underlying3 t1;obtain ⟨z2, e2, -, w2⟩ := DataW.trod_int Tryz.underlying3 t2;obtain ⟨z9, e9, -, w9⟩ := DataW.trod_int Tryz.underlying3 t9;obtain ⟨u3, k3, e3, i3⟩ := open_ints_in t3 l3;obtain ⟨u4, k4, e4, i4⟩ := open_ints_in t4 l4;obtain ⟨u5, k5, e5, i5⟩ := open_rows t5 l5;obtain ⟨u6, k6, e6, i6⟩ := open_rows t6 l6;obtain ⟨u7, k7, e7, i7⟩ := open_rows t7 l7;obtain ⟨u8, k8, e8, i8⟩ := open_rows t8 l8;simp only [List.cons.injEq, and_true] at e0 e1 e2 e3 e4 e5 e6 e7 e8 e9;subst e0 e1 e2 e3 e4 e5 e6 e7 e8 e9;refine ⟨⟨z0, z1, z2, z9, v3, v4, v5, v6, v7, v8, k3, k4, k5, k6, k7, k8⟩, ⟨bounds_i64 w0, bounds_i64 w1, bounds_i64 w2, bounds_i64 w9, i3, i4, i5, i6, i7, i8⟩, fun j u h => ?_⟩;have hj : j < 10 := by simpa [RawV.vals] using (List.getElem?_eq_some_iff.1 h).1
 rcases (show j = 0 \/ j = 1 \/ j = 2 \/ j = 3 \/ j = 4 \/ j = 5 \/ j = 6 \/ j = 7 \/ j = 8 \/ j = 9 by omega) with rfl | rfl | rfl | rfl | rfl | rfl | rfl | rfl | rfl | rfl <;> (simp [RawV.vals] at h; subst h; assumption)
end
section
variable {H : Type} {enc : TypeId × Value -> H} {w : World} {base : Nat} {spare : Nat -> Bool} {held : Bool}
theorem open_raws {fuel : Nat} {cs : List Value} {x : DataW H × List MemPlace} (h : DataW.trod enc Tryz.prog w base spare held fuel 22 cs = some x) (hl : Light Tryz.prog 22 x.1) : ∃ (v : Value) (n : Nat) (rs : Nat -> RawV), cs = [v] /\ RawsIn w v n rs := by
 rcases slice_fields Tryz.underlying22 Tryz.underlying72 (by kernel_rfl) (by kernel_rfl) h with ⟨rfl, rfl⟩ | ⟨a, len, cap, m, D, Pl, rfl, hb, hlc, hcm, hm, rfl, hi⟩
 ·exact ⟨_, 0, fun _ => ⟨0, 0, 0, 0, .bool false, .bool false, .bool false, .bool false, .bool false, .bool false, 0, 0, 0, 0, 0, 0⟩, rfl, none, 0, rfl, by omega, fun h => by omega⟩
 ·have hlm : len <= m := by rw [hm]; split <;> omega
  obtain ⟨hz, hd⟩ := light_slice hl Tryz.underlying22;have hby : Tryz.prog.bytesOf 72 = 176 := by kernel_rfl
  rw [hby] at hz;simp only [List.length_map, List.length_range, reachBytes] at hz
  have key : ∀ i, ∃ r : RawV, i < len -> RawIn w r /\ ∀ j u, r.vals[j]? = some u -> w.cell? (a.add (i * 10 + j)) = some u := by
   intro i;by_cases hlt : i < len
   ·obtain ⟨ys, n, hD, -, -, hf⟩ := hi i (by omega);have hL := hd (D i) (List.mem_map_of_mem (List.mem_range.2 hlt));rw [hD] at hL
    obtain ⟨r, hr, hv⟩ := raw_of (P := fun j v => w.cell? (a.add (i * 10 + j)) = some v) (w := w) (enc := enc) (base := base) (spare := spare) (held := held) (fun j f hj => by
     rw [Tryz.underlying72] at hj;simp only [Option.bind_some] at hj;obtain ⟨v, y, hc, hy, ht⟩ := hf j f hj
     exact ⟨v, y, n, hc, ht, light_field hL Tryz.underlying72 hj (by rw [List.getElem?_map, hy]; rfl)⟩)
    exact ⟨r, fun _ => ⟨hr, hv⟩⟩
   ·exact ⟨⟨0, 0, 0, 0, .bool false, .bool false, .bool false, .bool false, .bool false, .bool false, 0, 0, 0, 0, 0, 0⟩, fun h => absurd h hlt⟩
  obtain ⟨f, hf⟩ := Classical.axiomOfChoice key;refine ⟨_, len, f, rfl, some a, cap, rfl, by omega, fun h0 => ?_⟩;obtain ⟨ha, hlt⟩ := plain_addr (show w.cell? (a.add 0) = _ from (hf 0 h0).2 0 _ rfl);refine ⟨a.block, a.off, by rw [<- ha], hlt, fun i hi => ⟨(hf i hi).1, fun j u hu => ?_⟩⟩;have hc := (hf i hi).2 j u hu;rw [ha, add_plain] at hc;rw [Nat.add_assoc]; exact hc
end
end Go.Proofs.YthmlhheceihcbaaGreatDoor

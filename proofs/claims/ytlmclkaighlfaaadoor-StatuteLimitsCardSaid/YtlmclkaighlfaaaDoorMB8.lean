/- Bundle of texts: each says at its head what it proves; no conditions but those printed. -/
import Derived.Test.YtlmclkaighlfaaaDoorMB7
import Derived.Test.YtlmclkaighlfaaaDoorMB5
import Derived.Test.YtlmclkaighlfaaaDoorMB1
import Derived.Deep.AppendLies
import Derived.Test.YtlmclkaighlfaaaDoorMB0
namespace Go.Proofs.YtlmclkaighlfaaaDoor
set_option maxHeartbeats 16000000
open Go.RowKit Cal Str Tok Frac Txt Tree
attribute [local go_sem] calmUpon
set_option linter.unusedVariables false
set_option linter.unusedSimpArgs false
structure Ro (b : Nat) (w w' : World) : Prop where
 os : w'.os = w.os
 tape : w'.tape = w.tape
 output : w'.output = w.output
 size : w.heap.size ≤ w'.heap.size
 block : ∀ k, k < w.heap.size → k ≠ b → w'.heap[k]? = w.heap[k]?
theorem Ro.of {b : Nat} {w w' : World} (r : Rel w w') : Ro b w w' := ⟨Below.os r, Below.tape r, Below.output r, Below.size r, fun k hk _ => Below.block r k hk⟩
theorem Ro.refl (b : Nat) (w : World) : Ro b w w := Ro.of (Rel.refl w)
theorem Ro.trans {b : Nat} {x y z : World} (h : Ro b x y) (k : Ro b y z) : Ro b x z :=
 ⟨k.os.trans h.os, k.tape.trans h.tape, k.output.trans h.output, Nat.le_trans h.size k.size, fun i hi hb => (k.block i (Nat.lt_of_lt_of_le hi h.size) hb).trans (h.block i hi hb)⟩
theorem Ro.alloc {b : Nat} {x y : World} (h : Ro b x y) (o : Obj) : Ro b x (y.alloc o) := h.trans (Ro.of ((Rel.refl _).alloc _))
theorem Ro.set {b : Nat} {x y : World} (h : Ro b x y) (i : Nat) (u : Value) : Ro b x (y.setCell ⟨b, i, none⟩ u) :=
 h.trans ⟨rfl, rfl, rfl, by simp [World.setCell], fun k _ hb => Below.heap_setCell _ _ _ _ (fun e => hb e)⟩
theorem Ro.setNew {b : Nat} {x y : World} (h : Ro b x y) {p : Addr} (hp : x.heap.size ≤ p.block) (u : Value) : Ro b x (y.setCell p u) :=
 ⟨h.os, h.tape, h.output, by simpa [World.setCell] using h.size, fun k hk hb => (Below.heap_setCell _ _ _ _ (by omega)).trans (h.block k hk hb)⟩
theorem Ro.cell {b : Nat} {w w' : World} (h : Ro b w w') {g i : Nat} (hg : g < w.heap.size) (hb : g ≠ b) {v : Value} (hc : w.cell? ⟨g, i, none⟩ = some v) : w'.cell? ⟨g, i, none⟩ = some v :=
 (World.cell?_of_block (w := w) (h.block g hg hb)).trans hc
theorem Ro.rel {b : Nat} {w w1 w' : World} (r : Rel w w1) (h : Ro b w1 w') (hb : w.heap.size ≤ b) : Rel w w' :=
 ⟨h.os.trans (Below.os r), h.tape.trans (Below.tape r), h.output.trans (Below.output r), Nat.le_trans (Below.size r) h.size, fun k hk => (h.block k (Nat.lt_of_lt_of_le hk (Below.size r)) (by omega)).trans (Below.block r k hk)⟩
structure Nums (w : World) (b : Nat) (la : Option Addr) (ln : Nat) : Prop where
 le : ln ≤ 17592186044416
 at' : 0 < ln → ∃ (g off : Nat) (zs : Nat → Int), la = some ⟨g, off, none⟩ ∧ g < w.heap.size ∧ g ≠ b ∧ ∀ j, j < ln → w.cell? ⟨g, off + j, none⟩ = some (.int .i64 (zs j)) ∧ -9223372036854775808 ≤ zs j ∧ zs j ≤ 9223372036854775807
theorem Nums.ro {w w' : World} {b : Nat} {la : Option Addr} {ln : Nat} (h : Nums w b la ln) (r : Ro b w w') : Nums w' b la ln := ⟨h.le, fun h0 => by
 obtain ⟨g, off, zs, e, hg, hb, hc⟩ := h.at' h0
 exact ⟨g, off, zs, e, Nat.lt_of_lt_of_le hg r.size, hb, fun j hj => ⟨r.cell hg hb (hc j hj).1, (hc j hj).2⟩⟩⟩
structure Src (w : World) (b : Nat) (la : Option Addr) (ln lc : Nat) (at' left : Int) : Prop where
 lt : b < w.heap.size
 c0 : w.cell? ⟨b, 0, none⟩ = some (.slice la ln lc)
 c1 : w.cell? ⟨b, 1, none⟩ = some (.int .i64 at')
 c2 : w.cell? ⟨b, 2, none⟩ = some (.int .i64 left)
 f1 : w.frozen? ⟨b, 1, none⟩ = false
 f2 : w.frozen? ⟨b, 2, none⟩ = false
 nums : Nums w b la ln
 at0 : 0 ≤ at'
 l0 : -9223372036854775808 ≤ left
 l1 : left ≤ 9223372036854775807
theorem Src.rel {w w' : World} {b : Nat} {la : Option Addr} {ln lc : Nat} {at' left : Int} (h : Src w b la ln lc at' left) (r : Rel w w') : Src w' b la ln lc at' left :=
 ⟨Nat.lt_of_lt_of_le h.lt r.size, r.cell h.c0, r.cell h.c1, r.cell h.c2, ((rcell r).2 b 1 h.lt).trans h.f1, ((rcell r).2 b 2 h.lt).trans h.f2, h.nums.ro (Ro.of r), h.at0, h.l0, h.l1⟩
theorem Src.other {w : World} {b : Nat} {la : Option Addr} {ln lc : Nat} {at' left : Int} (h : Src w b la ln lc at' left) {g i : Nat} {v : Value} (hne : g ≠ b) (hn : Nums (w.setCell ⟨g, i, none⟩ v) b la ln) : Src (w.setCell ⟨g, i, none⟩ v) b la ln lc at' left :=
 ⟨by simpa [World.setCell] using h.lt, by rw [World.cell?_setCell_other _ _ _ _ (fun e => hne (by injection e))]; exact h.c0, by rw [World.cell?_setCell_other _ _ _ _ (fun e => hne (by injection e))]; exact h.c1, by rw [World.cell?_setCell_other _ _ _ _ (fun e => hne (by injection e))]; exact h.c2, by rw [World.frozen?_setCell]; exact h.f1, by rw [World.frozen?_setCell]; exact h.f2, hn, h.at0, h.l0, h.l1⟩
structure EnvB (w : World) (b : Nat) (k : Nat) (nm : Nat → ByteArray) (dm : Nat → Int) (ad : Option Addr) : Prop where
 le : k ≤ 1000000000
 at' : 0 < k → ∃ g off, ad = some ⟨g, off, none⟩ ∧ g < w.heap.size ∧ g ≠ b ∧ ∀ i, i < k →
  w.cell? ⟨g, off + i * 2, none⟩ = some (.string (nm i)) ∧ w.cell? ⟨g, off + i * 2 + 1, none⟩ = some (.int .i64 (dm i)) ∧ (nm i).size ≤ 140737488355328 ∧ -9223372036854775808 ≤ dm i ∧ dm i ≤ 9223372036854775807
theorem EnvB.ro {w w' : World} {b k : Nat} {nm : Nat → ByteArray} {dm : Nat → Int} {ad : Option Addr} (h : EnvB w b k nm dm ad) (r : Ro b w w') : EnvB w' b k nm dm ad := ⟨h.le, fun h0 => by
 obtain ⟨g, off, e, hg, hb, hc⟩ := h.at' h0
 exact ⟨g, off, e, Nat.lt_of_lt_of_le hg r.size, hb, fun i hi => ⟨r.cell hg hb (hc i hi).1, r.cell hg hb (hc i hi).2.1, (hc i hi).2.2⟩⟩⟩
theorem put6 {w0 W : World} {b : Nat} {la : Option Addr} {ln lc : Nat} {at' left : Int} (h : Src W b la ln lc at' left) (hn : Nums w0 b la ln) (r : Ro b w0 W) {g : Nat} (hg : w0.heap.size ≤ g) (hne : g ≠ b) (v0 v1 v2 v3 v4 v5 : Value) :
  Src ((((((W.setCell ⟨g, 0, none⟩ v0).setCell ⟨g, 1, none⟩ v1).setCell ⟨g, 2, none⟩ v2).setCell ⟨g, 3, none⟩ v3).setCell ⟨g, 4, none⟩ v4).setCell ⟨g, 5, none⟩ v5) b la ln lc at' left ∧ Ro b w0 ((((((W.setCell ⟨g, 0, none⟩ v0).setCell ⟨g, 1, none⟩ v1).setCell ⟨g, 2, none⟩ v2).setCell ⟨g, 3, none⟩ v3).setCell ⟨g, 4, none⟩ v4).setCell ⟨g, 5, none⟩ v5) := by
 have r0 := r.setNew (p := ⟨g, 0, none⟩) hg v0;have r1 := r0.setNew (p := ⟨g, 1, none⟩) hg v1;have r2 := r1.setNew (p := ⟨g, 2, none⟩) hg v2;have r3 := r2.setNew (p := ⟨g, 3, none⟩) hg v3;have r4 := r3.setNew (p := ⟨g, 4, none⟩) hg v4;have r5 := r4.setNew (p := ⟨g, 5, none⟩) hg v5;exact ⟨(((((h.other hne (hn.ro r0)).other hne (hn.ro r1)).other hne (hn.ro r2)).other hne (hn.ro r3)).other hne (hn.ro r4)).other hne (hn.ro r5), r5⟩
end Go.Proofs.YtlmclkaighlfaaaDoor
namespace Go.Proofs.YtlmclkaighlfaaaDoor
set_option maxHeartbeats 16000000
open Go.RowKit Cal Str Tok Frac Txt Tree
set_option linter.unusedVariables false
set_option linter.unusedSimpArgs false
def ExKidsB (P : Nat → Prop) : Ex → World → Value → Prop
 | .no, _, _ => False
 | .mk op a b d s n kid, w, x => I64s op a b d s ∧ n ≤ 17592186044416 ∧ ∃ (ad : Option Addr) (cap : Nat), x = .slice ad n cap ∧ (0 < n → ∃ g off, ad = some ⟨g, off, none⟩ ∧ g < w.heap.size ∧ P g ∧ ∀ i, i < n → ∃ xi, Six w g (off + i * 6) (kid i).op (kid i).va (kid i).vb (kid i).dm (kid i).nm xi ∧ ExKidsB P (kid i) w xi)
theorem kidsB_to {P : Nat → Prop} {t : Ex} : ∀ {w : World} {x : Value}, ExKidsB P t w x → ExKids t w x := by
 induction t with
 | no => intro w x h; exact h.elim
 | mk op a b d s n kid ih =>
  intro w x h;obtain ⟨h1, h2, ad, cap, rfl, hk⟩ := h;refine ⟨h1, h2, ad, cap, rfl, fun h0 => ?_⟩;obtain ⟨g, off, rfl, hg, -, hc⟩ := hk h0;refine ⟨g, off, rfl, hg, fun i hi => ?_⟩;obtain ⟨xi, hs, hx⟩ := hc i hi;exact ⟨xi, hs, ih i hx⟩
theorem kidsB_keep {P Q : Nat → Prop} {w w' : World} (hs : w.heap.size ≤ w'.heap.size) (hb : ∀ g, g < w.heap.size → P g → w'.heap[g]? = w.heap[g]? ∧ Q g) {t : Ex} : ∀ {x : Value}, ExKidsB P t w x → ExKidsB Q t w' x := by
 induction t with
 | no => intro x h; exact h.elim
 | mk op a b d s n kid ih =>
  intro x h;obtain ⟨h1, h2, ad, cap, rfl, hk⟩ := h;refine ⟨h1, h2, ad, cap, rfl, fun h0 => ?_⟩;obtain ⟨g, off, rfl, hg, hp, hc⟩ := hk h0;obtain ⟨e, hq⟩ := hb g hg hp;have E : ∀ o, w'.cell? ⟨g, o, none⟩ = w.cell? ⟨g, o, none⟩ := fun o => World.cell?_of_block e
  refine ⟨g, off, rfl, Nat.lt_of_lt_of_le hg hs, hq, fun i hi => ?_⟩;obtain ⟨xi, h6, hx⟩ := hc i hi;exact ⟨xi, ⟨(E _).trans h6.c0, (E _).trans h6.c1, (E _).trans h6.c2, (E _).trans h6.c3, (E _).trans h6.c4, (E _).trans h6.c5⟩, ih i hx⟩
theorem Ro.grown {b : Nat} {w x y : World} {row : Option Nat} (h : Ro b w x) (g : x.grownBy y row) (hr : ∀ q, row = some q → w.heap.size ≤ q) : Ro b w y :=
 ⟨g.os.trans h.os, g.tape.trans h.tape, g.output.trans h.output, Nat.le_trans h.size g.size, fun k hk hb => (g.block k (Nat.lt_of_lt_of_le hk h.size) (fun e => by have := hr k e.symm; omega)).trans (h.block k hk hb)⟩
theorem Src.grown {w x y : World} {b : Nat} {la : Option Addr} {ln lc : Nat} {at' left : Int} {row : Option Nat} (h : Src x b la ln lc at' left) (hn : Nums w b la ln) (r : Ro b w y) (g : x.grownBy y row) (hr : some b ≠ row) : Src y b la ln lc at' left :=
 ⟨Nat.lt_of_lt_of_le h.lt g.size, (g.cell_far _ h.lt hr).trans h.c0, (g.cell_far _ h.lt hr).trans h.c1, (g.cell_far _ h.lt hr).trans h.c2, (g.frozen_far _ h.lt hr).trans h.f1, (g.frozen_far _ h.lt hr).trans h.f2, hn.ro r, h.at0, h.l0, h.l1⟩
/-! Boxes of six cells -/
structure BoxAt (w : World) (g : Nat) (v0 v1 v2 v3 v4 v5 : Value) : Prop where
 lt : g < w.heap.size
 c0 : w.cell? ⟨g, 0, none⟩ = some v0
 c1 : w.cell? ⟨g, 1, none⟩ = some v1
 c2 : w.cell? ⟨g, 2, none⟩ = some v2
 c3 : w.cell? ⟨g, 3, none⟩ = some v3
 c4 : w.cell? ⟨g, 4, none⟩ = some v4
 c5 : w.cell? ⟨g, 5, none⟩ = some v5
 f0 : w.frozen? ⟨g, 0, none⟩ = false
 f1 : w.frozen? ⟨g, 1, none⟩ = false
 f2 : w.frozen? ⟨g, 2, none⟩ = false
 f3 : w.frozen? ⟨g, 3, none⟩ = false
 f4 : w.frozen? ⟨g, 4, none⟩ = false
 f5 : w.frozen? ⟨g, 5, none⟩ = false
theorem BoxAt.keep {w w' : World} {g : Nat} {v0 v1 v2 v3 v4 v5 : Value} (h : BoxAt w g v0 v1 v2 v3 v4 v5) (hs : w.heap.size ≤ w'.heap.size) (e : w'.heap[g]? = w.heap[g]?) : BoxAt w' g v0 v1 v2 v3 v4 v5 :=
 have E : ∀ o, w'.cell? ⟨g, o, none⟩ = w.cell? ⟨g, o, none⟩ := fun o => World.cell?_of_block e
 have Z : ∀ o, w'.frozen? ⟨g, o, none⟩ = w.frozen? ⟨g, o, none⟩ := fun o => World.frozen?_of_block e
 ⟨Nat.lt_of_lt_of_le h.lt hs, (E _).trans h.c0, (E _).trans h.c1, (E _).trans h.c2, (E _).trans h.c3, (E _).trans h.c4, (E _).trans h.c5, (Z _).trans h.f0, (Z _).trans h.f1, (Z _).trans h.f2, (Z _).trans h.f3, (Z _).trans h.f4, (Z _).trans h.f5⟩
theorem BoxAt.new {w : World} {g : Nat} (hg : g = w.heap.size) (v0 v1 v2 v3 v4 v5 : Value) (T : TypeId) : BoxAt (w.alloc (.cells #[v0, v1, v2, v3, v4, v5] T)) g v0 v1 v2 v3 v4 v5 := by
 subst hg
 constructor <;> simp
theorem BoxAt.ro {w w' : World} {b g : Nat} {v0 v1 v2 v3 v4 v5 : Value} (h : BoxAt w g v0 v1 v2 v3 v4 v5) (r : Ro b w w') (hne : g ≠ b) : BoxAt w' g v0 v1 v2 v3 v4 v5 := h.keep r.size (r.block g h.lt hne)
theorem BoxAt.rel {w w' : World} {g : Nat} {v0 v1 v2 v3 v4 v5 : Value} (h : BoxAt w g v0 v1 v2 v3 v4 v5) (r : Rel w w') : BoxAt w' g v0 v1 v2 v3 v4 v5 := h.keep (Below.size r) (Below.block r g h.lt)
theorem BoxAt.grown {w w' : World} {g : Nat} {row : Option Nat} {v0 v1 v2 v3 v4 v5 : Value} (h : BoxAt w g v0 v1 v2 v3 v4 v5) (r : w.grownBy w' row) (hne : some g ≠ row) : BoxAt w' g v0 v1 v2 v3 v4 v5 := h.keep r.size (r.block g h.lt hne)
theorem BoxAt.other {w : World} {g p : Nat} {v0 v1 v2 v3 v4 v5 : Value} (h : BoxAt w g v0 v1 v2 v3 v4 v5) (hne : g ≠ p) (i : Nat) (u : Value) : BoxAt (w.setCell ⟨p, i, none⟩ u) g v0 v1 v2 v3 v4 v5 := h.keep (by simp [World.setCell]) (Below.heap_setCell _ _ _ _ hne)
theorem leaf_tree {P : Nat → Prop} {w : World} {op a b d : Int} {s : ByteArray} (h : I64s op a b d s) : ExKidsB P (.mk op a b d s 0 (fun _ => .no)) w (.slice none 0 0) := ⟨h, by omega, none, 0, rfl, fun h0 => by omega⟩
end Go.Proofs.YtlmclkaighlfaaaDoor

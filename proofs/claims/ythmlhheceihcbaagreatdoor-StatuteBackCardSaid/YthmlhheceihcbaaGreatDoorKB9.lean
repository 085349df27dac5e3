/- Lemmas, each as it is printed; no conditions but those printed. -/
import Derived.Deep.AppendLies
import Derived.Test.YthmlhheceihcbaaGreatDoorKB8
import Derived.WalkKit
import Derived.ProofKit
import Derived.OpenShut
import Derived.ShutString
import Derived.ChangeOld
import Derived.Below
import Derived.SizedLaws
import Derived.ChangeSlices
import Derived.Deep.Slices
import Derived.Deep.Fields
import Derived.ChangeSame
namespace Go.Proofs.YthmlhheceihcbaaGreatDoor
set_option maxHeartbeats 16000000
open Go.RowKit Cal Str Tok Frac Txt Tree Tryz
attribute [local go_sem] calmUpon
set_option linter.unusedVariables false
set_option linter.unusedSimpArgs false
structure Ro (b : Nat) (w w' : World) : Prop where
 os : w'.os = w.os
 tape : w'.tape = w.tape
 output : w'.output = w.output
 size : w.heap.size <= w'.heap.size
 block : ∀ k, k < w.heap.size -> k ≠ b -> w'.heap[k]? = w.heap[k]?
theorem Ro.of {b : Nat} {w w' : World} (r : Rel w w') : Ro b w w' := ⟨Below.os r, Below.tape r, Below.output r, Below.size r, fun k hk _ => Below.block r k hk⟩
theorem Ro.refl (b : Nat) (w : World) : Ro b w w := Ro.of (Rel.refl w)
theorem Ro.trans {b : Nat} {x y z : World} (h : Ro b x y) (k : Ro b y z) : Ro b x z :=
 ⟨k.os.trans h.os, k.tape.trans h.tape, k.output.trans h.output, Nat.le_trans h.size k.size, fun i hi hb => (k.block i (Nat.lt_of_lt_of_le hi h.size) hb).trans (h.block i hi hb)⟩
theorem Ro.alloc {b : Nat} {x y : World} (h : Ro b x y) (o : Obj) : Ro b x (y.alloc o) := h.trans (Ro.of ((Rel.refl _).alloc _))
theorem Ro.set {b : Nat} {x y : World} (h : Ro b x y) (i : Nat) (u : Value) : Ro b x (y.setCell ⟨b, i, none⟩ u) :=
 h.trans ⟨rfl, rfl, rfl, by simp [World.setCell], fun k _ hb => Below.heap_setCell _ _ _ _ (fun e => hb e)⟩
theorem Ro.setNew {b : Nat} {x y : World} (h : Ro b x y) {p : Addr} (hp : x.heap.size <= p.block) (u : Value) : Ro b x (y.setCell p u) :=
 ⟨h.os, h.tape, h.output, by simpa [World.setCell] using h.size, fun k hk hb => (Below.heap_setCell _ _ _ _ (by omega)).trans (h.block k hk hb)⟩
theorem Ro.cell {b : Nat} {w w' : World} (h : Ro b w w') {g i : Nat} (hg : g < w.heap.size) (hb : g ≠ b) {v : Value} (hc : w.cell? ⟨g, i, none⟩ = some v) : w'.cell? ⟨g, i, none⟩ = some v :=
 (World.cell?_of_block (w := w) (h.block g hg hb)).trans hc
theorem Ro.rel {b : Nat} {w w1 w' : World} (r : Rel w w1) (h : Ro b w1 w') (hb : w.heap.size <= b) : Rel w w' :=
 ⟨h.os.trans (Below.os r), h.tape.trans (Below.tape r), h.output.trans (Below.output r), Nat.le_trans (Below.size r) h.size, fun k hk => (h.block k (Nat.lt_of_lt_of_le hk (Below.size r)) (by omega)).trans (Below.block r k hk)⟩
structure Nums (w : World) (b : Nat) (la : Option Addr) (ln : Nat) : Prop where
 le : ln <= 17592186044416
 at' : 0 < ln -> ∃ (g off : Nat) (zs : Nat -> Int), la = some ⟨g, off, none⟩ /\ g < w.heap.size /\ g ≠ b /\ ∀ j, j < ln -> w.cell? ⟨g, off + j, none⟩ = some (.int .i64 (zs j)) /\ -9223372036854775808 <= zs j /\ zs j <= 9223372036854775807
theorem Nums.ro {w w' : World} {b : Nat} {la : Option Addr} {ln : Nat} (h : Nums w b la ln) (r : Ro b w w') : Nums w' b la ln := ⟨h.le, fun h0 => by
 obtain ⟨g, off, zs, e, hg, hb, hc⟩ := h.at' h0
 exact ⟨g, off, zs, e, Nat.lt_of_lt_of_le hg r.size, hb, fun j hj => ⟨r.cell hg hb (hc j hj).1, (hc j hj).2⟩⟩⟩
structure Src (w : World) (b : Nat) (la : Option Addr) (ln lc : Nat) (at' left : Int) : Prop where
 lt : b < w.heap.size
 c0 : w.cell? ⟨b, 0, none⟩ = some (.slice la ln lc)
 c1 : w.cell? ⟨b, 1, none⟩ = some (.int .i64 at')
 c2 : w.cell? ⟨b, 2, none⟩ = some (.int .i64 left)
 f1 : w.frozen? ⟨b, 1, none⟩ = false
 f2 : w.frozen? ⟨b, 2, none⟩ = false
 nums : Nums w b la ln
 at0 : 0 <= at'
 l0 : -9223372036854775808 <= left
 l1 : left <= 9223372036854775807
theorem Src.rel {w w' : World} {b : Nat} {la : Option Addr} {ln lc : Nat} {at' left : Int} (h : Src w b la ln lc at' left) (r : Rel w w') : Src w' b la ln lc at' left :=
 ⟨Nat.lt_of_lt_of_le h.lt r.size, r.cell h.c0, r.cell h.c1, r.cell h.c2, ((rcell r).2 b 1 h.lt).trans h.f1, ((rcell r).2 b 2 h.lt).trans h.f2, h.nums.ro (Ro.of r), h.at0, h.l0, h.l1⟩
theorem Src.setAt {w : World} {b : Nat} {la : Option Addr} {ln lc : Nat} {at' left : Int} (h : Src w b la ln lc at' left) (a : Int) (ha : 0 <= a) : Src (w.setCell ⟨b, 1, none⟩ (.int .i64 a)) b la ln lc a left :=
 ⟨by simpa [World.setCell] using h.lt, by rw [World.cell?_setCell_other _ _ _ _ (by simp)]; exact h.c0, World.cell?_setCell_same _ _ _ h.c1, by rw [World.cell?_setCell_other _ _ _ _ (by simp)]; exact h.c2, by rw [World.frozen?_setCell]; exact h.f1, by rw [World.frozen?_setCell]; exact h.f2, h.nums.ro ((Ro.refl b w).set 1 _), ha, h.l0, h.l1⟩
theorem Src.setLeft {w : World} {b : Nat} {la : Option Addr} {ln lc : Nat} {at' left : Int} (h : Src w b la ln lc at' left) (a : Int) (ha : -9223372036854775808 <= a) (ha' : a <= 9223372036854775807) : Src (w.setCell ⟨b, 2, none⟩ (.int .i64 a)) b la ln lc at' a :=
 ⟨by simpa [World.setCell] using h.lt, by rw [World.cell?_setCell_other _ _ _ _ (by simp)]; exact h.c0, by rw [World.cell?_setCell_other _ _ _ _ (by simp)]; exact h.c1, World.cell?_setCell_same _ _ _ h.c2, by rw [World.frozen?_setCell]; exact h.f1, by rw [World.frozen?_setCell]; exact h.f2, h.nums.ro ((Ro.refl b w).set 2 _), h.at0, ha, ha'⟩
theorem Src.other {w : World} {b : Nat} {la : Option Addr} {ln lc : Nat} {at' left : Int} (h : Src w b la ln lc at' left) {g i : Nat} {v : Value} (hne : g ≠ b) (hn : Nums (w.setCell ⟨g, i, none⟩ v) b la ln) : Src (w.setCell ⟨g, i, none⟩ v) b la ln lc at' left :=
 ⟨by simpa [World.setCell] using h.lt, by rw [World.cell?_setCell_other _ _ _ _ (fun e => hne (by injection e))]; exact h.c0, by rw [World.cell?_setCell_other _ _ _ _ (fun e => hne (by injection e))]; exact h.c1, by rw [World.cell?_setCell_other _ _ _ _ (fun e => hne (by injection e))]; exact h.c2, by rw [World.frozen?_setCell]; exact h.f1, by rw [World.frozen?_setCell]; exact h.f2, hn, h.at0, h.l0, h.l1⟩
def namTab : Array Value := #[.string ⟨#[97, 103, 101]⟩, .string ⟨#[121, 101, 97, 114]⟩, .string ⟨#[99, 104, 105, 108, 100, 114, 101, 110]⟩, .string ⟨#[105, 110, 115, 117, 114, 101, 100]⟩, .string ⟨#[119, 111, 114, 107, 101, 100]⟩, .string ⟨#[118, 111, 108, 117, 110, 116, 97, 114, 121]⟩, .string ⟨#[115, 101, 114, 118, 105, 99, 101]⟩, .string ⟨#[101, 113, 117, 97, 116, 101, 100]⟩, .string ⟨#[114, 97, 105, 115, 105, 110, 103]⟩, .string ⟨#[114, 101, 115, 105, 100, 101, 110, 116]⟩, .string ⟨#[98, 97, 115, 101]⟩]
def strL (l : List ByteArray) : List Value := l.map Value.string
theorem strL_snoc (l : List ByteArray) (s : ByteArray) : strL (l ++ [s]) = strL l ++ [.string s] := by unfold strL; simp
theorem Names_any (w : World) : Calls prog 176 #[] w fun e w' => e = .returned (.slice (some ⟨w.heap.size, 0, none⟩) 11 11) /\ w' = w.alloc (.cells namTab 9) := by
 go_enter func176, ntmps176;go_wp2;go_ret;exact ⟨rfl, rfl⟩
theorem own_up {w : World} {b b' : Nat} {e : TypeId} {size : Nat} {v : Value} {n : Nat} {xs : List Value} (h : w.ownsRow b e size v n xs) (hb : b' <= b) : w.ownsRow b' e size v n xs := by
 refine ⟨h.1, ?_⟩
 rcases h.2 with h2 | ⟨g, cap, cur, h3, h4, h5⟩
 ·exact .inl h2
 ·exact .inr ⟨g, cap, cur, h3, Nat.le_trans hb h4, h5⟩
structure EnvB (w : World) (b : Nat) (k : Nat) (nm : Nat -> ByteArray) (dm : Nat -> Int) (ad : Option Addr) : Prop where
 le : k <= 1000000000
 at' : 0 < k -> ∃ g off, ad = some ⟨g, off, none⟩ /\ g < w.heap.size /\ g ≠ b /\ ∀ i, i < k ->
  w.cell? ⟨g, off + i * 2, none⟩ = some (.string (nm i)) /\ w.cell? ⟨g, off + i * 2 + 1, none⟩ = some (.int .i64 (dm i)) /\ (nm i).size <= 140737488355328 /\ -9223372036854775808 <= dm i /\ dm i <= 9223372036854775807
theorem EnvB.ro {w w' : World} {b k : Nat} {nm : Nat -> ByteArray} {dm : Nat -> Int} {ad : Option Addr} (h : EnvB w b k nm dm ad) (r : Ro b w w') : EnvB w' b k nm dm ad := ⟨h.le, fun h0 => by
 obtain ⟨g, off, e, hg, hb, hc⟩ := h.at' h0
 exact ⟨g, off, e, Nat.lt_of_lt_of_le hg r.size, hb, fun i hi => ⟨r.cell hg hb (hc i hi).1, r.cell hg hb (hc i hi).2.1, (hc i hi).2.2⟩⟩⟩
end Go.Proofs.YthmlhheceihcbaaGreatDoor
namespace Go.Proofs.YthmlhheceihcbaaGreatDoor
set_option maxHeartbeats 16000000
open Go.RowKit Cal Str Tok Frac Txt Tree Tryz
set_option linter.unusedVariables false
set_option linter.unusedSimpArgs false
def ExKidsB (P : Nat -> Prop) : Ex -> World -> Value -> Prop
 | .no, _, _ => False
 | .mk op a b d s n kid, w, x => I64s op a b d s /\ n <= 17592186044416 /\ ∃ (ad : Option Addr) (cap : Nat), x = .slice ad n cap /\ (0 < n -> ∃ g off, ad = some ⟨g, off, none⟩ /\ g < w.heap.size /\ P g /\ ∀ i, i < n -> ∃ xi, Six w g (off + i * 6) (kid i).op (kid i).va (kid i).vb (kid i).dm (kid i).nm xi /\ ExKidsB P (kid i) w xi)
theorem kidsB_to {P : Nat -> Prop} {t : Ex} : ∀ {w : World} {x : Value}, ExKidsB P t w x -> ExKids t w x := by
 induction t with
 | no => intro w x h; exact h.elim
 | mk op a b d s n kid ih =>
  intro w x h;obtain ⟨h1, h2, ad, cap, rfl, hk⟩ := h;refine ⟨h1, h2, ad, cap, rfl, fun h0 => ?_⟩;obtain ⟨g, off, rfl, hg, -, hc⟩ := hk h0;refine ⟨g, off, rfl, hg, fun i hi => ?_⟩;obtain ⟨xi, hs, hx⟩ := hc i hi;exact ⟨xi, hs, ih i hx⟩
theorem kidsB_keep {P Q : Nat -> Prop} {w w' : World} (hs : w.heap.size <= w'.heap.size) (hb : ∀ g, g < w.heap.size -> P g -> w'.heap[g]? = w.heap[g]? /\ Q g) {t : Ex} : ∀ {x : Value}, ExKidsB P t w x -> ExKidsB Q t w' x := by
 induction t with
 | no => intro x h; exact h.elim
 | mk op a b d s n kid ih =>
  intro x h;obtain ⟨h1, h2, ad, cap, rfl, hk⟩ := h;refine ⟨h1, h2, ad, cap, rfl, fun h0 => ?_⟩;obtain ⟨g, off, rfl, hg, hp, hc⟩ := hk h0;obtain ⟨e, hq⟩ := hb g hg hp;have E : ∀ o, w'.cell? ⟨g, o, none⟩ = w.cell? ⟨g, o, none⟩ := fun o => World.cell?_of_block e
  refine ⟨g, off, rfl, Nat.lt_of_lt_of_le hg hs, hq, fun i hi => ?_⟩;obtain ⟨xi, h6, hx⟩ := hc i hi;exact ⟨xi, ⟨(E _).trans h6.c0, (E _).trans h6.c1, (E _).trans h6.c2, (E _).trans h6.c3, (E _).trans h6.c4, (E _).trans h6.c5⟩, ih i hx⟩
/-! Rows of trees -/
def cel (p : Ex × Value) : List Value := [.int .i64 p.1.op, .int .i64 p.1.va, .int .i64 p.1.vb, .int .i64 p.1.dm, .string p.1.nm, p.2]
def celL : List (Ex × Value) -> List Value
 | [] => []
 | p :: L => cel p ++ celL L
theorem celL_snoc (L : List (Ex × Value)) (p : Ex × Value) : celL (L ++ [p]) = celL L ++ cel p := by
 induction L with
 | nil => simp [celL]
 | cons q L ih => simp only [List.cons_append, celL, ih, List.append_assoc]
theorem cel_len (p : Ex × Value) : (cel p).length = 6 := rfl
theorem celL_at {p : Ex × Value} {j : Nat} (hj : j < 6) : ∀ {L : List (Ex × Value)} {i : Nat}, L[i]? = some p -> (celL L)[i * 6 + j]? = (cel p)[j]? := by
 intro L
 induction L with
 | nil => intro i h; simp at h
 | cons q L ih =>
  intro i h
  cases i with
  | zero =>
   simp at h; subst h;simp only [celL]
   rw [List.getElem?_append_left (by rw [cel_len]; omega)]; simp
  | succ i =>
   simp only [List.getElem?_cons_succ] at h;simp only [celL];rw [List.getElem?_append_right (by rw [cel_len]; omega), cel_len, show (i + 1) * 6 + j - 6 = i * 6 + j by omega];exact ih h
def kidL (L : List (Ex × Value)) (i : Nat) : Ex := ((L[i]?).map Prod.fst).getD .no
theorem kidL_at {L : List (Ex × Value)} {i : Nat} {p : Ex × Value} (h : L[i]? = some p) : kidL L i = p.1 := by unfold kidL; rw [h]; rfl
theorem row_kids {P : Nat -> Prop} {w : World} {g cap : Nat} {L : List (Ex × Value)} {op a b d : Int} {s : ByteArray} (h1 : I64s op a b d s) (hl : L.length <= 1000) (hr : ∀ j u, (celL L)[j]? = some u -> w.cell? ⟨g, j, none⟩ = some u) (hg : g < w.heap.size) (hP : P g)
  (hk : ∀ (i : Nat) (p : Ex × Value), L[i]? = some p -> ExKidsB P p.1 w p.2) : ExKidsB P (.mk op a b d s L.length (kidL L)) w (.slice (some ⟨g, 0, none⟩) L.length cap) := by
 refine ⟨h1, by omega, _, _, rfl, fun _ => ⟨g, 0, rfl, hg, hP, fun i hi => ?_⟩⟩;obtain ⟨p, hp⟩ : ∃ p, L[i]? = some p := ⟨_, List.getElem?_eq_getElem hi⟩;rw [kidL_at hp];have A : ∀ j u, j < 6 -> (cel p)[j]? = some u -> w.cell? ⟨g, 0 + i * 6 + j, none⟩ = some u := fun j u hj hu => hr _ _ (by rw [Nat.zero_add, celL_at hj hp]; exact hu)
 exact ⟨p.2, ⟨A 0 _ (by omega) rfl, A 1 _ (by omega) rfl, A 2 _ (by omega) rfl, A 3 _ (by omega) rfl, A 4 _ (by omega) rfl, A 5 _ (by omega) rfl⟩, hk i p hp⟩
theorem smK_mul {f : Nat -> Int} {B : Int} : ∀ {n : Nat}, (∀ i, i < n -> f i <= B) -> smK f n <= n * B := by
 intro n
 induction n with
 | zero => intro _; simp [smK]
 | succ n ih =>
  intro h;have h1 := ih (fun i hi => h i (by omega));have h2 := h n (by omega);have h3 : ((n + 1 : Nat) : Int) * B = (n : Int) * B + B := by rw [Int.natCast_add, Int.add_mul]; simp
  simp only [smK];omega
theorem Ro.grown {b : Nat} {w x y : World} {row : Option Nat} (h : Ro b w x) (g : x.grownBy y row) (hr : ∀ q, row = some q -> w.heap.size <= q) : Ro b w y :=
 ⟨g.os.trans h.os, g.tape.trans h.tape, g.output.trans h.output, Nat.le_trans h.size g.size, fun k hk hb => (g.block k (Nat.lt_of_lt_of_le hk h.size) (fun e => by have := hr k e.symm; omega)).trans (h.block k hk hb)⟩
theorem Src.grown {w x y : World} {b : Nat} {la : Option Addr} {ln lc : Nat} {at' left : Int} {row : Option Nat} (h : Src x b la ln lc at' left) (hn : Nums w b la ln) (r : Ro b w y) (g : x.grownBy y row) (hr : some b ≠ row) : Src y b la ln lc at' left :=
 ⟨Nat.lt_of_lt_of_le h.lt g.size, (g.cell_far _ h.lt hr).trans h.c0, (g.cell_far _ h.lt hr).trans h.c1, (g.cell_far _ h.lt hr).trans h.c2, (g.frozen_far _ h.lt hr).trans h.f1, (g.frozen_far _ h.lt hr).trans h.f2, hn.ro r, h.at0, h.l0, h.l1⟩
/-! Boxes of six cells -/
structure BoxAt (w : World) (g : Nat) (v0 v1 v2 v3 v4 v5 : Value) : Prop where
 lt : g < w.heap.size
 c0 : w.cell? ⟨g, 0, none⟩ = some v0
 c1 : w.cell? ⟨g, 1, none⟩ = some v1
 c2 : w.cell? ⟨g, 2, none⟩ = some v2
 c3 : w.cell? ⟨g, 3, none⟩ = some v3
 c4 : w.cell? ⟨g, 4, none⟩ = some v4
 c5 : w.cell? ⟨g, 5, none⟩ = some v5
 f0 : w.frozen? ⟨g, 0, none⟩ = false
 f1 : w.frozen? ⟨g, 1, none⟩ = false
 f2 : w.frozen? ⟨g, 2, none⟩ = false
 f3 : w.frozen? ⟨g, 3, none⟩ = false
 f4 : w.frozen? ⟨g, 4, none⟩ = false
 f5 : w.frozen? ⟨g, 5, none⟩ = false
theorem BoxAt.keep {w w' : World} {g : Nat} {v0 v1 v2 v3 v4 v5 : Value} (h : BoxAt w g v0 v1 v2 v3 v4 v5) (hs : w.heap.size <= w'.heap.size) (e : w'.heap[g]? = w.heap[g]?) : BoxAt w' g v0 v1 v2 v3 v4 v5 :=
 have E : ∀ o, w'.cell? ⟨g, o, none⟩ = w.cell? ⟨g, o, none⟩ := fun o => World.cell?_of_block e
 have Z : ∀ o, w'.frozen? ⟨g, o, none⟩ = w.frozen? ⟨g, o, none⟩ := fun o => World.frozen?_of_block e
 ⟨Nat.lt_of_lt_of_le h.lt hs, (E _).trans h.c0, (E _).trans h.c1, (E _).trans h.c2, (E _).trans h.c3, (E _).trans h.c4, (E _).trans h.c5, (Z _).trans h.f0, (Z _).trans h.f1, (Z _).trans h.f2, (Z _).trans h.f3, (Z _).trans h.f4, (Z _).trans h.f5⟩
theorem BoxAt.new {w : World} {g : Nat} (hg : g = w.heap.size) (v0 v1 v2 v3 v4 v5 : Value) (T : TypeId) : BoxAt (w.alloc (.cells #[v0, v1, v2, v3, v4, v5] T)) g v0 v1 v2 v3 v4 v5 := by
 subst hg
 constructor <;> simp
theorem BoxAt.ro {w w' : World} {b g : Nat} {v0 v1 v2 v3 v4 v5 : Value} (h : BoxAt w g v0 v1 v2 v3 v4 v5) (r : Ro b w w') (hne : g ≠ b) : BoxAt w' g v0 v1 v2 v3 v4 v5 := h.keep r.size (r.block g h.lt hne)
theorem BoxAt.rel {w w' : World} {g : Nat} {v0 v1 v2 v3 v4 v5 : Value} (h : BoxAt w g v0 v1 v2 v3 v4 v5) (r : Rel w w') : BoxAt w' g v0 v1 v2 v3 v4 v5 := h.keep (Below.size r) (Below.block r g h.lt)
theorem BoxAt.grown {w w' : World} {g : Nat} {row : Option Nat} {v0 v1 v2 v3 v4 v5 : Value} (h : BoxAt w g v0 v1 v2 v3 v4 v5) (r : w.grownBy w' row) (hne : some g ≠ row) : BoxAt w' g v0 v1 v2 v3 v4 v5 := h.keep r.size (r.block g h.lt hne)
theorem BoxAt.other {w : World} {g p : Nat} {v0 v1 v2 v3 v4 v5 : Value} (h : BoxAt w g v0 v1 v2 v3 v4 v5) (hne : g ≠ p) (i : Nat) (u : Value) : BoxAt (w.setCell ⟨p, i, none⟩ u) g v0 v1 v2 v3 v4 v5 := h.keep (by simp [World.setCell]) (Below.heap_setCell _ _ _ _ hne)
theorem leaf_tree {P : Nat -> Prop} {w : World} {op a b d : Int} {s : ByteArray} (h : I64s op a b d s) : ExKidsB P (.mk op a b d s 0 (fun _ => .no)) w (.slice none 0 0) := ⟨h, by omega, none, 0, rfl, fun h0 => by omega⟩
end Go.Proofs.YthmlhheceihcbaaGreatDoor
namespace Go.Proofs.YthmlhheceihcbaaGreatDoor
set_option maxHeartbeats 16000000
open Go.ChangeShapes Go.WideShapes Go.ChangeAt Go.RowKit Go.Deep
set_option linter.unusedVariables false
section
variable {H : Type} {enc : TypeId × Value -> H} {w : World} {base : Nat} {spare : Nat -> Bool} {held : Bool}
def Light (P : Program) (t : TypeId) (d : DataW H) : Prop := ∀ n ∈ d.weights P t, n <= reachBytes
theorem light_all {P : Program} {e : TypeId} {l : List (DataW H)} {d : DataW H} (hd : d ∈ l) {n : Nat} (hn : n ∈ d.weights P e) : n ∈ DataW.weightsAll P e l := by
 induction l with
 | nil => cases hd
 | cons x l ih =>
  simp only [DataW.weightsAll, List.mem_append]
  rcases List.mem_cons.1 hd with rfl | h
  ·exact .inl hn
  ·exact .inr (ih h)
theorem light_slice {P : Program} {t e : TypeId} {l r : List (DataW H)} (h : Light P t (.slice l r)) (hu : P.underlying t = some (.slice e)) : (l.length + r.length) * P.bytesOf e <= reachBytes /\ ∀ d ∈ l, Light P e d := by
 have hw : (DataW.slice l r).weights P t = (l.length + r.length) * P.bytesOf e :: (DataW.weightsAll P e l ++ DataW.weightsAll P e r) := by
  simp only [DataW.weights, hu]
 unfold Light at h;rw [hw] at h;exact ⟨h _ (List.mem_cons_self ..), fun d hd n hn => h n (List.mem_cons_of_mem _ (List.mem_append_left _ (light_all hd hn)))⟩
theorem light_field {P : Program} {t : TypeId} {fs : Array Field} {l : List (DataW H)} (h : Light P t (.agg l)) (hu : P.underlying t = some (.struct fs)) {j : Nat} {f : Field} {d : DataW H} (hf : fs[j]? = some f) (hd : l[j]? = some d) : Light P f.type d := by
 have hw : (DataW.agg l).weights P t = DataW.weightsEach P (fs.toList.map (·.type)) l := by
  simp only [DataW.weights, hu]
 unfold Light at h;rw [hw] at h;exact fun n hn => h n (DataW.weights_mem_each (j := j) (t := f.type) (by simp [hf]) hd n hn)
theorem light_each {P : Program} {ts : List TypeId} {ds : List (DataW H)} (h : (DataW.weightsEach P ts ds).all (· <= reachBytes) = true) {j : Nat} {t : TypeId} {d : DataW H} (ht : ts[j]? = some t) (hd : ds[j]? = some d) : Light P t d := fun n hn => by
 simpa using List.all_eq_true.1 h n (DataW.weights_mem_each ht hd n hn)
theorem slice_fields {P : Program} {t e : TypeId} {fs : Array Field} {fuel : Nat} {cs : List Value} {x : DataW H × List MemPlace} (ht : P.underlying t = some (.slice e)) (he : P.underlying e = some (.struct fs))
  (hone : oneCellFields P fs = true) (hC : P.cellsOf e = fs.size) (h : DataW.trod enc P w base spare held fuel t cs = some x) :
  (cs = [.slice none 0 0] /\ x = (.nil, [])) \/
  ∃ (a : Addr) (len cap m : Nat) (D : Nat -> DataW H) (Pl : Nat -> List MemPlace), cs = [.slice (some a) len cap] /\ base <= a.block /\ len <= cap /\ cap <= maxLen /\ m = (if spare a.block then cap else len) /\
   x = (.slice ((List.range len).map D) ((List.range (m - len)).map fun j => D (len + j)), MemPlace.row a (m * fs.size) ++ (List.range m).flatMap Pl) /\
   ∀ i, i < m -> ∃ (ys : List (DataW H × List MemPlace)) (n : Nat), D i = .agg (ys.map (·.1)) /\ Pl i = ys.flatMap (·.2) /\ ys.length = fs.size /\
    ∀ (j : Nat) (f : Field), fs[j]? = some f -> ∃ (v : Value) (y : DataW H × List MemPlace), w.cell? (a.add (i * fs.size + j)) = some v /\ ys[j]? = some y /\ DataW.trod enc P w base spare held n f.type [v] = some y := by
 rcases open_slice ht h with h0 | ⟨a, len, cap, m, n, D, Pl, hcs, hb, hl, hm, hmm, hx, hi⟩
 ·exact .inl h0
 ·refine .inr ⟨a, len, cap, m, D, Pl, hcs, hb, hl, hm, hmm, by rw [hC] at hx; exact hx, fun i him => ?_⟩;obtain ⟨cs', hc, ht'⟩ := hi i him;rw [hC] at hc;obtain ⟨ys, n', hn', hy, hlen, hyl, hf⟩ := DataW.trod_struct he ht';obtain ⟨_, hcl, hat⟩ := World.cells?_some hc;simp only [Prod.mk.injEq] at hy;refine ⟨ys, n', hy.1, hy.2, hyl, fun j f hj => ?_⟩;obtain ⟨ho, hk⟩ := hone_of hone j f hj;have hjl : j < fs.size := (Array.getElem?_eq_some_iff.1 hj).1;have hcell := hat j hjl;have hv : cs'[j]? = some (cs'[j]'(by omega)) := List.getElem?_eq_getElem (by omega);have h1 := hf j f hj;rw [ho, hk] at h1
  have hone' : (cs'.drop j).take 1 = [cs'[j]'(by omega)] := by
   rw [List.drop_eq_getElem_cons (by omega)];rfl
  rw [hone'] at h1;have hys : ys[j]? = some (ys[j]'(by omega)) := List.getElem?_eq_getElem (by omega);refine ⟨_, _, ?_, hys, h1.trans hys⟩;rw [<- Go.Deep.add_add, hcell, hv]
theorem plain_addr {w : World} {a : Addr} {v : Value} (h : w.cell? (a.add 0) = some v) : a = ⟨a.block, a.off, none⟩ /\ a.block < w.heap.size := by
 obtain ⟨b, off, spot⟩ := a;have hspot : spot = none := by simpa [Addr.add] using World.cell?_spot h
 subst hspot;rw [add_plain] at h;exact ⟨rfl, World.block_lt_of_cell? w ⟨b, off + 0, none⟩ h⟩
/-! Integers -/
theorem open_ints_in {fuel : Nat} {cs : List Value} {x : DataW H × List MemPlace} (h : DataW.trod enc Tryz.prog w base spare held fuel 69 cs = some x) (hl : Light Tryz.prog 69 x.1) : ∃ (v : Value) (n : Nat), cs = [v] /\ IntsIn w v n := by
 have cellsInt : Tryz.prog.cellsOf 3 = 1 := by kernel_rfl
 have bytesInt : Tryz.prog.bytesOf 3 = 8 := by kernel_rfl
 rcases open_ints Tryz.underlying69 Tryz.underlying3 cellsInt h with ⟨rfl, rfl⟩ | ⟨a, len, cap, zs, rfl, _, hlc, hm, hz, rfl, hcell, hwz⟩
 ·exact ⟨_, 0, rfl, _, _, rfl, by omega, fun h => by omega⟩
 ·have hlz : len <= zs.length := by rw [hz]; split <;> omega
  have hreach := (light_slice hl Tryz.underlying69).1;rw [bytesInt] at hreach;simp only [lits, List.length_map, List.length_take, List.length_drop, reachBytes] at hreach;refine ⟨_, len, rfl, _, _, rfl, by omega, fun h0 => ?_⟩;obtain ⟨ha, hlt⟩ := plain_addr (hcell 0 (by omega));refine ⟨a.block, a.off, zs, by rw [<- ha], hlt, fun i hi => ?_⟩;have hc := hcell i (by omega);rw [ha, add_plain] at hc
  have hw := hwz (zs.getD i 0) (by
   have : zs.getD i 0 = zs[i]'(by omega) := by simp [List.getD, show i < zs.length by omega]
   rw [this]; exact List.getElem_mem _)
  exact ⟨hc, (bounds_i64 hw).1, (bounds_i64 hw).2⟩
end
end Go.Proofs.YthmlhheceihcbaaGreatDoor

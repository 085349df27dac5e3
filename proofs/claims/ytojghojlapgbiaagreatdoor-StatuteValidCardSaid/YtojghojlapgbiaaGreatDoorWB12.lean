/- Lemmas, each as it is printed; no conditions but those printed. -/
import Derived.Deep.AppendLies
import Derived.Test.YtojghojlapgbiaaGreatDoorWB9
import Derived.WalkKit
import Derived.ProofKit
import Derived.OpenShut
import Derived.ShutString
import Derived.ChangeOld
import Derived.Below
import Derived.SizedLaws
import Derived.ChangeSlices
import Derived.Deep.Slices
import Derived.Deep.Fields
import Derived.ChangeSame
namespace Go.Proofs.YtojghojlapgbiaaGreatDoor
set_option maxHeartbeats 16000000
open Go.RowKit Cal Str Tok Frac Txt Tree
attribute [local go_sem] calmUpon
set_option linter.unusedVariables false
set_option linter.unusedSimpArgs false
structure Ro (b : Nat) (w w' : World) : Prop where
 os : w'.os = w.os
 tape : w'.tape = w.tape
 output : w'.output = w.output
 size : w.heap.size ≤ w'.heap.size
 block : ∀ k, k < w.heap.size → k ≠ b → w'.heap[k]? = w.heap[k]?
theorem Ro.of {b : Nat} {w w' : World} (r : Rel w w') : Ro b w w' := ⟨Below.os r, Below.tape r, Below.output r, Below.size r, fun k hk _ => Below.block r k hk⟩
theorem Ro.refl (b : Nat) (w : World) : Ro b w w := Ro.of (Rel.refl w)
theorem Ro.trans {b : Nat} {x y z : World} (h : Ro b x y) (k : Ro b y z) : Ro b x z :=
 ⟨k.os.trans h.os, k.tape.trans h.tape, k.output.trans h.output, Nat.le_trans h.size k.size, fun i hi hb => (k.block i (Nat.lt_of_lt_of_le hi h.size) hb).trans (h.block i hi hb)⟩
theorem Ro.alloc {b : Nat} {x y : World} (h : Ro b x y) (o : Obj) : Ro b x (y.alloc o) := h.trans (Ro.of ((Rel.refl _).alloc _))
theorem Ro.set {b : Nat} {x y : World} (h : Ro b x y) (i : Nat) (u : Value) : Ro b x (y.setCell ⟨b, i, none⟩ u) :=
 h.trans ⟨rfl, rfl, rfl, by simp [World.setCell], fun k _ hb => Below.heap_setCell _ _ _ _ (fun e => hb e)⟩
theorem Ro.setNew {b : Nat} {x y : World} (h : Ro b x y) {p : Addr} (hp : x.heap.size ≤ p.block) (u : Value) : Ro b x (y.setCell p u) :=
 ⟨h.os, h.tape, h.output, by simpa [World.setCell] using h.size, fun k hk hb => (Below.heap_setCell _ _ _ _ (by omega)).trans (h.block k hk hb)⟩
theorem Ro.cell {b : Nat} {w w' : World} (h : Ro b w w') {g i : Nat} (hg : g < w.heap.size) (hb : g ≠ b) {v : Value} (hc : w.cell? ⟨g, i, none⟩ = some v) : w'.cell? ⟨g, i, none⟩ = some v :=
 (World.cell?_of_block (w := w) (h.block g hg hb)).trans hc
theorem Ro.rel {b : Nat} {w w1 w' : World} (r : Rel w w1) (h : Ro b w1 w') (hb : w.heap.size ≤ b) : Rel w w' :=
 ⟨h.os.trans (Below.os r), h.tape.trans (Below.tape r), h.output.trans (Below.output r), Nat.le_trans (Below.size r) h.size, fun k hk => (h.block k (Nat.lt_of_lt_of_le hk (Below.size r)) (by omega)).trans (Below.block r k hk)⟩
theorem rocell {b0 : Nat} {W w1 : World} (h : Ro b0 W w1) {b : Nat} (hb : b < W.heap.size) (hn : b ≠ b0) : (∀ i, w1.cell? ⟨b, i, none⟩ = W.cell? ⟨b, i, none⟩) ∧ (∀ i, w1.frozen? ⟨b, i, none⟩ = W.frozen? ⟨b, i, none⟩) :=
 ⟨fun i => World.cell?_of_block (w := W) (h.block b hb hn), fun i => World.frozen?_of_block (w := W) (h.block b hb hn)⟩
theorem keepr2 {b0 : Nat} {W w1 : World} (h : Ro b0 W w1) {b : Nat} (hb : b < W.heap.size) (hn : b ≠ b0) : w1.cell? ⟨b, 0, none⟩ = W.cell? ⟨b, 0, none⟩ ∧ w1.cell? ⟨b, 1, none⟩ = W.cell? ⟨b, 1, none⟩ ∧ w1.frozen? ⟨b, 0, none⟩ = W.frozen? ⟨b, 0, none⟩ ∧ w1.frozen? ⟨b, 1, none⟩ = W.frozen? ⟨b, 1, none⟩ ∧ b < w1.heap.size ∧ b ≠ w1.heap.size ∧ w1.heap.size ≠ b :=
 ⟨(rocell h hb hn).1 0, (rocell h hb hn).1 1, (rocell h hb hn).2 0, (rocell h hb hn).2 1, Nat.lt_of_lt_of_le hb h.size, Nat.ne_of_lt (Nat.lt_of_lt_of_le hb h.size), Nat.ne_of_gt (Nat.lt_of_lt_of_le hb h.size)⟩
theorem keepr6 {b0 : Nat} {W w1 : World} (h : Ro b0 W w1) {b : Nat} (hb : b < W.heap.size) (hn : b ≠ b0) : w1.cell? ⟨b, 0, none⟩ = W.cell? ⟨b, 0, none⟩ ∧ w1.cell? ⟨b, 1, none⟩ = W.cell? ⟨b, 1, none⟩ ∧ w1.cell? ⟨b, 2, none⟩ = W.cell? ⟨b, 2, none⟩ ∧ w1.cell? ⟨b, 3, none⟩ = W.cell? ⟨b, 3, none⟩ ∧ w1.cell? ⟨b, 4, none⟩ = W.cell? ⟨b, 4, none⟩ ∧ w1.cell? ⟨b, 5, none⟩ = W.cell? ⟨b, 5, none⟩ ∧ w1.frozen? ⟨b, 0, none⟩ = W.frozen? ⟨b, 0, none⟩ ∧ w1.frozen? ⟨b, 1, none⟩ = W.frozen? ⟨b, 1, none⟩ ∧ w1.frozen? ⟨b, 2, none⟩ = W.frozen? ⟨b, 2, none⟩ ∧ w1.frozen? ⟨b, 3, none⟩ = W.frozen? ⟨b, 3, none⟩ ∧ w1.frozen? ⟨b, 4, none⟩ = W.frozen? ⟨b, 4, none⟩ ∧ w1.frozen? ⟨b, 5, none⟩ = W.frozen? ⟨b, 5, none⟩ ∧ b < w1.heap.size ∧ b ≠ w1.heap.size ∧ w1.heap.size ≠ b :=
 ⟨(rocell h hb hn).1 0, (rocell h hb hn).1 1, (rocell h hb hn).1 2, (rocell h hb hn).1 3, (rocell h hb hn).1 4, (rocell h hb hn).1 5, (rocell h hb hn).2 0, (rocell h hb hn).2 1, (rocell h hb hn).2 2, (rocell h hb hn).2 3, (rocell h hb hn).2 4, (rocell h hb hn).2 5, Nat.lt_of_lt_of_le hb h.size, Nat.ne_of_lt (Nat.lt_of_lt_of_le hb h.size), Nat.ne_of_gt (Nat.lt_of_lt_of_le hb h.size)⟩
structure Nums (w : World) (b : Nat) (la : Option Addr) (ln : Nat) : Prop where
 le : ln ≤ 17592186044416
 at' : 0 < ln → ∃ (g off : Nat) (zs : Nat → Int), la = some ⟨g, off, none⟩ ∧ g < w.heap.size ∧ g ≠ b ∧ ∀ j, j < ln → w.cell? ⟨g, off + j, none⟩ = some (.int .i64 (zs j)) ∧ -9223372036854775808 ≤ zs j ∧ zs j ≤ 9223372036854775807
theorem Nums.ro {w w' : World} {b : Nat} {la : Option Addr} {ln : Nat} (h : Nums w b la ln) (r : Ro b w w') : Nums w' b la ln := ⟨h.le, fun h0 => by
 obtain ⟨g, off, zs, e, hg, hb, hc⟩ := h.at' h0
 exact ⟨g, off, zs, e, Nat.lt_of_lt_of_le hg r.size, hb, fun j hj => ⟨r.cell hg hb (hc j hj).1, (hc j hj).2⟩⟩⟩
structure Src (w : World) (b : Nat) (la : Option Addr) (ln lc : Nat) (at' left : Int) : Prop where
 lt : b < w.heap.size
 c0 : w.cell? ⟨b, 0, none⟩ = some (.slice la ln lc)
 c1 : w.cell? ⟨b, 1, none⟩ = some (.int .i64 at')
 c2 : w.cell? ⟨b, 2, none⟩ = some (.int .i64 left)
 f1 : w.frozen? ⟨b, 1, none⟩ = false
 f2 : w.frozen? ⟨b, 2, none⟩ = false
 nums : Nums w b la ln
 at0 : 0 ≤ at'
 l0 : -9223372036854775808 ≤ left
 l1 : left ≤ 9223372036854775807
theorem Src.rel {w w' : World} {b : Nat} {la : Option Addr} {ln lc : Nat} {at' left : Int} (h : Src w b la ln lc at' left) (r : Rel w w') : Src w' b la ln lc at' left :=
 ⟨Nat.lt_of_lt_of_le h.lt r.size, r.cell h.c0, r.cell h.c1, r.cell h.c2, ((rcell r).2 b 1 h.lt).trans h.f1, ((rcell r).2 b 2 h.lt).trans h.f2, h.nums.ro (Ro.of r), h.at0, h.l0, h.l1⟩
theorem Src.setAt {w : World} {b : Nat} {la : Option Addr} {ln lc : Nat} {at' left : Int} (h : Src w b la ln lc at' left) (a : Int) (ha : 0 ≤ a) : Src (w.setCell ⟨b, 1, none⟩ (.int .i64 a)) b la ln lc a left :=
 ⟨by simpa [World.setCell] using h.lt, by rw [World.cell?_setCell_other _ _ _ _ (by simp)]; exact h.c0, World.cell?_setCell_same _ _ _ h.c1, by rw [World.cell?_setCell_other _ _ _ _ (by simp)]; exact h.c2, by rw [World.frozen?_setCell]; exact h.f1, by rw [World.frozen?_setCell]; exact h.f2, h.nums.ro ((Ro.refl b w).set 1 _), ha, h.l0, h.l1⟩
theorem Src.setLeft {w : World} {b : Nat} {la : Option Addr} {ln lc : Nat} {at' left : Int} (h : Src w b la ln lc at' left) (a : Int) (ha : -9223372036854775808 ≤ a) (ha' : a ≤ 9223372036854775807) : Src (w.setCell ⟨b, 2, none⟩ (.int .i64 a)) b la ln lc at' a :=
 ⟨by simpa [World.setCell] using h.lt, by rw [World.cell?_setCell_other _ _ _ _ (by simp)]; exact h.c0, by rw [World.cell?_setCell_other _ _ _ _ (by simp)]; exact h.c1, World.cell?_setCell_same _ _ _ h.c2, by rw [World.frozen?_setCell]; exact h.f1, by rw [World.frozen?_setCell]; exact h.f2, h.nums.ro ((Ro.refl b w).set 2 _), h.at0, ha, ha'⟩
theorem Src.other {w : World} {b : Nat} {la : Option Addr} {ln lc : Nat} {at' left : Int} (h : Src w b la ln lc at' left) {g i : Nat} {v : Value} (hne : g ≠ b) (hn : Nums (w.setCell ⟨g, i, none⟩ v) b la ln) : Src (w.setCell ⟨g, i, none⟩ v) b la ln lc at' left :=
 ⟨by simpa [World.setCell] using h.lt, by rw [World.cell?_setCell_other _ _ _ _ (fun e => hne (by injection e))]; exact h.c0, by rw [World.cell?_setCell_other _ _ _ _ (fun e => hne (by injection e))]; exact h.c1, by rw [World.cell?_setCell_other _ _ _ _ (fun e => hne (by injection e))]; exact h.c2, by rw [World.frozen?_setCell]; exact h.f1, by rw [World.frozen?_setCell]; exact h.f2, hn, h.at0, h.l0, h.l1⟩
def NxtRes (b : Nat) (la : Option Addr) (ln lc : Nat) (at' left : Int) (k : Int) (w : World) (e : Ending) (w' : World) : Prop := ∃ v : Int, e = .returned (.int .i64 v) ∧ 0 ≤ v ∧ v < k ∧ Src w' b la ln lc (at' + 1) left ∧ Ro b w w'
theorem next_any (b : Nat) (la : Option Addr) (ln lc : Nat) (at' left k : Int) (w : World) (hS : Src w b la ln lc at' left) (ha : at' ≤ 4000000000000000000) (k1 : 1 ≤ k) (k2 : k ≤ 4000000000000000000) :
  Calls Tryz.prog 158 #[.pointer (some ⟨b, 0, none⟩), .int .i64 k] w (NxtRes b la ln lc at' left k w) := by
 unfold NxtRes;have HS := Hj hS;have c0 := hS.c0;have c1 := hS.c1;have a0 := hS.at0;have hln := hS.nums.le;have w1 : IntKind.i64.wrap (at' + 1) = at' + 1 := IntWalk.i64_in _ ⟨by omega, by omega⟩;clear hS;by_cases hlt : at' < ln
 ·obtain ⟨g, off, zs, rfl, hg, hgb, hc⟩ := HS.out.nums.at' (by omega);obtain ⟨j, rfl⟩ := Int.eq_ofNat_of_zero_le a0;obtain ⟨ce, e0, e1⟩ := hc j (by omega);have hj : j < ln := by omega
  have bl : decide ((j : Int) < ln) = true := decide_eq_true hlt;obtain ⟨z, hz⟩ : ∃ z, zs j = z := ⟨_, rfl⟩;rw [hz] at ce e0 e1;have P := Hj fun w => pick_any z k w e0 e1 k1 k2
  have z0 := Int.emod_nonneg z (show k ≠ 0 by omega);have z1 := Int.emod_lt_of_pos z (show 0 < k by omega);clear hc hz;go_enter Tryz.func158, Tryz.ntmps158;go_wp2_with fail;refine wp_region_calm (fun _ w' => w'.cell? { block := b, off := 0 } = some (.slice (some ⟨g, off, none⟩) ln lc) ∧ w'.cell? { block := b, off := 1 } = some (.int .i64 (j : Int))) (fun _ => false) [0, 1, 2, 3, 4, 5, 6, 7, 8, 9] 0 (by kernel_rfl) (by kernel_rfl) ?hst ?hS0 (fun w0 h0 => ?_)
  case hst => exact fun _ _ _ h r => ⟨r.cell h.1, r.cell h.2⟩
  case hS0 => exact ⟨c0, c1⟩
  iterate 10
   refine wpCalm_go rfl (by kernel_rfl) (fun K hK => ?_);apply Exists.intro;refine ⟨fun M w hM hS => ?_, hK _ ?_⟩
   ·have hc := hS.1;have hc' := hS.2;unfold calmAt;go_simp;exact ⟨rfl, Rel.refl _⟩
   clear hK K
  refine wpAnyR_end (by kernel_rfl) (fun w3 h3' => ?_);(try simp only [Act.put, zla, zlb, zlc]);have h3 := h0.trans h3';clear h0 h3';have kz3 := h3.size;(try simp only [zsa, zsc, zsd] at kz3);have H3 := Hj h3;clear h3;have d0 := H3.out.cell c0;have d1 := H3.out.cell c1;have de := H3.out.cell ce;go_wp2_with fail;refine wp_region_calm (fun _ w' => w'.cell? { block := b, off := 0 } = some (.slice (some ⟨g, off, none⟩) ln lc) ∧ w'.cell? { block := b, off := 1 } = some (.int .i64 (j : Int)) ∧ w'.cell? { block := g, off := off + j } = some (.int .i64 z)) (fun _ => false) [0, 1, 2, 3, 4, 5, 6, 7, 8, 9, 10] 0 (by kernel_rfl) (by kernel_rfl) ?hst ?hS0 (fun w0 h0 => ?_)
  case hst => exact fun _ _ _ h r => ⟨r.cell h.1, r.cell h.2.1, r.cell h.2.2⟩
  case hS0 => exact ⟨d0, d1, de⟩
  iterate 11
   refine wpCalm_go rfl (by kernel_rfl) (fun K hK => ?_);apply Exists.intro;refine ⟨fun M w hM hS => ?_, hK _ ?_⟩
   ·have hc := hS.1;have hc' := hS.2.1;have hc'' := hS.2.2;unfold calmAt;go_simp;exact ⟨rfl, Rel.refl _⟩
   clear hK K
  refine wpAnyR_end (by kernel_rfl) (fun w4 h4' => ?_);(try simp only [Act.put, zla, zlb, zlc]);have h4 := h0.trans h4';clear h0 h4';have kz4 := h4.size;(try simp only [zsa, zsc, zsd] at kz4);have H4 := Hj h4;clear h4;have S4 := Hj (HS.out.rel (H3.out.trans H4.out));have d1' := S4.out.c1;have f1' := S4.out.f1;have S5 := Hj (S4.out.setAt ((j : Int) + 1) (by omega));have R5 := Hj (((Ro.of (b := b) (H3.out.trans H4.out))).set 1 (.int .i64 ((j : Int) + 1)));clear d0 d1 de ce;go_wp2_with fail;refine (P.out _).mono ?_;rintro e w6 ⟨rfl, rfl⟩;go_wp2;go_ret;exact ⟨_, rfl, z0, z1, S5.out, R5.out⟩
 ·have bl : decide (at' < (ln : Int)) = false := decide_eq_false hlt;have P := Hj fun w => pick_any 0 k w (by decide) (by decide) k1 k2
  have z0 : (0 : Int) % k = 0 := Int.zero_emod k;rw [z0] at P;go_enter Tryz.func158, Tryz.ntmps158;go_wp2_with fail;refine wp_region_calm (fun _ w' => w'.cell? { block := b, off := 0 } = some (.slice la ln lc) ∧ w'.cell? { block := b, off := 1 } = some (.int .i64 at')) (fun _ => false) [0, 1, 2, 3, 4, 5, 6, 7, 8, 9] 0 (by kernel_rfl) (by kernel_rfl) ?hst ?hS0 (fun w0 h0 => ?_)
  case hst => exact fun _ _ _ h r => ⟨r.cell h.1, r.cell h.2⟩
  case hS0 => exact ⟨c0, c1⟩
  iterate 10
   refine wpCalm_go rfl (by kernel_rfl) (fun K hK => ?_);apply Exists.intro;refine ⟨fun M w hM hS => ?_, hK _ ?_⟩
   ·have hc := hS.1;have hc' := hS.2;unfold calmAt;go_simp;exact ⟨rfl, Rel.refl _⟩
   clear hK K
  refine wpAnyR_end (by kernel_rfl) (fun w3 h3' => ?_);(try simp only [Act.put, zla, zlb, zlc]);have h3 := h0.trans h3';clear h0 h3';have kz3 := h3.size;(try simp only [zsa, zsc, zsd] at kz3);have H3 := Hj h3;clear h3;have S4 := Hj (HS.out.rel H3.out);have d1' := S4.out.c1;have f1' := S4.out.f1;have S5 := Hj (S4.out.setAt (at' + 1) (by omega));have R5 := Hj (((Ro.of (b := b) H3.out)).set 1 (.int .i64 (at' + 1)));clear c0 c1;go_wp2_with fail;refine (P.out _).mono ?_;rintro e w6 ⟨rfl, rfl⟩;go_wp2;go_ret;exact ⟨_, rfl, by decide, by omega, S5.out, R5.out⟩
def namL : List ByteArray := [⟨#[97, 103, 101]⟩, ⟨#[121, 101, 97, 114]⟩, ⟨#[99, 104, 105, 108, 100, 114, 101, 110]⟩, ⟨#[105, 110, 115, 117, 114, 101, 100]⟩, ⟨#[119, 111, 114, 107, 101, 100]⟩, ⟨#[118, 111, 108, 117, 110, 116, 97, 114, 121]⟩, ⟨#[115, 101, 114, 118, 105, 99, 101]⟩, ⟨#[101, 113, 117, 97, 116, 101, 100]⟩, ⟨#[114, 97, 105, 115, 105, 110, 103]⟩, ⟨#[114, 101, 115, 105, 100, 101, 110, 116]⟩, ⟨#[98, 97, 115, 101]⟩]
def namTab : Array Value := #[.string ⟨#[97, 103, 101]⟩, .string ⟨#[121, 101, 97, 114]⟩, .string ⟨#[99, 104, 105, 108, 100, 114, 101, 110]⟩, .string ⟨#[105, 110, 115, 117, 114, 101, 100]⟩, .string ⟨#[119, 111, 114, 107, 101, 100]⟩, .string ⟨#[118, 111, 108, 117, 110, 116, 97, 114, 121]⟩, .string ⟨#[115, 101, 114, 118, 105, 99, 101]⟩, .string ⟨#[101, 113, 117, 97, 116, 101, 100]⟩, .string ⟨#[114, 97, 105, 115, 105, 110, 103]⟩, .string ⟨#[114, 101, 115, 105, 100, 101, 110, 116]⟩, .string ⟨#[98, 97, 115, 101]⟩]
theorem namTab_at : ∀ k, k < 11 → ∃ s : ByteArray, namTab[k]? = some (.string s) ∧ namL[k]? = some s ∧ s.size ≤ 20 := by
 intro k hk
 rcases (show k = 0 ∨ k = 1 ∨ k = 2 ∨ k = 3 ∨ k = 4 ∨ k = 5 ∨ k = 6 ∨ k = 7 ∨ k = 8 ∨ k = 9 ∨ k = 10 by omega) with rfl | rfl | rfl | rfl | rfl | rfl | rfl | rfl | rfl | rfl | rfl <;> exact ⟨_, rfl, rfl, by decide⟩
def inpF (dim : Int) (s : ByteArray) : Bool := inpI s == dim
def inpL (dim : Int) (k : Nat) : List ByteArray := (namL.take k).filter (inpF dim)
theorem inpL_succ {dim : Int} {k : Nat} {s : ByteArray} (h : namL[k]? = some s) : inpL dim (k + 1) = if inpI s = dim then inpL dim k ++ [s] else inpL dim k := by
 unfold inpL;rw [List.take_add_one, h, List.filter_append];by_cases e : inpI s = dim
 ·rw [if_pos e]; simp [inpF, e]
 ·rw [if_neg e]; simp [inpF, e]
theorem inpL_len (dim : Int) (k : Nat) : (inpL dim k).length ≤ k := by
 unfold inpL;exact Nat.le_trans (List.length_filter_le _ _) (List.length_take_le _ _)
def strL (l : List ByteArray) : List Value := l.map Value.string
theorem strL_snoc (l : List ByteArray) (s : ByteArray) : strL (l ++ [s]) = strL l ++ [.string s] := by unfold strL; simp
theorem new1c (w : World) (x : Value) (T : TypeId) : ∀ (j : Nat) u, [x][j]? = some u → (w.alloc (.cells #[x] T)).cell? ((⟨w.heap.size, 0, none⟩ : Addr).add j) = some u := by
 intro j u h
 match j with
 | 0 => simp at h; subst h; simp [Addr.add]
 | j + 1 => simp at h
theorem Names_any (w : World) : Calls Tryz.prog 189 #[] w fun e w' => e = .returned (.slice (some ⟨w.heap.size, 0, none⟩) 11 11) ∧ w' = w.alloc (.cells namTab 9) := by
 go_enter Tryz.func189, Tryz.ntmps189;go_wp2;go_ret;exact ⟨rfl, rfl⟩
theorem own_up {w : World} {b b' : Nat} {e : TypeId} {size : Nat} {v : Value} {n : Nat} {xs : List Value} (h : w.ownsRow b e size v n xs) (hb : b' ≤ b) : w.ownsRow b' e size v n xs := by
 refine ⟨h.1, ?_⟩
 rcases h.2 with h2 | ⟨g, cap, cur, h3, h4, h5⟩
 ·exact .inl h2
 ·exact .inr ⟨g, cap, cur, h3, Nat.le_trans hb h4, h5⟩
def InpRes (l : List ByteArray) (w : World) (e : Ending) (w' : World) : Prop := ∃ v, e = .returned v ∧ w'.ownsRow w.heap.size 9 1 v l.length (strL l) ∧ Rel w w'
set_option maxRecDepth 20000 in
theorem inputs_any (dim : Int) (w : World) : Calls Tryz.prog 160 #[.int .i64 dim] w (InpRes (inpL dim 11) w) := by
 unfold InpRes;have hi3 : (Tryz.prog.info? 9).map (fun i => (i.zero, i.size, i.bytes)) = some (some (.string ByteArray.empty), 1, 16) := by kernel_rfl
 obtain ⟨i0, hi, hx⟩ := Option.map_eq_some_iff.1 hi3;simp only [Prod.mk.injEq] at hx;obtain ⟨hz0, hz1, hz2⟩ := hx;have HI := Hj hi;have HZ0 := Hj hz0;have HZ1 := Hj hz1;have HZ2 := Hj hz2;clear hi3 hi hz0 hz1 hz2;go_enter Tryz.func160, Tryz.ntmps160;go_wp2_with fail;refine (Names_any _).mono ?_;rintro e w1 ⟨rfl, hw1⟩;have r1 : Rel w w1 := by rw [hw1]; exact (Rel.refl _).alloc _
 have hN : Hid (∀ k, k < 11 → ∃ s : ByteArray, w1.cell? ⟨w.heap.size, k, none⟩ = some (.string s) ∧ namL[k]? = some s ∧ s.size ≤ 20) := fun k hk => by
  obtain ⟨s, h1, h2, h3⟩ := namTab_at k hk;exact ⟨s, by rw [hw1]; simpa using h1, h2, h3⟩
 have hsz : w1.heap.size = w.heap.size + 1 := by rw [hw1]; simp
 have R1 := Hj r1;have HSZ := Hj hsz;clear hw1 r1 hsz;go_wp2_with fail
 go_loopw [4, 5] (fun v i wx => ∃ (k : Nat) (vv : Value), vv = v ∧ k ≤ 11 ∧ i = .int .i64 k ∧ Hid (wx.ownsRow w1.heap.size 9 1 vv (inpL dim k).length (strL (inpL dim k))) ∧ Hid (Rel w1 wx)) (fun _ i _ => 11 - (intOf i).toNat)
 case atStart => exact ⟨0, _, rfl, by omega, rfl, World.ownsRow_nil _ _ _ _, Rel.refl _⟩
 case round =>
  obtain ⟨k, vv, rfl, hk, rfl, hO, hR⟩ := hrel;by_cases hlt : k < 11
  ·obtain ⟨s, q0, q1, q2⟩ := hN.out k hlt;have c0 := hR.out.cell q0;have hll := inpL_len dim k;have I := Hj fun w => rInput_any s w
   obtain ⟨B, hB⟩ : ∃ B, inpB s = B := ⟨_, rfl⟩;rw [hB] at I;clear q0 hB;by_cases hd : inpI s = dim
   ·have hs := inpL_succ (dim := dim) q1;rw [if_pos hd] at hs;have HS := Hj hs;rw [hd] at I;have O1 := Hj (own_rel hO.out ((Rel.refl wr).alloc (.cells #[.string s] 9)));clear hs q1 hd;have sz := hR.out.size
    go_wp2_with (first | (go_at_call 190; refine (I.out _).mono ?_; rintro e w2 ⟨rfl, rfl⟩) | (at_builtin; refine wpList_append_own _ rfl _ _ 80 rfl w1.heap.size 9 i0 (.string ByteArray.empty) 1 16 Tryz.underlying80 HI.out HZ0.out HZ1.out HZ2.out rfl (by decide) vv (inpL dim k).length (strL (inpL dim k)) rfl O1.out ⟨wr.heap.size, 0, none⟩ 1 1 [.string s] rfl rfl ?c1 ?c2 ?c3 ?c4 ?c5 ?_))
    case c1 => exact new1c wr (.string s) 9
    case c2 => intro u hu; simp at hu; subst hu; rfl
    case c3 => unfold maxLen; omega
    case c4 => omega
    case c5 => simp; omega
    intro v' w4 hown' hgrow _
    have R4 : Hid (Rel w1 w4) := by
     show Rel _ w4
     exact Below.grown (hR.out.alloc _) hgrow (by simp; omega) (fun q hq => (hO.out.lt q hq).1)
    have O4 : Hid (w4.ownsRow w1.heap.size 9 1 v' (inpL dim (k + 1)).length (strL (inpL dim (k + 1)))) := by
     show World.ownsRow _ _ _ _ _ _ _
     rw [HS.out, strL_snoc, List.length_append]; exact hown'
    clear hown' hgrow;go_wp2
    go_roundw
    case rel => exact ⟨k + 1, v', rfl, by omega, by go_num, O4, R4⟩
    case measure => simp [intOf]; omega
   ·have hs := inpL_succ (dim := dim) q1;rw [if_neg hd] at hs;have fd : (inpI s == dim) = false := by rw [zn]; exact hd
    obtain ⟨x, hx⟩ : ∃ x, inpI s = x := ⟨_, rfl⟩;rw [hx] at I fd;have HS := Hj hs;clear hs q1 hd hx
    go_wp2_with (go_at_call 190; refine (I.out _).mono ?_; rintro e w2 ⟨rfl, rfl⟩)
    go_roundw
    case rel => exact ⟨k + 1, vv, rfl, by omega, by go_num, by show World.ownsRow _ _ _ _ _ _ _; rw [HS.out]; exact hO.out, hR⟩
    case measure => simp [intOf]; omega
  ·have : k = 11 := by omega
   subst this;go_wp2;go_ret;exact ⟨_, rfl, own_up hO.out (by rw [HSZ.out]; omega), R1.out.trans hR.out⟩
def NumV (N D : Int) : Prop := ∃ n k : Int, 0 ≤ n ∧ n < 4000 ∧ (k = 1 ∨ k = 10 ∨ k = 4 ∨ k = 1000 ∨ k = 10000) ∧ N = mkN n k ∧ D = mkD n k
def tab7 : Array Value := #[.int .i64 1, .int .i64 1, .int .i64 1, .int .i64 10, .int .i64 4, .int .i64 1000, .int .i64 10000]
theorem tab7_ok : ∀ k, k < 7 → ∃ c : Int, tab7[k]? = some (.int .i64 c) ∧ (c = 1 ∨ c = 10 ∨ c = 4 ∨ c = 1000 ∨ c = 10000) := by
 intro k hk
 rcases (show k = 0 ∨ k = 1 ∨ k = 2 ∨ k = 3 ∨ k = 4 ∨ k = 5 ∨ k = 6 by omega) with rfl | rfl | rfl | rfl | rfl | rfl | rfl <;> exact ⟨_, rfl, by decide⟩
def NumRes (b : Nat) (la : Option Addr) (ln lc : Nat) (at' left : Int) (w : World) (e : Ending) (w' : World) : Prop := ∃ N D : Int, e = .returned (.agg #[.int .i64 N, .int .i64 D]) ∧ NumV N D ∧ Src w' b la ln lc (at' + 2) left ∧ Ro b w w'
set_option maxRecDepth 20000 in
theorem mnumber_any (b : Nat) (la : Option Addr) (ln lc : Nat) (at' left : Int) (w : World) (hS : Src w b la ln lc at' left) (ha : at' ≤ 3999999999999999999) :
  Calls Tryz.prog 161 #[.pointer (some ⟨b, 0, none⟩)] w (NumRes b la ln lc at' left w) := by
 unfold NumRes;have HS := Hj hS;have hlt := hS.lt;have a0 := hS.at0;clear hS;go_enter Tryz.func161, Tryz.ntmps161;go_wp2_with fail;refine (next_any b la ln lc at' left 4000 _ (HS.out.rel ((Rel.refl _).alloc _)) (by omega) (by decide) (by decide)).mono ?_;rintro e w1 ⟨n, rfl, n0, n1, hS1, h1⟩;have S1 := Hj hS1;clear hS1;have kq0 := keepr2 h1 (b := w.heap.size) (by first | (simp; done) | (simp; omega) | omega) (by first | (simp; done) | (simp; omega) | omega);have kz1 := h1.size;(try simp only [zsa, zsc, zsd] at kz1);have H1 := Hj h1;clear h1;go_wp2_with fail;refine (next_any b la ln lc (at' + 1) left 7 _ (S1.out.rel ((Rel.refl _).alloc _)) (by omega) (by decide) (by decide)).mono ?_;rintro e w2 ⟨v, rfl, v0, v1, hS2, h2⟩;have S2 := Hj hS2;clear hS2;obtain ⟨j, rfl⟩ := Int.eq_ofNat_of_zero_le v0;obtain ⟨c, hc, hcc⟩ := tab7_ok j (by omega);have ct : w2.cell? ⟨w1.heap.size, j, none⟩ = some (.int .i64 c) := h2.cell (by simp) (by have := S1.out.lt; omega) (by show (w1.alloc (.cells tab7 _)).cell? _ = _; simpa using hc);have hj : j < 7 := by omega
 have cb : 1 ≤ c ∧ c ≤ 10000 := by rcases hcc with rfl | rfl | rfl | rfl | rfl <;> decide
 obtain ⟨cb0, cb1⟩ := cb;have M := Hj fun w => rmake_any n c w (by omega) (by omega) (by omega) (by omega)
 unfold FrRes at M;have HV : Hid (NumV (mkN n c) (mkD n c)) := ⟨n, c, n0, n1, hcc, rfl, rfl⟩;obtain ⟨N, hN⟩ : ∃ N, mkN n c = N := ⟨_, rfl⟩;obtain ⟨D, hD⟩ : ∃ D, mkD n c = D := ⟨_, rfl⟩;obtain ⟨E, hE⟩ : ∃ E, mkE n c = E := ⟨_, rfl⟩;rw [hN, hD] at HV;rw [hN, hD, hE] at M;clear hc hcc hN hD hE;have kq1 := keepr2 h2 (b := w.heap.size) (by first | (simp; done) | (simp; omega) | omega) (by first | (simp; done) | (simp; omega) | omega);have kz2 := h2.size;(try simp only [zsa, zsc, zsd] at kz2);have H2 := Hj h2;clear h2;go_wp2_with fail;refine (M.out _).mono ?_;rintro e w3 ⟨rfl, h3⟩;have kq2 := keep2 h3 (b := w.heap.size) (by first | (simp; done) | (simp; omega) | omega);have kz3 := h3.size;(try simp only [zsa, zsc, zsd] at kz3);have H3 := Hj h3;clear h3;have S3 := Hj (S2.out.rel H3.out);have hbw : w.heap.size ≠ b := by omega
 go_wp2;have R4 : Ro b w (w3.setCell ⟨w.heap.size, 0, none⟩ (.int .i64 N)) := by (show Ro _ _ _; repeat (first | with_reducible exact Ro.refl _ _ | with_reducible refine Ro.alloc ?_ _ | with_reducible refine Ro.setNew ?_ (by first | (simp; done) | (simp; omega) | omega) _ | with_reducible refine Ro.set ?_ _ _  | with_reducible refine Ro.trans ?_ H3.out | with_reducible refine Ro.trans ?_ (Ro.of H3.out) | with_reducible refine Ro.trans ?_ H2.out | with_reducible refine Ro.trans ?_ (Ro.of H2.out) | with_reducible refine Ro.trans ?_ H1.out | with_reducible refine Ro.trans ?_ (Ro.of H1.out) | with_reducible refine Ro.trans ?_ H0.out | with_reducible refine Ro.trans ?_ (Ro.of H0.out)))
 have R5 : Ro b w ((w3.setCell ⟨w.heap.size, 0, none⟩ (.int .i64 N)).setCell ⟨w.heap.size, 1, none⟩ (.int .i64 D)) := by (show Ro _ _ _; repeat (first | with_reducible exact Ro.refl _ _ | with_reducible refine Ro.alloc ?_ _ | with_reducible refine Ro.setNew ?_ (by first | (simp; done) | (simp; omega) | omega) _ | with_reducible refine Ro.set ?_ _ _  | with_reducible refine Ro.trans ?_ H3.out | with_reducible refine Ro.trans ?_ (Ro.of H3.out) | with_reducible refine Ro.trans ?_ H2.out | with_reducible refine Ro.trans ?_ (Ro.of H2.out) | with_reducible refine Ro.trans ?_ H1.out | with_reducible refine Ro.trans ?_ (Ro.of H1.out) | with_reducible refine Ro.trans ?_ H0.out | with_reducible refine Ro.trans ?_ (Ro.of H0.out)))
 have S5 := (S3.out.other hbw (HS.out.nums.ro R4)).other hbw (HS.out.nums.ro R5);refine bodyPost_ret (v := .agg #[.int .i64 N, .int .i64 D]) ?_ rfl ⟨N, D, rfl, HV.out, ?_, R5.alloc _⟩
 ·have g1 : (((w3.setCell ⟨w.heap.size, 0, none⟩ (.int .i64 N)).setCell ⟨w.heap.size, 1, none⟩ (.int .i64 D)).alloc (.cells #[.int .i64 N, .int .i64 D] 40)).cell? ⟨w.heap.size, 0, none⟩ = some (.int .i64 N) := by go_simp
  have g2 : (((w3.setCell ⟨w.heap.size, 0, none⟩ (.int .i64 N)).setCell ⟨w.heap.size, 1, none⟩ (.int .i64 D)).alloc (.cells #[.int .i64 N, .int .i64 D] 40)).cell? ⟨w.heap.size, 1, none⟩ = some (.int .i64 D) := by go_simp
  simp [results, Tryz.results161, go_sem, g1, g2]
 ·have := S5.rel ((Rel.refl _).alloc (.cells #[.int .i64 N, .int .i64 D] 40))
  rwa [show at' + 1 + 1 = at' + 2 by omega] at this
structure EnvB (w : World) (b : Nat) (k : Nat) (nm : Nat → ByteArray) (dm : Nat → Int) (ad : Option Addr) : Prop where
 le : k ≤ 1000000000
 at' : 0 < k → ∃ g off, ad = some ⟨g, off, none⟩ ∧ g < w.heap.size ∧ g ≠ b ∧ ∀ i, i < k →
  w.cell? ⟨g, off + i * 2, none⟩ = some (.string (nm i)) ∧ w.cell? ⟨g, off + i * 2 + 1, none⟩ = some (.int .i64 (dm i)) ∧ (nm i).size ≤ 140737488355328 ∧ -9223372036854775808 ≤ dm i ∧ dm i ≤ 9223372036854775807
theorem EnvB.ro {w w' : World} {b k : Nat} {nm : Nat → ByteArray} {dm : Nat → Int} {ad : Option Addr} (h : EnvB w b k nm dm ad) (r : Ro b w w') : EnvB w' b k nm dm ad := ⟨h.le, fun h0 => by
 obtain ⟨g, off, e, hg, hb, hc⟩ := h.at' h0
 exact ⟨g, off, e, Nat.lt_of_lt_of_le hg r.size, hb, fun i hi => ⟨r.cell hg hb (hc i hi).1, r.cell hg hb (hc i hi).2.1, (hc i hi).2.2⟩⟩⟩
def nmsL (nm : Nat → ByteArray) (dm : Nat → Int) (dim : Int) : Nat → List ByteArray
 | 0 => inpL dim 11
 | k + 1 => if dm k = dim then nmsL nm dm dim k ++ [nm k] else nmsL nm dm dim k
theorem nmsL_len (nm : Nat → ByteArray) (dm : Nat → Int) (dim : Int) (k : Nat) : (nmsL nm dm dim k).length ≤ k + 11 := by
 induction k with
 | zero => exact Nat.le_trans (inpL_len dim 11) (by omega)
 | succ k ih => simp only [nmsL]; split <;> (try simp) <;> omega
theorem inpL_mem {dim : Int} {k : Nat} {s : ByteArray} (h : s ∈ inpL dim k) : s ∈ namL ∧ inpI s = dim := by
 unfold inpL at h;rw [List.mem_filter] at h;exact ⟨List.mem_of_mem_take h.1, by simpa [inpF] using h.2⟩
theorem nmsL_mem {nm : Nat → ByteArray} {dm : Nat → Int} {dim : Int} {k : Nat} {s : ByteArray} (h : s ∈ nmsL nm dm dim k) : (s ∈ namL ∧ inpI s = dim) ∨ ∃ i, i < k ∧ s = nm i ∧ dm i = dim := by
 induction k with
 | zero => exact .inl (inpL_mem h)
 | succ k ih =>
  simp only [nmsL] at h
  split at h
  ·rename_i hd
   rcases List.mem_append.1 h with h | h
   ·rcases ih h with h | ⟨i, h1, h2⟩
    ·exact .inl h
    ·exact .inr ⟨i, by omega, h2⟩
   ·simp at h; exact .inr ⟨k, by omega, h, hd⟩
  ·rcases ih h with h | ⟨i, h1, h2⟩
   ·exact .inl h
   ·exact .inr ⟨i, by omega, h2⟩
theorem namL_size {s : ByteArray} (h : s ∈ namL) : s.size ≤ 20 := by
 have : namL.all (fun s => decide (s.size ≤ 20)) = true := by kernel_rfl
 simpa using List.all_eq_true.1 this s h
theorem put6 {w0 W : World} {b : Nat} {la : Option Addr} {ln lc : Nat} {at' left : Int} (h : Src W b la ln lc at' left) (hn : Nums w0 b la ln) (r : Ro b w0 W) {g : Nat} (hg : w0.heap.size ≤ g) (hne : g ≠ b) (v0 v1 v2 v3 v4 v5 : Value) :
  Src ((((((W.setCell ⟨g, 0, none⟩ v0).setCell ⟨g, 1, none⟩ v1).setCell ⟨g, 2, none⟩ v2).setCell ⟨g, 3, none⟩ v3).setCell ⟨g, 4, none⟩ v4).setCell ⟨g, 5, none⟩ v5) b la ln lc at' left ∧ Ro b w0 ((((((W.setCell ⟨g, 0, none⟩ v0).setCell ⟨g, 1, none⟩ v1).setCell ⟨g, 2, none⟩ v2).setCell ⟨g, 3, none⟩ v3).setCell ⟨g, 4, none⟩ v4).setCell ⟨g, 5, none⟩ v5) := by
 have r0 := r.setNew (p := ⟨g, 0, none⟩) hg v0;have r1 := r0.setNew (p := ⟨g, 1, none⟩) hg v1;have r2 := r1.setNew (p := ⟨g, 2, none⟩) hg v2;have r3 := r2.setNew (p := ⟨g, 3, none⟩) hg v3;have r4 := r3.setNew (p := ⟨g, 4, none⟩) hg v4;have r5 := r4.setNew (p := ⟨g, 5, none⟩) hg v5;exact ⟨(((((h.other hne (hn.ro r0)).other hne (hn.ro r1)).other hne (hn.ro r2)).other hne (hn.ro r3)).other hne (hn.ro r4)).other hne (hn.ro r5), r5⟩
def LeafV (nms : List ByteArray) (dim op a b d : Int) (s : ByteArray) : Prop :=
 (op = 2 ∧ a = 0 ∧ b = 0 ∧ d = 0 ∧ s ∈ nms) ∨ (op = 3 ∧ dim = 4 ∧ (1 ≤ a ∧ a ≤ 5) ∧ b = 1 ∧ d = 0 ∧ s = ⟨#[]⟩) ∨ (op = 1 ∧ NumV a b ∧ d = dim ∧ s = ⟨#[]⟩)
def LeafRes (bk : Nat) (la : Option Addr) (ln lc : Nat) (at' : Int) (nms : List ByteArray) (dim : Int) (w : World) (e : Ending) (w' : World) : Prop :=
 ∃ (op a b d : Int) (s : ByteArray) (at2 left2 : Int), e = .returned (.agg #[.int .i64 op, .int .i64 a, .int .i64 b, .int .i64 d, .string s, .slice none 0 0]) ∧ LeafV nms dim op a b d s ∧ at2 ≤ at' + 4 ∧ Src w' bk la ln lc at2 left2 ∧ Ro bk w w'
set_option maxRecDepth 20000 in
theorem leafN_any (bk : Nat) (la : Option Addr) (ln lc : Nat) (at' left dim : Int) (ea : Option Addr) (ke ecap : Nat) (nm : Nat → ByteArray) (dm : Nat → Int) (w : World) (hS : Src w bk la ln lc at' left) (hE : EnvB w bk ke nm dm ea) (ha : at' ≤ 3999999999999990000) (hd1 : ¬ dim = 1) :
  Calls Tryz.prog 122 #[.pointer (some ⟨bk, 0, none⟩), .int .i64 dim, .slice ea ke ecap] w (LeafRes bk la ln lc at' (nmsL nm dm dim ke) dim w) := by
 unfold LeafRes;have hat2 := Hj (show at' + 1 + 2 ≤ at' + 4 by omega);have HS := Hj hS;have HE := Hj hE;have hlt := hS.lt;have a0 := hS.at0;have c2 := hS.c2;have f2 := hS.f2;have l0 := hS.l0;have l1 := hS.l1;have hke := hE.le;have e1 : (dim == 1) = false := by rw [zn]; exact hd1
 clear hS hE hd1;go_enter Tryz.func122, Tryz.ntmps122;go_wp2_with fail;have hL0 : -9223372036854775808 ≤ wrap64 (left - 1) := by unfold wrap64; omega
 have hL1 : wrap64 (left - 1) ≤ 9223372036854775807 := by unfold wrap64; omega
 obtain ⟨L, hL⟩ : ∃ L, wrap64 (left - 1) = L := ⟨_, rfl⟩;rw [hL] at hL0 hL1 ⊢;have S0 := Hj ((HS.out.setLeft L hL0 hL1).rel ((Rel.refl _).alloc (.cells #[.int .i64 0, .int .i64 0, .int .i64 0, .int .i64 0, .string ⟨#[]⟩, .slice none 0 0] 63)));have R0 := Hj ((((Ro.refl bk w).set 2 (.int .i64 L))).alloc (.cells #[.int .i64 0, .int .i64 0, .int .i64 0, .int .i64 0, .string ⟨#[]⟩, .slice none 0 0] 63));clear hL;refine (inputs_any dim _).mono ?_;unfold InpRes;rintro e w1 ⟨v1, rfl, hO1, h1⟩;have hO1' : w1.ownsRow (w.heap.size + 1) 9 1 v1 (nmsL nm dm dim 0).length (strL (nmsL nm dm dim 0)) := by simpa [World.setCell, nmsL] using hO1
 have O1 := Hj hO1';clear hO1 hO1';have kq0 := keep6 h1 (b := w.heap.size) (by first | (simp; done) | (simp; omega) | omega);have kz1 := h1.size;(try simp only [zsa, zsc, zsd] at kz1);have H1 := Hj h1;clear h1;have hi3 : (Tryz.prog.info? 9).map (fun i => (i.zero, i.size, i.bytes)) = some (some (.string ByteArray.empty), 1, 16) := by kernel_rfl
 obtain ⟨i0, hi, hx⟩ := Option.map_eq_some_iff.1 hi3;simp only [Prod.mk.injEq] at hx;obtain ⟨hz0, hz1, hz2⟩ := hx;have HI := Hj hi;have HZ0 := Hj hz0;have HZ1 := Hj hz1;have HZ2 := Hj hz2;clear hi3 hi hz0 hz1 hz2;go_wp2_with fail
 go_loopw [8, 9] (fun v i wx => ∃ (k : Nat) (vv : Value), vv = v ∧ k ≤ ke ∧ i = .int .i64 k ∧ Hid (wx.ownsRow (w.heap.size + 1) 9 1 vv (nmsL nm dm dim k).length (strL (nmsL nm dm dim k))) ∧ Hid (Rel ((w.setCell ⟨bk, 2, none⟩ (.int .i64 L)).alloc (.cells #[.int .i64 0, .int .i64 0, .int .i64 0, .int .i64 0, .string ⟨#[]⟩, .slice none 0 0] 63)) wx)) (fun _ i _ => ke - (intOf i).toNat)
 case atStart => exact ⟨0, _, rfl, by omega, rfl, O1, H1.out⟩
 case round =>
  obtain ⟨k, vv, rfl, hk, rfl, hO, hR⟩ := hrel;have hR2 := hR.out;have kq1 := keep6 hR2 (b := w.heap.size) (by first | (simp; done) | (simp; omega) | omega);have kz2 := hR2.size;(try simp only [zsa, zsc, zsd] at kz2);have H2 := Hj hR2;clear hR2;have SR := Hj (S0.out.rel hR.out);have RR := Hj (R0.out.trans (Ro.of hR.out));have hll := nmsL_len nm dm dim k;by_cases hlt' : k < ke
  ·obtain ⟨g, off, rfl, hg, hgb, hc⟩ := (HE.out.ro RR.out).at' (by omega);obtain ⟨q0, q1, -, -, -⟩ := hc k hlt';have sz := hR.out.size;simp [World.setCell] at sz;clear hc;by_cases hd : dm k = dim
   ·have hs : nmsL nm dm dim (k + 1) = nmsL nm dm dim k ++ [nm k] := by simp only [nmsL]; rw [if_pos hd]
    have HSs := Hj hs;rw [hd] at q1;have O2 := Hj (own_rel hO.out ((Rel.refl wr).alloc (.cells #[.string (nm k)] 9)));clear hs hd
    go_wp2_with (at_builtin; refine wpList_append_own _ rfl _ _ 80 rfl (w.heap.size + 1) 9 i0 (.string ByteArray.empty) 1 16 Tryz.underlying80 HI.out HZ0.out HZ1.out HZ2.out rfl (by decide) vv (nmsL nm dm dim k).length (strL (nmsL nm dm dim k)) rfl O2.out ⟨wr.heap.size, 0, none⟩ 1 1 [.string (nm k)] rfl rfl ?c1 ?c2 ?c3 ?c4 ?c5 ?_)
    case c1 => exact new1c wr (.string (nm k)) 9
    case c2 => intro u hu; simp at hu; subst hu; rfl
    case c3 => unfold maxLen; omega
    case c4 => omega
    case c5 => simp; omega
    intro v' w4 hown' hgrow _
    have R4 : Hid (Rel ((w.setCell ⟨bk, 2, none⟩ (.int .i64 L)).alloc (.cells #[.int .i64 0, .int .i64 0, .int .i64 0, .int .i64 0, .string ⟨#[]⟩, .slice none 0 0] 63)) w4) := by
     show Rel _ w4
     exact Below.grown (hR.out.alloc _) hgrow (by simp; omega) (fun q hq => by have := (hO.out.lt q hq).1; simpa [World.setCell] using this)
    have O4 : Hid (w4.ownsRow (w.heap.size + 1) 9 1 v' (nmsL nm dm dim (k + 1)).length (strL (nmsL nm dm dim (k + 1)))) := by
     show World.ownsRow _ _ _ _ _ _ _
     rw [HSs.out, strL_snoc, List.length_append]; exact hown'
    clear hown' hgrow;go_wp2
    go_roundw
    case rel => exact ⟨k + 1, v', rfl, by omega, by go_num, O4, R4⟩
    case measure => simp [intOf]; omega
   ·have hs : nmsL nm dm dim (k + 1) = nmsL nm dm dim k := by simp only [nmsL]; rw [if_neg hd]
    have fd : (dm k == dim) = false := by rw [zn]; exact hd
    have HSs := Hj hs;clear hs hd;go_wp2
    go_roundw
    case rel => exact ⟨k + 1, vv, rfl, by omega, by go_num, by show World.ownsRow _ _ _ _ _ _ _; rw [HSs.out]; exact hO.out, hR⟩
    case measure => simp [intOf]; omega
  ·have : k = ke := by omega
   subst this;obtain ⟨NL, hNL⟩ : ∃ NL, nmsL nm dm dim k = NL := ⟨_, rfl⟩;rw [hNL] at hO hll;have HNL := Hj hNL;clear hNL
   obtain ⟨va, vc, rfl⟩ : ∃ (a : Option Addr) (c : Nat), vv = .slice a NL.length c := by
    rcases hO.out.2 with ⟨e, h0⟩ | ⟨g, cap, cur, e, -⟩
    ·exact ⟨none, 0, by rw [e, h0]⟩
    ·exact ⟨_, _, e⟩
   obtain ⟨n, hn⟩ : ∃ n, NL.length = n := ⟨_, rfl⟩;rw [hn] at hO hll ⊢;have n3 : IntKind.i64.wrap ((n : Int) + 3) = (n : Int) + 3 := IntWalk.i64_in _ ⟨by omega, by omega⟩;have hbw : w.heap.size ≠ bk := by omega
   have sz := hR.out.size;simp [World.setCell] at sz;go_wp2_with fail;refine (next_any bk la ln lc at' L ((n : Int) + 3) _ SR.out (by omega) (by omega) (by omega)).mono ?_;rintro e w4 ⟨v, rfl, v0, v1, hS4, h4⟩;have S4 := Hj hS4;have R4 := Hj (RR.out.trans h4);clear hS4;obtain ⟨j, rfl⟩ := Int.eq_ofNat_of_zero_le v0;have kq2 := keepr6 h4 (b := w.heap.size) (by first | (simp; done) | (simp; omega) | omega) (by first | (simp; done) | (simp; omega) | omega);have kz4 := h4.size;(try simp only [zsa, zsc, zsd] at kz4);have H4 := Hj h4;clear h4;by_cases hj : j < n
   ·obtain ⟨g, cap, hv, hgb, hgl, hc1, hc2, hcs⟩ := own_some hO.out (by omega);simp only [Value.slice.injEq] at hv;obtain ⟨rfl, -, rfl⟩ := hv;obtain ⟨t, ht⟩ : ∃ t, NL[j]? = some t := ⟨_, List.getElem?_eq_getElem (by omega)⟩
    have hmem : Hid (t ∈ nmsL nm dm dim k) := by
     show _ ∈ _
     rw [HNL.out]; exact List.mem_of_getElem? ht
    have ct : w4.cell? ⟨g, j, none⟩ = some (.string t) := H4.out.cell hgl (by omega) (hcs j _ (by unfold strL; rw [List.getElem?_map, ht]; rfl));have bj : decide ((j : Int) < (n : Int)) = true := dT (by omega);clear hcs ht;go_wp2;have hp := put6 S4.out HS.out.nums R4.out (Nat.le_refl w.heap.size) hbw (.int .i64 2) (.int .i64 0) (.int .i64 0) (.int .i64 0) (.string t) (.slice none 0 0);obtain ⟨g0, g1, g2, g3, g4, g5⟩ : G6 ((((((w4.setCell ⟨w.heap.size, 0, none⟩ (.int .i64 2)).setCell ⟨w.heap.size, 1, none⟩ (.int .i64 0)).setCell ⟨w.heap.size, 2, none⟩ (.int .i64 0)).setCell ⟨w.heap.size, 3, none⟩ (.int .i64 0)).setCell ⟨w.heap.size, 4, none⟩ (.string t)).setCell ⟨w.heap.size, 5, none⟩ (.slice none 0 0)) (w.heap.size) (.int .i64 2) (.int .i64 0) (.int .i64 0) (.int .i64 0) (.string t) (.slice none 0 0) := ⟨by go_simp, by go_simp, by go_simp, by go_simp, by go_simp, by go_simp⟩;refine bodyPost_ret (v := .agg #[.int .i64 2, .int .i64 0, .int .i64 0, .int .i64 0, .string t, .slice none 0 0]) ?_ rfl ⟨2, 0, 0, 0, t, _, _, rfl, (.inl ⟨rfl, rfl, rfl, rfl, hmem.out⟩), (by omega), hp.1, hp.2⟩;simp [results, Tryz.results122, go_sem, g0, g1, g2, g3, g4, g5]
   ·have bj : decide ((j : Int) < (n : Int)) = false := dF (by omega);by_cases h4' : dim = 4 ∧ j = n
    ·obtain ⟨rfl, rfl⟩ := h4';go_wp2_with fail;refine (next_any bk la ln lc (at' + 1) L 5 _ S4.out (by omega) (by decide) (by decide)).mono ?_;rintro e w5 ⟨u, rfl, u0, u1, hS5, h5⟩;have S5 := Hj hS5;have R5 := Hj (R4.out.trans h5);have u3 : IntKind.i64.wrap (1 + u) = 1 + u := IntWalk.i64_in _ ⟨by omega, by omega⟩;clear hS5;have kq3 := keepr6 h5 (b := w.heap.size) (by first | (simp; done) | (simp; omega) | omega) (by first | (simp; done) | (simp; omega) | omega);have kz5 := h5.size;(try simp only [zsa, zsc, zsd] at kz5);have H5 := Hj h5;clear h5;go_wp2;have hp := put6 S5.out HS.out.nums R5.out (Nat.le_refl w.heap.size) hbw (.int .i64 3) (.int .i64 (1 + u)) (.int .i64 1) (.int .i64 0) (.string ⟨#[]⟩) (.slice none 0 0);obtain ⟨g0, g1, g2, g3, g4, g5⟩ : G6 ((((((w5.setCell ⟨w.heap.size, 0, none⟩ (.int .i64 3)).setCell ⟨w.heap.size, 1, none⟩ (.int .i64 (1 + u))).setCell ⟨w.heap.size, 2, none⟩ (.int .i64 1)).setCell ⟨w.heap.size, 3, none⟩ (.int .i64 0)).setCell ⟨w.heap.size, 4, none⟩ (.string ⟨#[]⟩)).setCell ⟨w.heap.size, 5, none⟩ (.slice none 0 0)) (w.heap.size) (.int .i64 3) (.int .i64 (1 + u)) (.int .i64 1) (.int .i64 0) (.string ⟨#[]⟩) (.slice none 0 0) := ⟨by go_simp, by go_simp, by go_simp, by go_simp, by go_simp, by go_simp⟩;refine bodyPost_ret (v := .agg #[.int .i64 3, .int .i64 (1 + u), .int .i64 1, .int .i64 0, .string ⟨#[]⟩, .slice none 0 0]) ?_ rfl ⟨3, (1 + u), 1, 0, ⟨#[]⟩, _, _, rfl, (.inr (.inl ⟨rfl, rfl, ⟨by omega, by omega⟩, rfl, rfl, rfl⟩)), (by omega), hp.1, hp.2⟩;simp [results, Tryz.results122, go_sem, g0, g1, g2, g3, g4, g5]
    ·have FIN : Hid (∀ w5 : World, True → True) := fun _ _ => trivial
     by_cases hd4 : dim = 4
     ·subst hd4;have fj : ((j : Int) == (n : Int)) = false := by rw [zn]; omega
      go_wp2_with fail;refine (mnumber_any bk la ln lc (at' + 1) L _ S4.out (by omega)).mono ?_;rintro e w5 ⟨N, D, rfl, hND, hS5, h5⟩;have S5 := Hj hS5;have HND := Hj hND;have R5 := Hj (R4.out.trans h5);clear hS5 hND h4';have kq4 := keepr6 h5 (b := w.heap.size) (by first | (simp; done) | (simp; omega) | omega) (by first | (simp; done) | (simp; omega) | omega);have kz5 := h5.size;(try simp only [zsa, zsc, zsd] at kz5);have H5 := Hj h5;clear h5;go_wp2;have hp := put6 S5.out HS.out.nums R5.out (Nat.le_refl w.heap.size) hbw (.int .i64 1) (.int .i64 N) (.int .i64 D) (.int .i64 4) (.string ⟨#[]⟩) (.slice none 0 0);obtain ⟨g0, g1, g2, g3, g4, g5⟩ : G6 ((((((w5.setCell ⟨w.heap.size, 0, none⟩ (.int .i64 1)).setCell ⟨w.heap.size, 1, none⟩ (.int .i64 N)).setCell ⟨w.heap.size, 2, none⟩ (.int .i64 D)).setCell ⟨w.heap.size, 3, none⟩ (.int .i64 4)).setCell ⟨w.heap.size, 4, none⟩ (.string ⟨#[]⟩)).setCell ⟨w.heap.size, 5, none⟩ (.slice none 0 0)) (w.heap.size) (.int .i64 1) (.int .i64 N) (.int .i64 D) (.int .i64 4) (.string ⟨#[]⟩) (.slice none 0 0) := ⟨by go_simp, by go_simp, by go_simp, by go_simp, by go_simp, by go_simp⟩;refine bodyPost_ret (v := .agg #[.int .i64 1, .int .i64 N, .int .i64 D, .int .i64 4, .string ⟨#[]⟩, .slice none 0 0]) ?_ rfl ⟨1, N, D, 4, ⟨#[]⟩, _, _, rfl, (.inr (.inr ⟨rfl, HND.out, rfl, rfl⟩)), hat2.out, hp.1, hp.2⟩;simp [results, Tryz.results122, go_sem, g0, g1, g2, g3, g4, g5]
     ·have ed4 : (dim == 4) = false := by rw [zn]; exact hd4
      go_wp2_with fail;refine (mnumber_any bk la ln lc (at' + 1) L _ S4.out (by omega)).mono ?_;rintro e w5 ⟨N, D, rfl, hND, hS5, h5⟩;have S5 := Hj hS5;have HND := Hj hND;have R5 := Hj (R4.out.trans h5);clear hS5 hND h4' hd4;have kq5 := keepr6 h5 (b := w.heap.size) (by first | (simp; done) | (simp; omega) | omega) (by first | (simp; done) | (simp; omega) | omega);have kz5 := h5.size;(try simp only [zsa, zsc, zsd] at kz5);have H5 := Hj h5;clear h5;go_wp2;have hp := put6 S5.out HS.out.nums R5.out (Nat.le_refl w.heap.size) hbw (.int .i64 1) (.int .i64 N) (.int .i64 D) (.int .i64 dim) (.string ⟨#[]⟩) (.slice none 0 0);obtain ⟨g0, g1, g2, g3, g4, g5⟩ : G6 ((((((w5.setCell ⟨w.heap.size, 0, none⟩ (.int .i64 1)).setCell ⟨w.heap.size, 1, none⟩ (.int .i64 N)).setCell ⟨w.heap.size, 2, none⟩ (.int .i64 D)).setCell ⟨w.heap.size, 3, none⟩ (.int .i64 dim)).setCell ⟨w.heap.size, 4, none⟩ (.string ⟨#[]⟩)).setCell ⟨w.heap.size, 5, none⟩ (.slice none 0 0)) (w.heap.size) (.int .i64 1) (.int .i64 N) (.int .i64 D) (.int .i64 dim) (.string ⟨#[]⟩) (.slice none 0 0) := ⟨by go_simp, by go_simp, by go_simp, by go_simp, by go_simp, by go_simp⟩;refine bodyPost_ret (v := .agg #[.int .i64 1, .int .i64 N, .int .i64 D, .int .i64 dim, .string ⟨#[]⟩, .slice none 0 0]) ?_ rfl ⟨1, N, D, dim, ⟨#[]⟩, _, _, rfl, (.inr (.inr ⟨rfl, HND.out, rfl, rfl⟩)), hat2.out, hp.1, hp.2⟩;simp [results, Tryz.results122, go_sem, g0, g1, g2, g3, g4, g5]
end Go.Proofs.YtojghojlapgbiaaGreatDoor
namespace Go.Proofs.YtojghojlapgbiaaGreatDoor
set_option maxHeartbeats 16000000
open Go.RowKit Cal Str Tok Frac Txt Tree
set_option linter.unusedVariables false
set_option linter.unusedSimpArgs false
def ExKidsB (P : Nat → Prop) : Ex → World → Value → Prop
 | .no, _, _ => False
 | .mk op a b d s n kid, w, x => I64s op a b d s ∧ n ≤ 17592186044416 ∧ ∃ (ad : Option Addr) (cap : Nat), x = .slice ad n cap ∧ (0 < n → ∃ g off, ad = some ⟨g, off, none⟩ ∧ g < w.heap.size ∧ P g ∧ ∀ i, i < n → ∃ xi, Six w g (off + i * 6) (kid i).op (kid i).va (kid i).vb (kid i).dm (kid i).nm xi ∧ ExKidsB P (kid i) w xi)
theorem kidsB_to {P : Nat → Prop} {t : Ex} : ∀ {w : World} {x : Value}, ExKidsB P t w x → ExKids t w x := by
 induction t with
 | no => intro w x h; exact h.elim
 | mk op a b d s n kid ih =>
  intro w x h;obtain ⟨h1, h2, ad, cap, rfl, hk⟩ := h;refine ⟨h1, h2, ad, cap, rfl, fun h0 => ?_⟩;obtain ⟨g, off, rfl, hg, -, hc⟩ := hk h0;refine ⟨g, off, rfl, hg, fun i hi => ?_⟩;obtain ⟨xi, hs, hx⟩ := hc i hi;exact ⟨xi, hs, ih i hx⟩
theorem kidsB_keep {P Q : Nat → Prop} {w w' : World} (hs : w.heap.size ≤ w'.heap.size) (hb : ∀ g, g < w.heap.size → P g → w'.heap[g]? = w.heap[g]? ∧ Q g) {t : Ex} : ∀ {x : Value}, ExKidsB P t w x → ExKidsB Q t w' x := by
 induction t with
 | no => intro x h; exact h.elim
 | mk op a b d s n kid ih =>
  intro x h;obtain ⟨h1, h2, ad, cap, rfl, hk⟩ := h;refine ⟨h1, h2, ad, cap, rfl, fun h0 => ?_⟩;obtain ⟨g, off, rfl, hg, hp, hc⟩ := hk h0;obtain ⟨e, hq⟩ := hb g hg hp;have E : ∀ o, w'.cell? ⟨g, o, none⟩ = w.cell? ⟨g, o, none⟩ := fun o => World.cell?_of_block e
  refine ⟨g, off, rfl, Nat.lt_of_lt_of_le hg hs, hq, fun i hi => ?_⟩;obtain ⟨xi, h6, hx⟩ := hc i hi;exact ⟨xi, ⟨(E _).trans h6.c0, (E _).trans h6.c1, (E _).trans h6.c2, (E _).trans h6.c3, (E _).trans h6.c4, (E _).trans h6.c5⟩, ih i hx⟩
/-! Rows of trees -/
def cel (p : Ex × Value) : List Value := [.int .i64 p.1.op, .int .i64 p.1.va, .int .i64 p.1.vb, .int .i64 p.1.dm, .string p.1.nm, p.2]
def celL : List (Ex × Value) → List Value
 | [] => []
 | p :: L => cel p ++ celL L
theorem celL_snoc (L : List (Ex × Value)) (p : Ex × Value) : celL (L ++ [p]) = celL L ++ cel p := by
 induction L with
 | nil => simp [celL]
 | cons q L ih => simp only [List.cons_append, celL, ih, List.append_assoc]
theorem cel_len (p : Ex × Value) : (cel p).length = 6 := rfl
theorem celL_at {p : Ex × Value} {j : Nat} (hj : j < 6) : ∀ {L : List (Ex × Value)} {i : Nat}, L[i]? = some p → (celL L)[i * 6 + j]? = (cel p)[j]? := by
 intro L
 induction L with
 | nil => intro i h; simp at h
 | cons q L ih =>
  intro i h
  cases i with
  | zero =>
   simp at h; subst h;simp only [celL]
   rw [List.getElem?_append_left (by rw [cel_len]; omega)]; simp
  | succ i =>
   simp only [List.getElem?_cons_succ] at h;simp only [celL];rw [List.getElem?_append_right (by rw [cel_len]; omega), cel_len, show (i + 1) * 6 + j - 6 = i * 6 + j by omega];exact ih h
def kidL (L : List (Ex × Value)) (i : Nat) : Ex := ((L[i]?).map Prod.fst).getD .no
theorem kidL_at {L : List (Ex × Value)} {i : Nat} {p : Ex × Value} (h : L[i]? = some p) : kidL L i = p.1 := by unfold kidL; rw [h]; rfl
theorem row_kids {P : Nat → Prop} {w : World} {g cap : Nat} {L : List (Ex × Value)} {op a b d : Int} {s : ByteArray} (h1 : I64s op a b d s) (hl : L.length ≤ 1000) (hr : ∀ j u, (celL L)[j]? = some u → w.cell? ⟨g, j, none⟩ = some u) (hg : g < w.heap.size) (hP : P g)
  (hk : ∀ (i : Nat) (p : Ex × Value), L[i]? = some p → ExKidsB P p.1 w p.2) : ExKidsB P (.mk op a b d s L.length (kidL L)) w (.slice (some ⟨g, 0, none⟩) L.length cap) := by
 refine ⟨h1, by omega, _, _, rfl, fun _ => ⟨g, 0, rfl, hg, hP, fun i hi => ?_⟩⟩;obtain ⟨p, hp⟩ : ∃ p, L[i]? = some p := ⟨_, List.getElem?_eq_getElem hi⟩;rw [kidL_at hp];have A : ∀ j u, j < 6 → (cel p)[j]? = some u → w.cell? ⟨g, 0 + i * 6 + j, none⟩ = some u := fun j u hj hu => hr _ _ (by rw [Nat.zero_add, celL_at hj hp]; exact hu)
 exact ⟨p.2, ⟨A 0 _ (by omega) rfl, A 1 _ (by omega) rfl, A 2 _ (by omega) rfl, A 3 _ (by omega) rfl, A 4 _ (by omega) rfl, A 5 _ (by omega) rfl⟩, hk i p hp⟩
theorem smK_mul {f : Nat → Int} {B : Int} : ∀ {n : Nat}, (∀ i, i < n → f i ≤ B) → smK f n ≤ n * B := by
 intro n
 induction n with
 | zero => intro _; simp [smK]
 | succ n ih =>
  intro h;have h1 := ih (fun i hi => h i (by omega));have h2 := h n (by omega);have h3 : ((n + 1 : Nat) : Int) * B = (n : Int) * B + B := by rw [Int.natCast_add, Int.add_mul]; simp
  simp only [smK];omega
theorem own_ro {b : Nat} {w w' : World} {base : Nat} {e : TypeId} {size : Nat} {v : Value} {n : Nat} {xs : List Value} (h : w.ownsRow base e size v n xs) (r : Ro b w w') (hb : b < base) : w'.ownsRow base e size v n xs := by
 refine ⟨h.1, ?_⟩
 rcases h.2 with h2 | ⟨g, cap, cur, h3, h4, h5, h6⟩
 ·exact .inl h2
 ·have hg : g < w.heap.size := by
   rcases Nat.lt_or_ge g w.heap.size with hlt | hge
   ·exact hlt
   ·rw [Array.getElem?_eq_none hge] at h5; cases h5
  exact .inr ⟨g, cap, cur, h3, h4, (r.block g hg (by omega)).trans h5, h6⟩
theorem Ro.grown {b : Nat} {w x y : World} {row : Option Nat} (h : Ro b w x) (g : x.grownBy y row) (hr : ∀ q, row = some q → w.heap.size ≤ q) : Ro b w y :=
 ⟨g.os.trans h.os, g.tape.trans h.tape, g.output.trans h.output, Nat.le_trans h.size g.size, fun k hk hb => (g.block k (Nat.lt_of_lt_of_le hk h.size) (fun e => by have := hr k e.symm; omega)).trans (h.block k hk hb)⟩
theorem Src.grown {w x y : World} {b : Nat} {la : Option Addr} {ln lc : Nat} {at' left : Int} {row : Option Nat} (h : Src x b la ln lc at' left) (hn : Nums w b la ln) (r : Ro b w y) (g : x.grownBy y row) (hr : some b ≠ row) : Src y b la ln lc at' left :=
 ⟨Nat.lt_of_lt_of_le h.lt g.size, (g.cell_far _ h.lt hr).trans h.c0, (g.cell_far _ h.lt hr).trans h.c1, (g.cell_far _ h.lt hr).trans h.c2, (g.frozen_far _ h.lt hr).trans h.f1, (g.frozen_far _ h.lt hr).trans h.f2, hn.ro r, h.at0, h.l0, h.l1⟩
/-! Boxes of six cells -/
structure BoxAt (w : World) (g : Nat) (v0 v1 v2 v3 v4 v5 : Value) : Prop where
 lt : g < w.heap.size
 c0 : w.cell? ⟨g, 0, none⟩ = some v0
 c1 : w.cell? ⟨g, 1, none⟩ = some v1
 c2 : w.cell? ⟨g, 2, none⟩ = some v2
 c3 : w.cell? ⟨g, 3, none⟩ = some v3
 c4 : w.cell? ⟨g, 4, none⟩ = some v4
 c5 : w.cell? ⟨g, 5, none⟩ = some v5
 f0 : w.frozen? ⟨g, 0, none⟩ = false
 f1 : w.frozen? ⟨g, 1, none⟩ = false
 f2 : w.frozen? ⟨g, 2, none⟩ = false
 f3 : w.frozen? ⟨g, 3, none⟩ = false
 f4 : w.frozen? ⟨g, 4, none⟩ = false
 f5 : w.frozen? ⟨g, 5, none⟩ = false
theorem BoxAt.keep {w w' : World} {g : Nat} {v0 v1 v2 v3 v4 v5 : Value} (h : BoxAt w g v0 v1 v2 v3 v4 v5) (hs : w.heap.size ≤ w'.heap.size) (e : w'.heap[g]? = w.heap[g]?) : BoxAt w' g v0 v1 v2 v3 v4 v5 :=
 have E : ∀ o, w'.cell? ⟨g, o, none⟩ = w.cell? ⟨g, o, none⟩ := fun o => World.cell?_of_block e
 have Z : ∀ o, w'.frozen? ⟨g, o, none⟩ = w.frozen? ⟨g, o, none⟩ := fun o => World.frozen?_of_block e
 ⟨Nat.lt_of_lt_of_le h.lt hs, (E _).trans h.c0, (E _).trans h.c1, (E _).trans h.c2, (E _).trans h.c3, (E _).trans h.c4, (E _).trans h.c5, (Z _).trans h.f0, (Z _).trans h.f1, (Z _).trans h.f2, (Z _).trans h.f3, (Z _).trans h.f4, (Z _).trans h.f5⟩
theorem BoxAt.new {w : World} {g : Nat} (hg : g = w.heap.size) (v0 v1 v2 v3 v4 v5 : Value) (T : TypeId) : BoxAt (w.alloc (.cells #[v0, v1, v2, v3, v4, v5] T)) g v0 v1 v2 v3 v4 v5 := by
 subst hg
 constructor <;> simp
theorem BoxAt.ro {w w' : World} {b g : Nat} {v0 v1 v2 v3 v4 v5 : Value} (h : BoxAt w g v0 v1 v2 v3 v4 v5) (r : Ro b w w') (hne : g ≠ b) : BoxAt w' g v0 v1 v2 v3 v4 v5 := h.keep r.size (r.block g h.lt hne)
theorem BoxAt.rel {w w' : World} {g : Nat} {v0 v1 v2 v3 v4 v5 : Value} (h : BoxAt w g v0 v1 v2 v3 v4 v5) (r : Rel w w') : BoxAt w' g v0 v1 v2 v3 v4 v5 := h.keep (Below.size r) (Below.block r g h.lt)
theorem BoxAt.grown {w w' : World} {g : Nat} {row : Option Nat} {v0 v1 v2 v3 v4 v5 : Value} (h : BoxAt w g v0 v1 v2 v3 v4 v5) (r : w.grownBy w' row) (hne : some g ≠ row) : BoxAt w' g v0 v1 v2 v3 v4 v5 := h.keep r.size (r.block g h.lt hne)
theorem BoxAt.other {w : World} {g p : Nat} {v0 v1 v2 v3 v4 v5 : Value} (h : BoxAt w g v0 v1 v2 v3 v4 v5) (hne : g ≠ p) (i : Nat) (u : Value) : BoxAt (w.setCell ⟨p, i, none⟩ u) g v0 v1 v2 v3 v4 v5 := h.keep (by simp [World.setCell]) (Below.heap_setCell _ _ _ _ hne)
theorem BoxAt.set5 {w : World} {g : Nat} {v0 v1 v2 v3 v4 v5 : Value} (h : BoxAt w g v0 v1 v2 v3 v4 v5) (u : Value) : BoxAt (w.setCell ⟨g, 5, none⟩ u) g v0 v1 v2 v3 v4 u :=
 ⟨by simpa [World.setCell] using h.lt, (World.cell?_setCell_other _ _ _ _ (by simp)).trans h.c0, (World.cell?_setCell_other _ _ _ _ (by simp)).trans h.c1, (World.cell?_setCell_other _ _ _ _ (by simp)).trans h.c2, (World.cell?_setCell_other _ _ _ _ (by simp)).trans h.c3, (World.cell?_setCell_other _ _ _ _ (by simp)).trans h.c4, World.cell?_setCell_same _ _ _ h.c5,
  by rw [World.frozen?_setCell]; exact h.f0, by rw [World.frozen?_setCell]; exact h.f1, by rw [World.frozen?_setCell]; exact h.f2, by rw [World.frozen?_setCell]; exact h.f3, by rw [World.frozen?_setCell]; exact h.f4, by rw [World.frozen?_setCell]; exact h.f5⟩
theorem kids_step {b base box g n cap : Nat} {wr w5 w6 : World} {o : Obj} {rv u : Value} {L : List (Ex × Value)} {p : Ex × Value} {G : Int} (h5 : Ro b wr w5) (hg : (w5.alloc o).grownBy w6 rv.ownBlock) (hb : b < base) (hbox : box < base) (hrv : ∀ q, rv.ownBlock = some q → q < wr.heap.size) (hat : rv.ownBlock = some g ∨ g = w5.heap.size + 1) (hbr : base ≤ wr.heap.size)
  (hK : ∀ (i : Nat) (p : Ex × Value), L[i]? = some p → ExKidsB (fun q => base ≤ q ∧ rv.ownBlock ≠ some q) p.1 wr p.2 ∧ p.1.size ≤ G) (hp : ExKidsB (fun q => wr.heap.size ≤ q) p.1 w5 p.2) (hpG : p.1.size ≤ G) :
  ∀ (i : Nat) (p' : Ex × Value), (L ++ [p])[i]? = some p' → ExKidsB (fun q => base ≤ q ∧ Value.ownBlock (.slice (some ⟨g, 0, none⟩) n cap) ≠ some q) p'.1 (w6.setCell ⟨box, 5, none⟩ u) p'.2 ∧ p'.1.size ≤ G := by
 have hs6 : w5.heap.size + 1 ≤ w6.heap.size := by have := hg.size; simpa using this
 have hss : (w6.setCell ⟨box, 5, none⟩ u).heap.size = w6.heap.size := by simp [World.setCell]
 have key : ∀ q, q < w5.heap.size → base ≤ q → rv.ownBlock ≠ some q → (w6.setCell ⟨box, 5, none⟩ u).heap[q]? = w5.heap[q]? := fun q hq hbq hne => by
  rw [Below.heap_setCell _ _ _ _ (by simp; omega), hg.block q (by simp; omega) (fun e => hne e.symm)];exact Below.block ((Rel.refl w5).alloc o) q hq
 have newP : ∀ q, q < w5.heap.size → rv.ownBlock ≠ some q → Value.ownBlock (.slice (some ⟨g, 0, none⟩) n cap) ≠ some q := fun q hq hne => by
  intro e;simp [Value.ownBlock] at e
  rcases hat with hat | hat
  ·exact hne (by rw [hat, e])
  ·omega
 intro i p' hi;by_cases hlt : i < L.length
 ·rw [List.getElem?_append_left hlt] at hi;obtain ⟨h1, h2⟩ := hK i p' hi;refine ⟨kidsB_keep (by have := h5.size; omega) (fun q hq hpq => ?_) h1, h2⟩;have hq5 : q < w5.heap.size := Nat.lt_of_lt_of_le hq h5.size;exact ⟨(key q hq5 hpq.1 hpq.2).trans (h5.block q hq (by omega)), hpq.1, newP q hq5 hpq.2⟩
 ·rw [List.getElem?_append_right (by omega)] at hi
  have hi0 : i - L.length = 0 := by
   by_cases e : i - L.length = 0
   ·exact e
   ·rw [List.getElem?_eq_none (by simp; omega)] at hi; cases hi
  rw [hi0] at hi;simp at hi;subst hi;refine ⟨kidsB_keep (by omega) (fun q hq hpq => ?_) hp, hpG⟩;have hne : rv.ownBlock ≠ some q := fun e => by have := hrv q e; omega
  exact ⟨key q hq (by omega) hne, by omega, newP q hq hne⟩
theorem kids_fin {base r g k cap w0 : Nat} {T : TypeId} {wr : World} {L : List (Ex × Value)} {op G : Int} (hk : L.length = k) (hk4 : k ≤ 4) (h0 : 0 < k) (hop : 4 ≤ op ∧ op ≤ 21) (hO : wr.ownsRow base T 6 (.slice (some ⟨g, 0, none⟩) k cap) k (celL L)) (hr : r < base) (hw : w0 ≤ base)
  (hK : ∀ (i : Nat) (p : Ex × Value), L[i]? = some p → ExKidsB (fun q => base ≤ q ∧ Value.ownBlock (.slice (some ⟨g, 0, none⟩) k cap) ≠ some q) p.1 wr p.2 ∧ p.1.size ≤ G) (v0 v1 v2 v3 v4 v5 : Value) :
  ExKidsB (fun q => w0 ≤ q) (.mk op 0 0 0 ⟨#[]⟩ k (kidL L)) ((((((wr.setCell ⟨r, 0, none⟩ v0).setCell ⟨r, 1, none⟩ v1).setCell ⟨r, 2, none⟩ v2).setCell ⟨r, 3, none⟩ v3).setCell ⟨r, 4, none⟩ v4).setCell ⟨r, 5, none⟩ v5) (.slice (some ⟨g, 0, none⟩) k cap) := by
 subst hk;obtain ⟨hgb, hgl⟩ := hO.lt g rfl
 have h1 : ExKidsB (fun q => base ≤ q) (.mk op 0 0 0 ⟨#[]⟩ L.length (kidL L)) wr (.slice (some ⟨g, 0, none⟩) L.length cap) :=
  row_kids ⟨by omega, by omega, by decide, by decide, by decide, by decide, by decide, by decide, by decide⟩ (by omega) (fun j u hu => by
   have h2 := hO.cells (g := g) rfl j u hu
   have hadd : (⟨g, 0, none⟩ : Addr).add j = ⟨g, j, none⟩ := by unfold Addr.add; split <;> simp_all
   rwa [hadd] at h2) hgl hgb (fun i p hp => kidsB_keep (Nat.le_refl _) (fun q _ hq => ⟨rfl, hq.1⟩) (hK i p hp).1)
 refine kidsB_keep (by simp [World.setCell]) (fun q hq hp => ⟨?_, by omega⟩) h1;have hne : q ≠ r := by omega
 rw [Below.heap_setCell _ _ _ _ hne, Below.heap_setCell _ _ _ _ hne, Below.heap_setCell _ _ _ _ hne, Below.heap_setCell _ _ _ _ hne, Below.heap_setCell _ _ _ _ hne, Below.heap_setCell _ _ _ _ hne]
theorem fin_size {k : Nat} {L : List (Ex × Value)} {op G : Int} (hk : L.length = k) (hk4 : k ≤ 4) (hG : 1 ≤ G) (hK : ∀ (i : Nat) (p : Ex × Value), L[i]? = some p → p.1.size ≤ G) : (Ex.mk op 0 0 0 ⟨#[]⟩ k (kidL L)).size ≤ 5 * G := by
 subst hk;rw [size_mk]
 have h := smK_mul (f := fun i => (kidL L i).size) (B := G) (n := L.length) (fun i hi => by
  obtain ⟨p, hp⟩ : ∃ p, L[i]? = some p := ⟨_, List.getElem?_eq_getElem hi⟩;show (kidL L i).size ≤ G
  rw [kidL_at hp]; exact hK i p hp)
 have h4 : (L.length : Int) * G ≤ 4 * G := Int.mul_le_mul_of_nonneg_right (by omega) (by omega);omega
theorem new6 (w : World) (p : Ex × Value) (T : TypeId) : ∀ (j : Nat) u, (cel p)[j]? = some u → (w.alloc (.cells #[.int .i64 p.1.op, .int .i64 p.1.va, .int .i64 p.1.vb, .int .i64 p.1.dm, .string p.1.nm, p.2] T)).cell? ((⟨w.heap.size, 0, none⟩ : Addr).add j) = some u := by
 intro j u h
 have hj : j < 6 := by
  rcases Nat.lt_or_ge j 6 with hlt | hge
  ·exact hlt
  ·rw [List.getElem?_eq_none (by rw [cel_len]; omega)] at h; cases h
 rcases (show j = 0 ∨ j = 1 ∨ j = 2 ∨ j = 3 ∨ j = 4 ∨ j = 5 by omega) with rfl | rfl | rfl | rfl | rfl | rfl <;> (simp [cel] at h; subst h; simp [Addr.add])
theorem leaf_tree {P : Nat → Prop} {w : World} {op a b d : Int} {s : ByteArray} (h : I64s op a b d s) : ExKidsB P (.mk op a b d s 0 (fun _ => .no)) w (.slice none 0 0) := ⟨h, by omega, none, 0, rfl, fun h0 => by omega⟩
theorem leafV_i64 {nm : Nat → ByteArray} {dm : Nat → Int} {ke : Nat} {dim op a b d : Int} {s : ByteArray} (hd : 1 ≤ dim ∧ dim ≤ 4) (hn : ∀ i, i < ke → (nm i).size ≤ 140737488355328) (h : LeafV (nmsL nm dm dim ke) dim op a b d s) : I64s op a b d s := by
 rcases h with ⟨rfl, rfl, rfl, rfl, h⟩ | ⟨rfl, -, h, rfl, rfl, rfl⟩ | ⟨rfl, ⟨n, k, -, -, -, rfl, rfl⟩, rfl, rfl⟩
 ·have hs : s.size ≤ 140737488355328 := by
   rcases nmsL_mem h with ⟨h, -⟩ | ⟨i, hi, rfl, -⟩
   ·have := namL_size h; omega
   ·exact hn i hi
  exact ⟨by decide, by decide, by decide, by decide, by decide, by decide, by decide, by decide, hs⟩
 ·exact ⟨by decide, by decide, by omega, by omega, by decide, by decide, by decide, by decide, by decide⟩
 ·have := mk_bd n k;exact ⟨by decide, by decide, by omega, by omega, by omega, by omega, by omega, by omega, by decide⟩
end Go.Proofs.YtojghojlapgbiaaGreatDoor
namespace Go.Proofs.YtojghojlapgbiaaGreatDoor
set_option maxHeartbeats 16000000
open Go.ChangeShapes Go.WideShapes Go.ChangeAt Go.RowKit Go.Deep
set_option linter.unusedVariables false
section
variable {H : Type} {enc : TypeId × Value → H} {w : World} {base : Nat} {spare : Nat → Bool} {held : Bool}
def Light (P : Program) (t : TypeId) (d : DataW H) : Prop := ∀ n ∈ d.weights P t, n ≤ reachBytes
theorem light_all {P : Program} {e : TypeId} {l : List (DataW H)} {d : DataW H} (hd : d ∈ l) {n : Nat} (hn : n ∈ d.weights P e) : n ∈ DataW.weightsAll P e l := by
 induction l with
 | nil => cases hd
 | cons x l ih =>
  simp only [DataW.weightsAll, List.mem_append]
  rcases List.mem_cons.1 hd with rfl | h
  ·exact .inl hn
  ·exact .inr (ih h)
theorem light_slice {P : Program} {t e : TypeId} {l r : List (DataW H)} (h : Light P t (.slice l r)) (hu : P.underlying t = some (.slice e)) : (l.length + r.length) * P.bytesOf e ≤ reachBytes ∧ ∀ d ∈ l, Light P e d := by
 have hw : (DataW.slice l r).weights P t = (l.length + r.length) * P.bytesOf e :: (DataW.weightsAll P e l ++ DataW.weightsAll P e r) := by
  simp only [DataW.weights, hu]
 unfold Light at h;rw [hw] at h;exact ⟨h _ (List.mem_cons_self ..), fun d hd n hn => h n (List.mem_cons_of_mem _ (List.mem_append_left _ (light_all hd hn)))⟩
theorem light_field {P : Program} {t : TypeId} {fs : Array Field} {l : List (DataW H)} (h : Light P t (.agg l)) (hu : P.underlying t = some (.struct fs)) {j : Nat} {f : Field} {d : DataW H} (hf : fs[j]? = some f) (hd : l[j]? = some d) : Light P f.type d := by
 have hw : (DataW.agg l).weights P t = DataW.weightsEach P (fs.toList.map (·.type)) l := by
  simp only [DataW.weights, hu]
 unfold Light at h;rw [hw] at h;exact fun n hn => h n (DataW.weights_mem_each (j := j) (t := f.type) (by simp [hf]) hd n hn)
theorem light_each {P : Program} {ts : List TypeId} {ds : List (DataW H)} (h : (DataW.weightsEach P ts ds).all (· ≤ reachBytes) = true) {j : Nat} {t : TypeId} {d : DataW H} (ht : ts[j]? = some t) (hd : ds[j]? = some d) : Light P t d := fun n hn => by
 simpa using List.all_eq_true.1 h n (DataW.weights_mem_each ht hd n hn)
theorem slice_fields {P : Program} {t e : TypeId} {fs : Array Field} {fuel : Nat} {cs : List Value} {x : DataW H × List MemPlace} (ht : P.underlying t = some (.slice e)) (he : P.underlying e = some (.struct fs))
  (hone : oneCellFields P fs = true) (hC : P.cellsOf e = fs.size) (h : DataW.trod enc P w base spare held fuel t cs = some x) :
  (cs = [.slice none 0 0] ∧ x = (.nil, [])) ∨
  ∃ (a : Addr) (len cap m : Nat) (D : Nat → DataW H) (Pl : Nat → List MemPlace), cs = [.slice (some a) len cap] ∧ base ≤ a.block ∧ len ≤ cap ∧ cap ≤ maxLen ∧ m = (if spare a.block then cap else len) ∧
   x = (.slice ((List.range len).map D) ((List.range (m - len)).map fun j => D (len + j)), MemPlace.row a (m * fs.size) ++ (List.range m).flatMap Pl) ∧
   ∀ i, i < m → ∃ (ys : List (DataW H × List MemPlace)) (n : Nat), D i = .agg (ys.map (·.1)) ∧ Pl i = ys.flatMap (·.2) ∧ ys.length = fs.size ∧
    ∀ (j : Nat) (f : Field), fs[j]? = some f → ∃ (v : Value) (y : DataW H × List MemPlace), w.cell? (a.add (i * fs.size + j)) = some v ∧ ys[j]? = some y ∧ DataW.trod enc P w base spare held n f.type [v] = some y := by
 rcases open_slice ht h with h0 | ⟨a, len, cap, m, n, D, Pl, hcs, hb, hl, hm, hmm, hx, hi⟩
 ·exact .inl h0
 ·refine .inr ⟨a, len, cap, m, D, Pl, hcs, hb, hl, hm, hmm, by rw [hC] at hx; exact hx, fun i him => ?_⟩;obtain ⟨cs', hc, ht'⟩ := hi i him;rw [hC] at hc;obtain ⟨ys, n', hn', hy, hlen, hyl, hf⟩ := DataW.trod_struct he ht';obtain ⟨_, hcl, hat⟩ := World.cells?_some hc;simp only [Prod.mk.injEq] at hy;refine ⟨ys, n', hy.1, hy.2, hyl, fun j f hj => ?_⟩;obtain ⟨ho, hk⟩ := hone_of hone j f hj;have hjl : j < fs.size := (Array.getElem?_eq_some_iff.1 hj).1;have hcell := hat j hjl;have hv : cs'[j]? = some (cs'[j]'(by omega)) := List.getElem?_eq_getElem (by omega);have h1 := hf j f hj;rw [ho, hk] at h1
  have hone' : (cs'.drop j).take 1 = [cs'[j]'(by omega)] := by
   rw [List.drop_eq_getElem_cons (by omega)];rfl
  rw [hone'] at h1;have hys : ys[j]? = some (ys[j]'(by omega)) := List.getElem?_eq_getElem (by omega);refine ⟨_, _, ?_, hys, h1.trans hys⟩;rw [← Go.Deep.add_add, hcell, hv]
theorem plain_addr {w : World} {a : Addr} {v : Value} (h : w.cell? (a.add 0) = some v) : a = ⟨a.block, a.off, none⟩ ∧ a.block < w.heap.size := by
 obtain ⟨b, off, spot⟩ := a;have hspot : spot = none := by simpa [Addr.add] using World.cell?_spot h
 subst hspot;rw [add_plain] at h;exact ⟨rfl, World.block_lt_of_cell? w ⟨b, off + 0, none⟩ h⟩
/-! Integers -/
theorem open_ints_in {fuel : Nat} {cs : List Value} {x : DataW H × List MemPlace} (h : DataW.trod enc Tryz.prog w base spare held fuel 57 cs = some x) (hl : Light Tryz.prog 57 x.1) : ∃ (v : Value) (n : Nat), cs = [v] ∧ IntsIn w v n := by
 have cellsInt : Tryz.prog.cellsOf 3 = 1 := by kernel_rfl
 have bytesInt : Tryz.prog.bytesOf 3 = 8 := by kernel_rfl
 rcases open_ints Tryz.underlying57 Tryz.underlying3 cellsInt h with ⟨rfl, rfl⟩ | ⟨a, len, cap, zs, rfl, _, hlc, hm, hz, rfl, hcell, hwz⟩
 ·exact ⟨_, 0, rfl, _, _, rfl, by omega, fun h => by omega⟩
 ·have hlz : len ≤ zs.length := by rw [hz]; split <;> omega
  have hreach := (light_slice hl Tryz.underlying57).1;rw [bytesInt] at hreach;simp only [lits, List.length_map, List.length_take, List.length_drop, reachBytes] at hreach;refine ⟨_, len, rfl, _, _, rfl, by omega, fun h0 => ?_⟩;obtain ⟨ha, hlt⟩ := plain_addr (hcell 0 (by omega));refine ⟨a.block, a.off, zs, by rw [← ha], hlt, fun i hi => ?_⟩;have hc := hcell i (by omega);rw [ha, add_plain] at hc
  have hw := hwz (zs.getD i 0) (by
   have : zs.getD i 0 = zs[i]'(by omega) := by simp [List.getD, show i < zs.length by omega]
   rw [this]; exact List.getElem_mem _)
  exact ⟨hc, (bounds_i64 hw).1, (bounds_i64 hw).2⟩
end
end Go.Proofs.YtojghojlapgbiaaGreatDoor

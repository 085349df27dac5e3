/- Lemmas, each as it is printed; no conditions but those printed. -/
import Derived.Test.YtojghojlapgbiaaGreatDoorWB32
import Derived.Test.YtojghojlapgbiaaGreatDoorWB25
import Derived.Test.YtojghojlapgbiaaGreatDoorWB37
namespace Go.Proofs.YtojghojlapgbiaaGreatDoor
set_option maxHeartbeats 16000000
open Go.RowKit Cal Str Tok Frac Txt Tree
attribute [local go_sem] calmUpon
set_option linter.unusedVariables false
set_option linter.unusedSimpArgs false
theorem Prs.eq {W Z : World} {b G : Nat} {tk : List Tk} {E : Int} {s : Pt} (h : Prs W b G tk E s) (hs : W.heap.size ≤ Z.heap.size) (hb : Z.heap[b]? = W.heap[b]?) (hG : tk = [] ∨ Z.heap[G]? = W.heap[G]?) : Prs Z b G tk E s := by
 obtain ⟨ad, cap, h1, h2, h3⟩ := h.tok;have oc : ∀ j, Z.cell? ⟨b, j, none⟩ = W.cell? ⟨b, j, none⟩ := fun j => World.cell?_of_block hb
 have of : ∀ j, Z.frozen? ⟨b, j, none⟩ = W.frozen? ⟨b, j, none⟩ := fun j => World.frozen?_of_block hb
 have tk2 : Toks Z b G tk := by
  rcases h.toks with e | ⟨hg, hne, hc⟩
  ·exact .inl e
  ·rcases hG with e | e
   ·exact .inl e
   ·exact .inr ⟨Nat.lt_of_lt_of_le hg hs, hne, fun i t ht => ⟨(World.cell?_of_block e).trans (hc i t ht).1, (World.cell?_of_block e).trans (hc i t ht).2.1, (World.cell?_of_block e).trans (hc i t ht).2.2⟩⟩
 exact ⟨Nat.lt_of_lt_of_le h.lt hs, h.le, ⟨ad, cap, (oc 0).trans h1, h2, h3⟩, tk2, (oc 1).trans h.c1, (oc 2).trans h.c2, (oc 3).trans h.c3, (of 0).trans h.f0, (of 2).trans h.f2, (of 3).trans h.f3⟩
theorem ClS.o8 {b BO N : Nat} {w0 W w8 : World} {m : VerM} {row : Option Nat} (h : ClS b w0 W BO N m) (hg : W.grownBy w8 row) (hrow : ∀ q, row = some q → BO + 1 ≤ q) : Blk w8 BO 36 (verC m) := h.o.grown hg (fun e => by have := hrow _ e.symm; omega)
theorem new_cells2 (w : World) (c : Array Value) (T : TypeId) {g : Nat} (hg : g = w.heap.size) : ∀ (j : Nat) u, c.toList[j]? = some u → (w.alloc (.cells c T)).cell? ((⟨g, 0, none⟩ : Addr).add j) = some u := by
 subst hg;intro j u h
 have hadd : (⟨w.heap.size, 0, none⟩ : Addr).add j = ⟨w.heap.size, j, none⟩ := by unfold Addr.add; split <;> simp_all
 rw [hadd];exact (Blk.new w T c).c h
section
variable {tk : List Tk} {v : Ver} {s : Pt}
end
end Go.Proofs.YtojghojlapgbiaaGreatDoor

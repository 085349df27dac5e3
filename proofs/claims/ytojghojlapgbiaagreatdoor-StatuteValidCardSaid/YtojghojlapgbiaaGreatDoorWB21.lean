/- Lemmas, each as it is printed; no conditions but those printed. -/
import Derived.Test.YtojghojlapgbiaaGreatDoorWB17
namespace Go.Proofs.YtojghojlapgbiaaGreatDoor
set_option maxHeartbeats 16000000
open Go.RowKit Cal Str Tok Frac Txt Tree
attribute [local go_sem] calmUpon
set_option linter.unusedVariables false
set_option linter.unusedSimpArgs false
structure LetsAt (w : World) (ad : Option Addr) (L : List (ByteArray × (Ex × Value))) : Prop where
 n : L.length ≤ 100000
 r : RowB (fun _ => True) w ad (L.flatMap leC)
 b : ∀ p ∈ L, LeB (fun _ => True) w p
theorem LetsAt.rel {w w' : World} {ad : Option Addr} {L : List (ByteArray × (Ex × Value))} (h : LetsAt w ad L) (r : Rel w w') : LetsAt w' ad L :=
 ⟨h.n, h.r.keep (Below.size r) (fun q hq hp => ⟨Below.block r q hq, hp⟩), fun p hp => ⟨(h.b p hp).1, (h.b p hp).2.rel r⟩⟩
theorem new_cells2 (w : World) (c : Array Value) (T : TypeId) {g : Nat} (hg : g = w.heap.size) : ∀ (j : Nat) u, c.toList[j]? = some u → (w.alloc (.cells c T)).cell? ((⟨g, 0, none⟩ : Addr).add j) = some u := by
 subst hg;intro j u h
 have hadd : (⟨w.heap.size, 0, none⟩ : Addr).add j = ⟨w.heap.size, j, none⟩ := by unfold Addr.add; split <;> simp_all
 rw [hadd];exact (Blk.new w T c).c h
end Go.Proofs.YtojghojlapgbiaaGreatDoor

/- Contracts of awake, pieces and text of the laws on tokens. No conditions but those printed. -/
import Derived.Test.YtfdajdlbkdfhoaaDoorTokJ
namespace Go.Proofs.YtfdajdlbkdfhoaaDoor
open Go.RowKit Cal Str Tok Frac
attribute [local go_sem] calmUpon
set_option linter.unusedVariables false
set_option linter.unusedSimpArgs false

theorem awR : allR ⟨#[97, 60, 61, 49, 46, 53, 48, 109, 32, 35, 32, 120]⟩ = ([⟨1, ⟨#[97]⟩, 0⟩, ⟨4, ⟨#[60, 61]⟩, 1⟩, ⟨2, ⟨#[49, 46, 53, 48, 109]⟩, 3⟩], 0, 0) := by kernel_rfl

/-- A row that is owned and not empty. -/
theorem own_some {w : World} {base : Nat} {e : TypeId} {size : Nat} {v : Value} {n : Nat} {xs : List Value} (h : w.ownsRow base e size v n xs) (hn : 0 < n) : ∃ g cap, v = .slice (some ⟨g, 0, none⟩) n cap ∧ base ≤ g ∧ g < w.heap.size ∧ n ≤ cap ∧ cap ≤ maxLen ∧ ∀ (j : Nat) u, xs[j]? = some u → w.cell? ⟨g, j, none⟩ = some u := by
  have h0' := h
  rcases h.2 with ⟨_, h0⟩ | ⟨g, cap, cur, rfl, hb, hg, h1, h2, _, _⟩
  · omega
  · refine ⟨g, cap, rfl, hb, (Array.getElem?_eq_some_iff.1 hg).1, h1, h2, fun j u hu => ?_⟩
    have := h0'.cells (g := g) rfl j u hu
    have e : (⟨g, 0, none⟩ : Addr).add j = ⟨g, j, none⟩ := by unfold Addr.add; split <;> simp_all
    rwa [e] at this

set_option maxHeartbeats 4000000 in
theorem tawake_any (w : World) : Calls Tryd.prog 10 #[] w (BRes true w) := by
  have A := Lib.hid fun w => All_any ⟨#[97, 60, 61, 49, 46, 53, 48, 109, 32, 35, 32, 120]⟩ w (by decide)
  go_enter Tryd.func10, Tryd.ntmps10
  go_wp2_with fail
  with_reducible refine (A.out _).mono ?_
  unfold AllRes
  rw [awR]
  rintro e w1 ⟨v, rfl, h1, ho⟩
  obtain ⟨g, cap, rfl, hb, hg, hcap, hcm, hc⟩ := own_some ho (by decide)
  have c6 : w1.cell? ⟨g, 6, none⟩ = some (.int .i64 2) := hc 6 _ rfl
  have c7 : w1.cell? ⟨g, 7, none⟩ = some (.string ⟨#[49, 46, 53, 48, 109]⟩) := hc 7 _ rfl
  have c8 : w1.cell? ⟨g, 8, none⟩ = some (.int .i64 3) := hc 8 _ rfl
  have H1 := Lib.hid h1
  clear hc ho h1 A
  go_wp2
  go_ret
  exact ⟨rfl, H1.out⟩

end Go.Proofs.YtfdajdlbkdfhoaaDoor

/- Lemmas, each as it is printed; no conditions but those printed. -/
import Derived.Test.YthmlhheceihcbaaGreatDoorKB20
import Derived.Test.YthmlhheceihcbaaGreatDoorKB45
import Derived.Test.YthmlhheceihcbaaGreatDoorKB40
import Derived.Deep.AppendLies
namespace Go.Proofs.YthmlhheceihcbaaGreatDoor
set_option maxHeartbeats 16000000
open Go.RowKit Cal Str Tok Frac Txt Tree Go.Proofs.Tryz
attribute [local go_sem] calmUpon
set_option linter.unusedVariables false
set_option linter.unusedSimpArgs false
section
variable {b G : Nat} {tk : List Tk} {E : Int} {w0 w : World} {s : Pt}
end
def tz (P : Program) (e : TypeId) : Option (Option Value × Nat × Nat) := (P.info? e).map fun i => (i.zero, i.size, i.bytes)
theorem wl_app {P : Program} {w W : World} {ops : Array Oper} {rest : List Oper} {o : Oper} {a : Act} {Q : Exit -> Act -> World -> Prop} {t e Ty : TypeId} {base size bytes n c g : Nat} {z v : Value} {xs : List Value} {news : Array Value} {s x : Operand}
  (ti : tz P e = some (some z, size, bytes)) (hown : w.ownsRow base e size v n xs) (hW : w = W.alloc (.cells news Ty)) (hn : n <= 100000) (hbase : base <= W.heap.size)
  (h : ∀ g2 cap w', w'.ownsRow base e size (.slice (some ⟨g2, 0, none⟩) (n + 1) cap) (n + 1) (xs ++ news.toList) -> w.grownBy w' v.ownBlock -> (v.ownBlock = some g2 \/ g2 = g + 1) -> wpList P ops Q rest (a.put o.dst (.slice (some ⟨g2, 0, none⟩) (n + 1) cap)) w')
  (hgd : o.guard = none := by rfl) (ho : o.op = .call { callee := .builtin .append, args := #[s, x], argTypes := #[t, t] } := by rfl) (ht : P.underlying t = some (.slice e) := by rfl) (hs : a.eval s = v := by rfl) (hx : a.eval x = .slice (some ⟨g, 0, none⟩) 1 c := by rfl) (hg : W.heap.size = g := by simp)
  (hl : news.toList.length = size := by rfl) (h1 : (news.toList.all fun u => u.oneCell') = true := by rfl) (hb : bytes <= 1000 := by decide) (hz : z.cells.size = size := by rfl) (hsz : 0 < size := by decide) : wpList P ops Q (o :: rest) a w := by
 obtain ⟨i, hi, hxx⟩ := Option.map_eq_some_iff.1 ti;simp only [Prod.mk.injEq] at hxx;refine wpList_append_lies w hgd s x t ho base e i z size bytes ht hi hxx.1 hxx.2.1 hxx.2.2 hz hsz v n xs hs hown ⟨g, 0, none⟩ 1 c news.toList hx (by omega) ?_ (List.all_eq_true.1 h1) (by decide) (by unfold maxLen; omega) ?_ (by subst hW; simp; omega) (g + 1) (by subst hW; simp; omega) (fun g cap w' h1 h2 h3 _ => h g cap w' h1 h2 h3)
 ·subst hW; exact new_cells2 W news Ty hg.symm
 ·have : (n + 1) * bytes <= 100001 * 1000 := Nat.mul_le_mul (by omega) hb;omega
end Go.Proofs.YthmlhheceihcbaaGreatDoor

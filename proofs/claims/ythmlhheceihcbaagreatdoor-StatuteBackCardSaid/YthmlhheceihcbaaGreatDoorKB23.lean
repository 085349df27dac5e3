/- Lemmas, each as it is printed; no conditions but those printed. -/
import Derived.Test.YthmlhheceihcbaaGreatDoorKB22
namespace Go.Proofs.YthmlhheceihcbaaGreatDoor
set_option maxHeartbeats 16000000
open Go.RowKit Cal Str Tok Frac Txt Tree Go.Proofs.Tryz
attribute [local go_sem] calmUpon
set_option linter.unusedVariables false
set_option linter.unusedSimpArgs false
structure SV (b G : Nat) (tk : List Tk) (E : Int) (wa : World) (BO N : Nat) (m : VerM) (s : Pt) (W : World) : Prop where
 X : RX b G tk E wa s W
 C : ClS b wa W BO N m
section
variable {b G : Nat} {tk : List Tk} {E : Int} {wa W Z : World} {BO N : Nat} {m : VerM} {s t : Pt}
theorem SV.via (h : SV b G tk E wa BO N m s W) (x : RX b G tk E W t Z) : SV b G tk E wa BO N m t Z := ⟨x.tr h.X.R h.X.hb h.X.hG, h.C.go x.R⟩
theorem SV.rel (h : SV b G tk E wa BO N m s W) (r : Rel W Z) : SV b G tk E wa BO N m s Z := h.via (h.X.re.rel r)
theorem SV.adv (h : SV b G tk E wa BO N m s W) (hi : s.i < tk.length) : SV b G tk E wa BO N m s.adv (W.setCell ⟨b, 1, none⟩ (.int .i64 ((s.i : Int) + 1))) := h.via (h.X.re.adv hi)
theorem SV.frm (h : SV b G tk E wa BO N m s W) {z : Int} (hz : I64 z) : SV b G tk E wa BO N { m with frm := z } s (W.setCell ⟨BO, 0, none⟩ (.int .i64 z)) := ⟨h.X.put h.C.lt _ _, h.C.put_frm hz⟩
theorem SV.mode (h : SV b G tk E wa BO N m s W) {z : Int} (hz : I64 z) : SV b G tk E wa BO N { m with mode := z } s (W.setCell ⟨BO, 1, none⟩ (.int .i64 z)) := ⟨h.X.put h.C.lt _ _, h.C.put_mode hz⟩
theorem SV.unit (h : SV b G tk E wa BO N m s W) {z : Int} (hz : I64 z) : SV b G tk E wa BO N { m with unit := z } s (W.setCell ⟨BO, 2, none⟩ (.int .i64 z)) := ⟨h.X.put h.C.lt _ _, h.C.put_unit hz⟩
end
theorem c_al2 {w : World} {f : FuncId} {ar : Array Value} {Q : Ending -> World -> Prop} {c c' : Array Value} {T T' : TypeId}
  (h : ∀ wa X, Blk wa w.heap.size T c.toList -> Rel w wa -> wa.heap.size = w.heap.size + 1 -> Blk X (w.heap.size + 1) T' c'.toList -> Rel wa X -> Calls prog f ar X Q) : Calls prog f ar ((w.alloc (.cells c T)).alloc (.cells c' T')) Q :=
 h _ _ (Blk.new w T c) ((Rel.refl w).alloc _) (World.size_alloc ..) (by have := Blk.new (w.alloc (.cells c T)) T' c'; rwa [World.size_alloc] at this) ((Rel.refl _).alloc _)
theorem wa_app {P : Program} {w W : World} {ops : Array Oper} {o : Oper} {a : Act} {K : Act -> World -> Prop} {Q : Exit -> Act -> World -> Prop} {F : Prop} {t e Ty : TypeId} {base size bytes n c g : Nat} {z v : Value} {xs : List Value} {news : Array Value} {s x : Operand}
  (ti : tz P e = some (some z, size, bytes)) (hown : w.ownsRow base e size v n xs) (r : Rel (W.alloc (.cells news Ty)) w) (hg : g = W.heap.size) (hn : n <= 100000) (hbase : base <= W.heap.size)
  (h : ∀ g2 cap w', w'.ownsRow base e size (.slice (some ⟨g2, 0, none⟩) (n + 1) cap) (n + 1) (xs ++ news.toList) -> w.grownBy w' v.ownBlock -> (v.ownBlock = some g2 \/ g2 = w.heap.size) -> K (a.put o.dst (.slice (some ⟨g2, 0, none⟩) (n + 1) cap)) w')
  (hgd : o.guard = none := by rfl) (ho : o.op = .call { callee := .builtin .append, args := #[s, x], argTypes := #[t, t] } := by rfl) (ht : P.underlying t = some (.slice e) := by rfl) (hs : a.eval s = v := by rfl) (hx : a.eval x = .slice (some ⟨g, 0, none⟩) 1 c := by rfl)
  (hl : news.toList.length = size := by rfl) (h1 : (news.toList.all fun u => u.oneCell') = true := by rfl) (hb : bytes <= 1000 := by decide) (hz : z.cells.size = size := by rfl) (hsz : 0 < size := by decide) : if Region.wanted o (yielded ops a.tmps) = true then Oper.wp P o a w K Q else F := by
 obtain ⟨i, hi, hxx⟩ := Option.map_eq_some_iff.1 ti;simp only [Prod.mk.injEq] at hxx;have hsz2 : W.heap.size + 1 <= w.heap.size := by have := r.size; rwa [World.size_alloc] at this
 refine step_append_lies w hgd s x t ho base e i z size bytes ht hi hxx.1 hxx.2.1 hxx.2.2 hz hsz v n xs hs hown ⟨g, 0, none⟩ 1 c news.toList hx (by omega) (fun j u hj => r.cell (new_cells2 W news Ty hg j u hj)) (List.all_eq_true.1 h1) (by decide) (by unfold maxLen; omega) ?_ (by omega) w.heap.size rfl (fun g cap w' h1 h2 h3 _ => h g cap w' h1 h2 h3);have : (n + 1) * bytes <= 100001 * 1000 := Nat.mul_le_mul (by omega) hb;omega
theorem ti_ver : tz prog 48 = some (some (.agg #[.int .i64 0, .int .i64 0, .int .i64 0, .slice none 0 0, .slice none 0 0, .slice none 0 0, .slice none 0 0, .slice none 0 0]), 8, 144) := by kernel_rfl
structure RS (b G : Nat) (tk : List Tk) (E : Int) (w0 : World) (s : Pt) (W : World) (g : Nat) (nm : ByteArray) (cur : Int) (L : List VerM) (va : Option Addr) (vc : Nat) : Prop where
 X : RX b G tk E w0 s W
 lt : w0.heap.size <= g
 x : Blk W g 28 [.string nm, .int .i64 cur, .slice va L.length vc]
 own : W.ownsRow (g + 1) 48 8 (.slice va L.length vc) L.length (L.flatMap verC)
 ver : s.ok = true -> ∀ m ∈ L, VerB (fun q => (g + 1 <= q /\ True) /\ OffB va q) W m
section
variable {b G g g2 cap2 H N : Nat} {tk : List Tk} {E : Int} {w0 W Z w8 w9 : World} {s t : Pt} {nm : ByteArray} {cur : Int} {L : List VerM} {va : Option Addr} {vc : Nat}
theorem RS.via (h : RS b G tk E w0 s W g nm cur L va vc) (x : RX b G tk E W t Z) (ht : t.ok = true -> s.ok = true) : RS b G tk E w0 t Z g nm cur L va vc := by
 have h1 := h.X.hb;have h2 := h.lt;exact ⟨x.tr h.X.R h.X.hb h.X.hG, h.lt, h.x.ro x.R (by omega), own_rox h.own x.R (by omega), fun hk m hm => VerB.ro (h.ver (ht hk) m hm) x.R (fun q hq => by have := hq.1.1; omega)⟩
theorem RS.rel (h : RS b G tk E w0 s W g nm cur L va vc) (r : Rel W Z) : RS b G tk E w0 s Z g nm cur L va vc := h.via (h.X.re.rel r) id
theorem RS.pc (h : RS b G tk E w0 s W g nm cur L va vc) (z : Int) : RS b G tk E w0 s (W.setCell ⟨g, 1, none⟩ (.int .i64 z)) g nm z L va vc :=
 ⟨h.X.put h.lt _ _, h.lt, h.x.set 1 _, own_set h.own (by omega) _ _, fun hk m hm => VerB.ro (h.ver hk m hm) ((Ro.refl g W).set 1 _) (fun q hq => by have := hq.1.1; omega)⟩
theorem RS.app (h : RS b G tk E w0 s W g nm cur L va vc) {m : VerM} (hm : s.ok = true -> VerB (fun q => (g + 1 <= q /\ True) /\ OffB va q) W m) (hown : w8.ownsRow (g + 1) 48 8 (.slice (some ⟨g2, 0, none⟩) (L.length + 1) cap2) (L.length + 1) (L.flatMap verC ++ verC m)) (hg : W.grownBy w8 (Value.slice va L.length vc).ownBlock) (hat : (Value.slice va L.length vc).ownBlock = some g2 \/ g2 = H) (hH : W.heap.size <= H) (r : Rel w8 w9) :
  RS b G tk E w0 s (w9.setCell ⟨g, 2, none⟩ (.slice (some ⟨g2, 0, none⟩) (L.length + 1) cap2)) g nm cur (L ++ [m]) (some ⟨g2, 0, none⟩) cap2 := by
 have hrow : ∀ q, (Value.slice va L.length vc).ownBlock = some q -> g + 1 <= q := fun q hq => (h.own.lt q hq).1
 have h2 := h.lt;have q : Ro g w9 (w9.setCell ⟨g, 2, none⟩ (.slice (some ⟨g2, 0, none⟩) (L.length + 1) cap2)) := (Ro.refl _ _).set 2 _
 have key : ∀ m', VerB (fun q => (g + 1 <= q /\ True) /\ OffB va q) W m' -> VerB (fun q => (g + 1 <= q /\ True) /\ OffB (some ⟨g2, 0, none⟩) q) (w9.setCell ⟨g, 2, none⟩ (.slice (some ⟨g2, 0, none⟩) (L.length + 1) cap2)) m' := fun m' hm' =>
  VerB.ro (VerB.rel (VerB.grown hm' hg hat hH) r) q (fun q hq => by have := hq.1.1; omega)
 refine ⟨((h.X.grown hg (fun q hq => by have := hrow q hq; omega)).rel r).put h2 _ _, h2, ?_, ?_, fun hk m' hm' => ?_⟩
 ·have h1 := ((h.x.grown hg (fun e => by have := hrow _ e.symm; omega)).rel r).set 2 (.slice (some ⟨g2, 0, none⟩) (L.length + 1) cap2);rw [List.length_append]; exact h1
 ·rw [flat_snoc, List.length_append]; exact own_set (own_rel' hown r) (by omega) _ _
 ·rcases List.mem_append.1 hm' with h1 | h1
  ·exact key m' (h.ver hk m' h1)
  ·simp at h1; subst h1; exact key _ (hm hk)
end
end Go.Proofs.YthmlhheceihcbaaGreatDoor

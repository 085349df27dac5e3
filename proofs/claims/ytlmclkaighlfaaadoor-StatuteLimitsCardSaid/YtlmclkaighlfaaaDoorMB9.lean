/- Bundle of texts: each says at its head what it proves; no conditions but those printed. -/
import Derived.Test.YtlmclkaighlfaaaDoorRows
import Derived.Test.YtlmclkaighlfaaaDoorMB5
import Derived.Lib.LaidTab
import Derived.Stop.LaidErr
import Derived.Stop.Joined
import Derived.LaidLaws
import Derived.LaidHandle
import Derived.LaidSub
import Derived.MakeChecks
import Derived.Test.YtlmclkaighlfaaaDoorMB8
import Derived.Deep.AppendLies
import Derived.Laws.OwnMore
import Derived.Test.YtlmclkaighlfaaaDoorMB7
import Derived.Test.YtlmclkaighlfaaaDoorMB0
namespace Go.Proofs.YtlmclkaighlfaaaDoor
set_option maxHeartbeats 16000000
open Go.RowKit Go.ChangeShapes
set_option linter.unusedVariables false
theorem gPow : Tryd.prog.globalNamed "internal/strconv.uint64pow10" = some 1 := by kernel_rfl
theorem gPowType : (Tryd.prog.globals[1]?).map (·.type) = some 136 := by kernel_rfl
theorem cellsU64 : Tryd.prog.cellsOf 115 = 1 := by kernel_rfl
theorem cellsPow : Tryd.prog.cellsOf 136 = 20 := by kernel_rfl
theorem plain3 (w : World) : laidMetH Tryd.prog Rows.statuteLimitsRow.laid w = laidMet Tryd.prog Rows.statuteLimitsRow.laid w := MakeChecks.laidMetH_plain _ _ _ (by kernel_rfl)
theorem tab_of {W : World} {r : List (String × DataW Unit)} (h : laidMet Tryd.prog (("internal/strconv.uint64pow10", Lib.tabData .u64 Lib.pow10Tab) :: r) W) : TabW W :=
 Lib.tabIs_of_head gPow gPowType Tryd.underlying136 Tryd.underlying115 cellsU64 cellsPow h
theorem tab3 {W : World} (h : laidMetH Tryd.prog Rows.statuteLimitsRow.laid W) : TabW W := by
 rw [plain3] at h;exact tab_of h.tail.tail
/-! ### One start that fits -/
def numsOf : DataW Unit → List Value
 | .agg l => l.map fun d => match d with | .lit (.int k n) => Value.int k n | _ => .bool false
 | _ => []
def put (cs : Array Value) : Obj → Obj
 | .cells _ t frozen => .cells cs t frozen
 | o => o
noncomputable def laidWorld (os : Os) : World :=
 let w0 := World.holding Tryd.prog os ⟨#[], #[], []⟩
 { w0 with heap := ((w0.heap.modify 2 (put (numsOf Rows.laid_math_bits_deBruijn32tab).toArray)).modify 3 (put (numsOf Rows.laid_math_bits_deBruijn64tab).toArray)).modify 1 (put (numsOf Rows.laid_internal_strconv_uint64pow10).toArray) }
theorem met3 (os : Os) (args : Array Value) : laidMetH Tryd.prog Rows.statuteLimitsRow.laid ((laidWorld os).forCall (fun _ _ => 0) ⟨#[], args, []⟩).memory := by
 rw [plain3];exact laidMet_of_run' 8 (by kernel_rfl) (by kernel_rfl)
end Go.Proofs.YtlmclkaighlfaaaDoor
namespace Go.Proofs.YtlmclkaighlfaaaDoor
set_option maxHeartbeats 16000000
open Go.RowKit Cal Str Tok Frac Txt Tree
set_option linter.unusedVariables false
set_option linter.unusedSimpArgs false
/-! Rows -/
def RowB (P : Nat → Prop) (w : World) (ad : Option Addr) (vs : List Value) : Prop := 0 < vs.length → ∃ g off, ad = some ⟨g, off, none⟩ ∧ g < w.heap.size ∧ P g ∧ ∀ m u, vs[m]? = some u → w.cell? ⟨g, off + m, none⟩ = some u
theorem RowB.keep {P Q : Nat → Prop} {w w' : World} {ad : Option Addr} {vs : List Value} (h : RowB P w ad vs) (hs : w.heap.size ≤ w'.heap.size) (hb : ∀ g, g < w.heap.size → P g → w'.heap[g]? = w.heap[g]? ∧ Q g) : RowB Q w' ad vs := fun h0 => by
 obtain ⟨g, off, e, hg, hp, hc⟩ := h h0;obtain ⟨e2, hq⟩ := hb g hg hp;exact ⟨g, off, e, Nat.lt_of_lt_of_le hg hs, hq, fun m u hu => (World.cell?_of_block e2).trans (hc m u hu)⟩
theorem RowB.nil {P : Nat → Prop} {w : World} {ad : Option Addr} : RowB P w ad [] := fun h => absurd h (by decide)
theorem flat_len {α : Type} {c : α → List Value} {d : Nat} (hc : ∀ p, (c p).length = d) (L : List α) : (L.flatMap c).length = L.length * d := by
 induction L with
 | nil => simp
 | cons p L ih => simp only [List.flatMap_cons, List.length_append, ih, hc, List.length_cons]; rw [Nat.add_mul, Nat.one_mul]; omega
theorem flat_at {α : Type} {c : α → List Value} {d : Nat} (hc : ∀ p, (c p).length = d) {j : Nat} (hj : j < d) {p : α} : ∀ {L : List α} {i : Nat}, L[i]? = some p → (L.flatMap c)[i * d + j]? = (c p)[j]? := by
 intro L
 induction L with
 | nil => intro i h; simp at h
 | cons q L ih =>
  intro i h
  cases i with
  | zero =>
   simp at h; subst h;simp only [List.flatMap_cons]
   rw [List.getElem?_append_left (by rw [hc]; omega)]; simp
  | succ i =>
   simp only [List.getElem?_cons_succ] at h;simp only [List.flatMap_cons];rw [List.getElem?_append_right (by rw [hc, Nat.add_mul]; omega), hc, show (i + 1) * d + j - d = i * d + j by rw [Nat.add_mul]; omega];exact ih h
theorem flat_snoc {α : Type} (c : α → List Value) (L : List α) (p : α) : (L ++ [p]).flatMap c = L.flatMap c ++ c p := by simp
theorem row_cell {α : Type} {c : α → List Value} {d : Nat} {w : World} {g off : Nat} {L : List α} {i : Nat} {p : α} (hr : ∀ m u, (L.flatMap c)[m]? = some u → w.cell? ⟨g, off + m, none⟩ = some u) (hc : ∀ p, (c p).length = d) (hp : L[i]? = some p) (j : Nat) (u : Value) (hu : (c p)[j]? = some u) : w.cell? ⟨g, off + i * d + j, none⟩ = some u := by
 have hj : j < d := by rw [← hc p]; exact (List.getElem?_eq_some_iff.1 hu).1
 have h := hr (i * d + j) u (by rw [flat_at hc hj hp]; exact hu)
 rwa [← Nat.add_assoc] at h
theorem flat_pos {α : Type} {c : α → List Value} {d : Nat} (hc : ∀ p, (c p).length = d) (hd : 0 < d) {L : List α} (h : 0 < L.length) : 0 < (L.flatMap c).length := by
 rw [flat_len hc]; exact Nat.mul_pos h hd
theorem get_some {α : Type} {L : List α} {i : Nat} (h : i < L.length) : ∃ p, L[i]? = some p := ⟨_, List.getElem?_eq_getElem h⟩
/-! The cells of the parts of a version -/
def I64 (z : Int) : Prop := -9223372036854775808 ≤ z ∧ z ≤ 9223372036854775807
def crC (p : Int × Int) : List Value := [.int .i64 p.1, .int .i64 p.2]
def seC (p : Int × Int × Int) : List Value := [.int .i64 p.1, .int .i64 p.2.1, .int .i64 p.2.2]
def leC (p : ByteArray × (Ex × Value)) : List Value := [.string p.1, .int .i64 p.2.1.op, .int .i64 p.2.1.va, .int .i64 p.2.1.vb, .int .i64 p.2.1.dm, .string p.2.1.nm, p.2.2]
def grC (p : Int × (Ex × Value) × (Ex × Value)) : List Value := [.int .i64 p.1, .int .i64 p.2.1.1.op, .int .i64 p.2.1.1.va, .int .i64 p.2.1.1.vb, .int .i64 p.2.1.1.dm, .string p.2.1.1.nm, p.2.1.2, .int .i64 p.2.2.1.op, .int .i64 p.2.2.1.va, .int .i64 p.2.2.1.vb, .int .i64 p.2.2.1.dm, .string p.2.2.1.nm, p.2.2.2]
def reC (p : Int × (Ex × Value)) : List Value := [.int .i64 p.1, .int .i64 p.2.1.op, .int .i64 p.2.1.va, .int .i64 p.2.1.vb, .int .i64 p.2.1.dm, .string p.2.1.nm, p.2.2]
theorem crC_len (p) : (crC p).length = 2 := rfl
theorem seC_len (p) : (seC p).length = 3 := rfl
theorem leC_len (p) : (leC p).length = 7 := rfl
theorem grC_len (p) : (grC p).length = 13 := rfl
theorem reC_len (p) : (reC p).length = 7 := rfl
structure VerM where
 frm : Int
 mode : Int
 unit : Int
 cr : List (Int × Int)
 se : List (Int × Int × Int)
 le : List (ByteArray × (Ex × Value))
 gr : List (Int × (Ex × Value) × (Ex × Value))
 re : List (Int × (Ex × Value))
 ca : Option Addr
 sa : Option Addr
 la : Option Addr
 ga : Option Addr
 ra : Option Addr
 cc : Nat
 sc : Nat
 lc : Nat
 gc : Nat
 rc : Nat
def VerM.val (m : VerM) : Value := .agg #[.int .i64 m.frm, .int .i64 m.mode, .int .i64 m.unit, .slice m.ca m.cr.length m.cc, .slice m.sa m.se.length m.sc, .slice m.la m.le.length m.lc, .slice m.ga m.gr.length m.gc, .slice m.ra m.re.length m.rc]
def verC (m : VerM) : List Value := [.int .i64 m.frm, .int .i64 m.mode, .int .i64 m.unit, .slice m.ca m.cr.length m.cc, .slice m.sa m.se.length m.sc, .slice m.la m.le.length m.lc, .slice m.ga m.gr.length m.gc, .slice m.ra m.re.length m.rc]
theorem verC_len (m) : (verC m).length = 8 := rfl
def TxB (P : Nat → Prop) (w : World) (q : Ex × Value) : Prop := ExKidsB P q.1 w q.2 ∧ q.1.size ≤ 1000000000
theorem TxB.keep {P Q : Nat → Prop} {w w' : World} {q : Ex × Value} (h : TxB P w q) (hs : w.heap.size ≤ w'.heap.size) (hb : ∀ g, g < w.heap.size → P g → w'.heap[g]? = w.heap[g]? ∧ Q g) : TxB Q w' q := ⟨kidsB_keep hs hb h.1, h.2⟩
def LeB (P : Nat → Prop) (w : World) (p : ByteArray × (Ex × Value)) : Prop := p.1.size ≤ 140737488355328 ∧ TxB P w p.2
def GrB (P : Nat → Prop) (w : World) (p : Int × (Ex × Value) × (Ex × Value)) : Prop := I64 p.1 ∧ TxB P w p.2.1 ∧ TxB P w p.2.2
def ReB (P : Nat → Prop) (w : World) (p : Int × (Ex × Value)) : Prop := I64 p.1 ∧ TxB P w p.2
structure VerB (P : Nat → Prop) (w : World) (m : VerM) : Prop where
 i0 : I64 m.frm
 i1 : I64 m.mode
 i2 : I64 m.unit
 n0 : m.cr.length ≤ 100000
 n1 : m.se.length ≤ 100000
 n2 : m.le.length ≤ 100000
 n3 : m.gr.length ≤ 100000
 n4 : m.re.length ≤ 100000
 r0 : RowB P w m.ca (m.cr.flatMap crC)
 r1 : RowB P w m.sa (m.se.flatMap seC)
 r2 : RowB P w m.la (m.le.flatMap leC)
 r3 : RowB P w m.ga (m.gr.flatMap grC)
 r4 : RowB P w m.ra (m.re.flatMap reC)
 b0 : ∀ p ∈ m.cr, I64 p.1 ∧ I64 p.2
 b1 : ∀ p ∈ m.se, I64 p.1 ∧ I64 p.2.1 ∧ I64 p.2.2
 b2 : ∀ p ∈ m.le, LeB P w p
 b3 : ∀ p ∈ m.gr, GrB P w p
 b4 : ∀ p ∈ m.re, ReB P w p
 q0 : m.cr.length ≤ m.cc
 q1 : m.se.length ≤ m.sc
 q2 : m.le.length ≤ m.lc
 q3 : m.gr.length ≤ m.gc
 q4 : m.re.length ≤ m.rc
theorem VerB.keep {P Q : Nat → Prop} {w w' : World} {m : VerM} (h : VerB P w m) (hs : w.heap.size ≤ w'.heap.size) (hb : ∀ g, g < w.heap.size → P g → w'.heap[g]? = w.heap[g]? ∧ Q g) : VerB Q w' m :=
 ⟨h.i0, h.i1, h.i2, h.n0, h.n1, h.n2, h.n3, h.n4, h.r0.keep hs hb, h.r1.keep hs hb, h.r2.keep hs hb, h.r3.keep hs hb, h.r4.keep hs hb, h.b0, h.b1,
  fun p hp => ⟨(h.b2 p hp).1, (h.b2 p hp).2.keep hs hb⟩, fun p hp => ⟨(h.b3 p hp).1, (h.b3 p hp).2.1.keep hs hb, (h.b3 p hp).2.2.keep hs hb⟩, fun p hp => ⟨(h.b4 p hp).1, (h.b4 p hp).2.keep hs hb⟩, h.q0, h.q1, h.q2, h.q3, h.q4⟩
theorem VerB.rel {P : Nat → Prop} {w w' : World} {m : VerM} (h : VerB P w m) (r : Rel w w') : VerB P w' m := h.keep (Below.size r) (fun g hg hp => ⟨Below.block r g hg, hp⟩)
def VerAt (w : World) (m : VerM) : Prop := VerB (fun _ => True) w m
theorem VerB.at {P : Nat → Prop} {w : World} {m : VerM} (h : VerB P w m) : VerAt w m := VerB.keep h (Nat.le_refl _) (fun g _ _ => ⟨rfl, trivial⟩)
/-! Statutes -/
structure StaM where
 nm : ByteArray
 cur : Int
 vs : List VerM
 ad : Option Addr
 cap : Nat
def StaM.val (s : StaM) : Value := .agg #[.string s.nm, .int .i64 s.cur, .slice s.ad s.vs.length s.cap]
structure StaB (P : Nat → Prop) (w : World) (s : StaM) : Prop where
 n : s.nm.size ≤ 140737488355328
 i : I64 s.cur
 l : s.vs.length ≤ 100000
 r : RowB P w s.ad (s.vs.flatMap verC)
 b : ∀ m ∈ s.vs, VerB P w m
theorem StaB.keep {P Q : Nat → Prop} {w w' : World} {s : StaM} (h : StaB P w s) (hs : w.heap.size ≤ w'.heap.size) (hb : ∀ g, g < w.heap.size → P g → w'.heap[g]? = w.heap[g]? ∧ Q g) : StaB Q w' s :=
 ⟨h.n, h.i, h.l, h.r.keep hs hb, fun m hm => (h.b m hm).keep hs hb⟩
theorem StaB.rel {P : Nat → Prop} {w w' : World} {s : StaM} (h : StaB P w s) (r : Rel w w') : StaB P w' s := h.keep (Below.size r) (fun g hg hp => ⟨Below.block r g hg, hp⟩)
def StaAt (w : World) (s : StaM) : Prop := StaB (fun _ => True) w s
theorem StaB.at {P : Nat → Prop} {w : World} {s : StaM} (h : StaB P w s) : StaAt w s := StaB.keep h (Nat.le_refl _) (fun g _ _ => ⟨rfl, trivial⟩)
/-! What a row reads as, element by element -/
theorem row_open {P : Nat → Prop} {w : World} {ad : Option Addr} {α : Type} {c : α → List Value} {d : Nat} {L : List α} (h : RowB P w ad (L.flatMap c)) (hc : ∀ p, (c p).length = d) (hd : 0 < d) (h0 : 0 < L.length) :
  ∃ g off, ad = some ⟨g, off, none⟩ ∧ g < w.heap.size ∧ P g ∧ ∀ i p, L[i]? = some p → ∀ j u, (c p)[j]? = some u → w.cell? ⟨g, off + i * d + j, none⟩ = some u := by
 obtain ⟨g, off, e, hg, hp, hr⟩ := h (flat_pos hc hd h0);exact ⟨g, off, e, hg, hp, fun i p hi j u hu => row_cell hr hc hi j u hu⟩
theorem RowB.put {P : Nat → Prop} {w : World} {g off : Nat} {vs : List Value} (h : RowB P w (some ⟨g, off, none⟩) vs) {j : Nat} (hj : j < vs.length) (u : Value) : RowB P (w.setCell ⟨g, off + j, none⟩ u) (some ⟨g, off, none⟩) (vs.set j u) := fun h0 => by
 obtain ⟨g2, o2, e, hg, hp, hc⟩ := h (by omega);simp only [Option.some.injEq, Addr.mk.injEq] at e;obtain ⟨rfl, rfl, -⟩ := e;refine ⟨g, off, rfl, by simpa [World.setCell] using hg, hp, fun m v hv => ?_⟩;by_cases hm : m = j
 ·subst hm;rw [List.getElem?_set_self hj] at hv;cases hv
  obtain ⟨v0, h0⟩ : ∃ v, vs[m]? = some v := ⟨_, List.getElem?_eq_getElem hj⟩;exact World.cell?_setCell_same _ _ _ (hc m v0 h0)
 ·rw [List.getElem?_set_ne (fun e => hm e.symm)] at hv;rw [World.cell?_setCell_other _ _ _ _ (by intro e; injection e; omega)];exact hc m v hv
theorem RowB.other {P : Nat → Prop} {w : World} {ad : Option Addr} {vs : List Value} (h : RowB P w ad vs) {g : Nat} (hg : ∀ q, P q → q ≠ g) (i : Nat) (u : Value) : RowB P (w.setCell ⟨g, i, none⟩ u) ad vs :=
 h.keep (by simp [World.setCell]) (fun q _ hp => ⟨Below.heap_setCell _ _ _ _ (hg q hp), hp⟩)
theorem TxB.other {P : Nat → Prop} {w : World} {q : Ex × Value} (h : TxB P w q) {g : Nat} (hg : ∀ q, P q → q ≠ g) (i : Nat) (u : Value) : TxB P (w.setCell ⟨g, i, none⟩ u) q :=
 h.keep (by simp [World.setCell]) (fun q _ hp => ⟨Below.heap_setCell _ _ _ _ (hg q hp), hp⟩)
def OffB (ad : Option Addr) (q : Nat) : Prop := ∀ a, ad = some a → q ≠ a.block
structure VerI (b0 b1 b2 b3 b4 b5 : Nat) (w : World) (m : VerM) : Prop where
 i0 : I64 m.frm
 i1 : I64 m.mode
 i2 : I64 m.unit
 n0 : m.cr.length ≤ 100000
 n1 : m.se.length ≤ 100000
 n2 : m.le.length ≤ 100000
 n3 : m.gr.length ≤ 100000
 n4 : m.re.length ≤ 100000
 r0 : RowB (fun q => b0 ≤ q ∧ q < b1) w m.ca (m.cr.flatMap crC)
 r1 : RowB (fun q => b1 ≤ q ∧ q < b2) w m.sa (m.se.flatMap seC)
 r2 : RowB (fun q => b2 ≤ q ∧ q < b3) w m.la (m.le.flatMap leC)
 r3 : RowB (fun q => b3 ≤ q ∧ q < b4) w m.ga (m.gr.flatMap grC)
 r4 : RowB (fun q => b4 ≤ q ∧ q < b5) w m.ra (m.re.flatMap reC)
 b0' : ∀ p ∈ m.cr, I64 p.1 ∧ I64 p.2
 b1' : ∀ p ∈ m.se, I64 p.1 ∧ I64 p.2.1 ∧ I64 p.2.2
 b2' : ∀ p ∈ m.le, LeB (fun q => (b2 ≤ q ∧ q < b3) ∧ OffB m.la q) w p
 b3' : ∀ p ∈ m.gr, GrB (fun q => (b3 ≤ q ∧ q < b4) ∧ OffB m.ga q) w p
 b4' : ∀ p ∈ m.re, ReB (fun q => (b4 ≤ q ∧ q < b5) ∧ OffB m.ra q) w p
 o1 : b0 ≤ b1
 o2 : b1 ≤ b2
 o3 : b2 ≤ b3
 o4 : b3 ≤ b4
 o5 : b4 ≤ b5
 q0 : m.cr.length ≤ m.cc
 q1 : m.se.length ≤ m.sc
 q2 : m.le.length ≤ m.lc
 q3 : m.gr.length ≤ m.gc
 q4 : m.re.length ≤ m.rc
theorem TxB.mono {P Q : Nat → Prop} {w : World} {q : Ex × Value} (h : TxB P w q) (hb : ∀ g, P g → Q g) : TxB Q w q := h.keep (Nat.le_refl _) (fun g _ hp => ⟨rfl, hb g hp⟩)
theorem RowB.mono {P Q : Nat → Prop} {w : World} {ad : Option Addr} {vs : List Value} (h : RowB P w ad vs) (hb : ∀ g, P g → Q g) : RowB Q w ad vs := h.keep (Nat.le_refl _) (fun g _ hp => ⟨rfl, hb g hp⟩)
theorem VerI.toB {b0 b1 b2 b3 b4 b5 : Nat} {w : World} {m : VerM} (h : VerI b0 b1 b2 b3 b4 b5 w m) : VerB (fun q => b0 ≤ q) w m :=
 have o1 := h.o1
 have o2 := h.o2
 have o3 := h.o3
 have o4 := h.o4
 ⟨h.i0, h.i1, h.i2, h.n0, h.n1, h.n2, h.n3, h.n4, h.r0.mono (fun g hp => hp.1), h.r1.mono (fun g hp => Nat.le_trans o1 hp.1), h.r2.mono (fun g hp => by omega), h.r3.mono (fun g hp => by omega), h.r4.mono (fun g hp => by omega), h.b0', h.b1',
  fun p hp => ⟨(h.b2' p hp).1, (h.b2' p hp).2.mono (fun g hg => by omega)⟩, fun p hp => ⟨(h.b3' p hp).1, (h.b3' p hp).2.1.mono (fun g hg => by omega), (h.b3' p hp).2.2.mono (fun g hg => by omega)⟩, fun p hp => ⟨(h.b4' p hp).1, (h.b4' p hp).2.mono (fun g hg => by omega)⟩, h.q0, h.q1, h.q2, h.q3, h.q4⟩
theorem VerI.keep {b0 b1 b2 b3 b4 b5 : Nat} {w w' : World} {m : VerM} (h : VerI b0 b1 b2 b3 b4 b5 w m) (hs : w.heap.size ≤ w'.heap.size) (hb : ∀ g, g < w.heap.size → b0 ≤ g → g < b5 → w'.heap[g]? = w.heap[g]?) : VerI b0 b1 b2 b3 b4 b5 w' m :=
 have o1 := h.o1
 have o2 := h.o2
 have o3 := h.o3
 have o4 := h.o4
 have o5 := h.o5
 ⟨h.i0, h.i1, h.i2, h.n0, h.n1, h.n2, h.n3, h.n4, h.r0.keep hs (fun g hg hp => ⟨hb g hg (by omega) (by omega), hp⟩), h.r1.keep hs (fun g hg hp => ⟨hb g hg (by omega) (by omega), hp⟩), h.r2.keep hs (fun g hg hp => ⟨hb g hg (by omega) (by omega), hp⟩), h.r3.keep hs (fun g hg hp => ⟨hb g hg (by omega) (by omega), hp⟩), h.r4.keep hs (fun g hg hp => ⟨hb g hg (by omega) (by omega), hp⟩), h.b0', h.b1',
  fun p hp => ⟨(h.b2' p hp).1, (h.b2' p hp).2.keep hs (fun g hg hq => ⟨hb g hg (by omega) (by omega), hq⟩)⟩,
  fun p hp => ⟨(h.b3' p hp).1, (h.b3' p hp).2.1.keep hs (fun g hg hq => ⟨hb g hg (by omega) (by omega), hq⟩), (h.b3' p hp).2.2.keep hs (fun g hg hq => ⟨hb g hg (by omega) (by omega), hq⟩)⟩,
  fun p hp => ⟨(h.b4' p hp).1, (h.b4' p hp).2.keep hs (fun g hg hq => ⟨hb g hg (by omega) (by omega), hq⟩)⟩, o1, o2, o3, o4, o5, h.q0, h.q1, h.q2, h.q3, h.q4⟩
theorem own_rowB {w : World} {base d k rc : Nat} {T : TypeId} {ra : Option Addr} {vs : List Value} (h : w.ownsRow base T d (.slice ra k rc) k vs) : RowB (fun q => base ≤ q ∧ q < w.heap.size) w ra vs := fun h0 => by
 rcases h.2 with ⟨-, hn⟩ | ⟨g, cap, cur, e, hb, hg, -⟩
 ·have := h.1; rw [hn, Nat.zero_mul] at this; omega
 ·simp only [Value.slice.injEq] at e;obtain ⟨rfl, -, rfl⟩ := e
  have hl : g < w.heap.size := by
   rcases Nat.lt_or_ge g w.heap.size with hlt | hge
   ·exact hlt
   ·rw [Array.getElem?_eq_none hge] at hg; cases hg
  refine ⟨g, 0, rfl, hl, ⟨hb, hl⟩, fun m u hu => ?_⟩;have hc := h.cells (g := g) rfl m u hu
  have hadd : (⟨g, 0, none⟩ : Addr).add m = ⟨g, 0 + m, none⟩ := by unfold Addr.add; split <;> simp_all
  rwa [hadd] at hc
end Go.Proofs.YtlmclkaighlfaaaDoor
namespace Go.Proofs.YtlmclkaighlfaaaDoor
set_option maxHeartbeats 16000000
open Go.RowKit
set_option linter.unusedVariables false
def RowsIn (w : World) (v : Value) (n : Nat) : Prop := ∃ (ad : Option Addr) (cap : Nat), v = .slice ad n cap ∧ n ≤ 17592186044416 ∧ (0 < n → ∃ g off, ad = some ⟨g, off, none⟩ ∧ g < w.heap.size ∧ ∀ i, i < n → ∃ vi ni, w.cell? ⟨g, off + i, none⟩ = some vi ∧ IntsIn w vi ni)
theorem ints_rel {w w' : World} {v : Value} {n : Nat} (h : IntsIn w v n) (r : Rel w w') : IntsIn w' v n := by
 obtain ⟨a0, cap, rfl, hn, hc⟩ := h;refine ⟨a0, cap, rfl, hn, fun h0 => ?_⟩;obtain ⟨b, off, zs, rfl, hb, hz⟩ := hc h0;exact ⟨b, off, zs, rfl, Nat.lt_of_lt_of_le hb r.size, fun j hj => ⟨r.cell (hz j hj).1, (hz j hj).2⟩⟩
theorem rows_rel {w w' : World} {v : Value} {n : Nat} (h : RowsIn w v n) (r : Rel w w') : RowsIn w' v n := by
 obtain ⟨ad, cap, rfl, hn, hc⟩ := h;refine ⟨ad, cap, rfl, hn, fun h0 => ?_⟩;obtain ⟨g, off, e, hg, hz⟩ := hc h0;refine ⟨g, off, e, Nat.lt_of_lt_of_le hg r.size, fun i hi => ?_⟩;obtain ⟨vi, ni, h1, h2⟩ := hz i hi;exact ⟨vi, ni, r.cell h1, ints_rel h2 r⟩
structure RawV where
 f : Int
 m : Int
 u : Int
 t : Int
 vc : Value
 vs : Value
 vl : Value
 vi : Value
 vp : Value
 vk : Value
 nc : Nat
 ns : Nat
 nl : Nat
 ni : Nat
 np : Nat
 nk : Nat
def RawV.val (r : RawV) : Value := .agg #[.int .i64 r.f, .int .i64 r.m, .int .i64 r.u, r.vc, r.vs, r.vl, r.vi, r.vp, r.vk, .int .i64 r.t]
structure RawIn (w : World) (r : RawV) : Prop where
 f : I64 r.f
 m : I64 r.m
 u : I64 r.u
 t : I64 r.t
 c : IntsIn w r.vc r.nc
 s : IntsIn w r.vs r.ns
 l : RowsIn w r.vl r.nl
 i : RowsIn w r.vi r.ni
 p : RowsIn w r.vp r.np
 k : RowsIn w r.vk r.nk
theorem RawIn.rel {w w' : World} {r : RawV} (h : RawIn w r) (x : Rel w w') : RawIn w' r := ⟨h.f, h.m, h.u, h.t, ints_rel h.c x, ints_rel h.s x, rows_rel h.l x, rows_rel h.i x, rows_rel h.p x, rows_rel h.k x⟩
end Go.Proofs.YtlmclkaighlfaaaDoor
namespace Go.Proofs.YtlmclkaighlfaaaDoor
set_option maxHeartbeats 16000000
open Cal Str Tok Frac Txt Tree
set_option linter.unusedVariables false
structure Ver where
 frm : Int
 mode : Int
 unit : Int
 cr : List (Int × Int)
 se : List (Int × Int × Int)
 le : List (ByteArray × Ex)
 gr : List (Int × Ex × Ex)
 re : List (Int × Ex)
def VerM.pl (m : VerM) : Ver := ⟨m.frm, m.mode, m.unit, m.cr, m.se, m.le.map fun p => (p.1, p.2.1), m.gr.map fun p => (p.1, p.2.1.1, p.2.2.1), m.re.map fun p => (p.1, p.2.1)⟩
structure Sta where
 nm : ByteArray
 cur : Int
 vs : List Ver
def StaM.pl (s : StaM) : Sta := ⟨s.nm, s.cur, s.vs.map VerM.pl⟩
def bwB (lo hi z : Int) : Bool := decide (lo ≤ z) && decide (z ≤ hi)
def crV (p : Int × Int) : Bool := bwB 5 10 p.1 && bwB 0 73049 p.2
def seV (p : Int × Int × Int) : Bool := bwB 1900 2099 p.1 && (fdB p.2.1 p.2.2 2 && decide (1 ≤ p.2.1))
def leV (p : ByteArray × Ex) : Bool := namB p.1 && p.2.valid
def grV (p : Int × Ex × Ex) : Bool := bwB 1 5 p.1 && (p.2.1.valid && p.2.2.valid)
def reV (p : Int × Ex) : Bool := bwB 1 5 p.1 && p.2.valid
def Ver.valid (v : Ver) : Bool :=
 (bwB 0 73048 v.frm && (bwB 1 4 v.mode && bwB 1 100000 v.unit)) &&
 (((decide (v.cr.length ≤ 6) && decide (v.se.length ≤ 20)) && (decide (v.le.length ≤ 10) && (decide (v.gr.length ≤ 5) && decide (v.re.length ≤ 5)))) &&
 (v.cr.all crV && (v.se.all seV && (v.le.all leV && (v.gr.all grV && v.re.all reV)))))
def Sta.valid (s : Sta) : Bool := namB s.nm && (bwB 1 999 s.cur && (decide (1 ≤ s.vs.length) && (decide (s.vs.length ≤ 6) && s.vs.all Ver.valid)))
def allK {α : Type} (f : α → Bool) (L : List α) (k : Nat) : Bool := (L.take k).all f
theorem allK_succ {α : Type} {f : α → Bool} {L : List α} {k : Nat} {p : α} (h : L[k]? = some p) : allK f L (k + 1) = (allK f L k && f p) := by
 unfold allK;rw [List.take_add_one, h]; simp
theorem allK_full {α : Type} {f : α → Bool} {L : List α} {k : Nat} (h : L.length ≤ k) : allK f L k = L.all f := by unfold allK; rw [List.take_of_length_le h]
theorem allK_no {α : Type} {f : α → Bool} {L : List α} {k : Nat} {p : α} (h : L[k]? = some p) (hp : f p = false) : L.all f = false := by
 rw [List.all_eq_false]; exact ⟨p, List.mem_of_getElem? h, by simp [hp]⟩
end Go.Proofs.YtlmclkaighlfaaaDoor
namespace Go.Proofs.YtlmclkaighlfaaaDoor
set_option maxHeartbeats 16000000
open Go.RowKit Cal Str Tok Frac Txt Tree
set_option linter.unusedVariables false
set_option linter.unusedSimpArgs false
def Blk (W : World) (B : Nat) (T : TypeId) (l : List Value) : Prop := W.heap[B]? = some (.cells l.toArray T (0, 0))
section
variable {W W' : World} {B b : Nat} {T : TypeId} {l : List Value}
theorem Blk.c (h : Blk W B T l) {j : Nat} {u : Value} (hu : l[j]? = some u) : W.cell? ⟨B, j, none⟩ = some u := by
 rw [cell_of_row W B j _ T (0, 0) h]; simpa using hu
theorem Blk.f (h : Blk W B T l) (j : Nat) : W.frozen? ⟨B, j, none⟩ = false := frozen_of_row W B j _ T h
theorem Blk.lt (h : Blk W B T l) : B < W.heap.size := (Array.getElem?_eq_some_iff.1 h).1
theorem Blk.new (W : World) (T : TypeId) (c : Array Value) : Blk (W.alloc (.cells c T)) W.heap.size T c.toList := by
 unfold Blk; rw [heap_alloc_new]
theorem Blk.set (h : Blk W B T l) (j : Nat) (u : Value) : Blk (W.setCell ⟨B, j, none⟩ u) B T (l.set j u) := by
 unfold Blk;rw [heap_setCell_same W B j l.toArray T u h];simp
theorem Blk.keep (h : Blk W B T l) (e : W'.heap[B]? = W.heap[B]?) : Blk W' B T l := e.trans h
theorem Blk.ro (h : Blk W B T l) (r : Ro b W W') (hn : B ≠ b) : Blk W' B T l := h.keep (r.block B h.lt hn)
theorem Blk.rel (h : Blk W B T l) (r : Rel W W') : Blk W' B T l := h.keep (Below.block r B h.lt)
theorem Blk.alloc (h : Blk W B T l) (o : Obj) : Blk (W.alloc o) B T l := h.rel ((Rel.refl _).alloc _)
theorem Blk.other (h : Blk W B T l) (hn : B ≠ b) (i : Nat) (u : Value) : Blk (W.setCell ⟨b, i, none⟩ u) B T l := h.keep (heap_setCell_other W _ B u hn)
theorem Blk.grown {row : Option Nat} (h : Blk W B T l) (g : W.grownBy W' row) (hn : some B ≠ row) : Blk W' B T l := h.keep (g.block B h.lt hn)
end
theorem Ro.grownBy {b : Nat} {w w' : World} (r : Ro b w w') : w.grownBy w' (some b) := ⟨r.os, r.tape, r.output, r.size, fun k hk hne => r.block k hk (by rintro rfl; exact hne rfl)⟩
theorem own_rox {w w' : World} {base d k b : Nat} {T : TypeId} {v : Value} {vs : List Value} (h : w.ownsRow base T d v k vs) (r : Ro b w w') (hb : b < base) : w'.ownsRow base T d v k vs :=
 h.kept r.grownBy (by
  cases hv : v.ownBlock with
  | none => exact .inl rfl
  | some g => right; have := (h.lt g hv).1; simp; omega)
theorem own_set {w : World} {base d k n cap b : Nat} {T : TypeId} {ad : Option Addr} {vs : List Value} (h : w.ownsRow base T d (.slice ad n cap) k vs) (hb : b < base) (i : Nat) (u : Value) : (w.setCell ⟨b, i, none⟩ u).ownsRow base T d (.slice ad n cap) k vs :=
 own_rox h ((Ro.refl b w).set i u) hb
theorem own_rel' {w w' : World} {base d k : Nat} {T : TypeId} {v : Value} {vs : List Value} (h : w.ownsRow base T d v k vs) (r : Rel w w') : w'.ownsRow base T d v k vs :=
 h.kept (row := none) ⟨Below.os r, Below.tape r, Below.output r, Below.size r, fun q hq _ => Below.block r q hq⟩ (by cases hv : v.ownBlock <;> simp)
theorem own_grown {w w' : World} {base d k : Nat} {T : TypeId} {v : Value} {vs : List Value} {row : Option Nat} (h : w.ownsRow base T d v k vs) (hg : w.grownBy w' row) (hn : ∀ g, v.ownBlock = some g → row ≠ some g) : w'.ownsRow base T d v k vs :=
 h.kept hg (by
  cases hv : v.ownBlock with
  | none => exact .inl rfl
  | some g => right; exact fun e => hn g hv e.symm)
def Apart (x y : Option Addr) : Prop := ∀ a b, x = some a → y = some b → a.block ≠ b.block
theorem own_block {ad : Option Addr} {k c g : Nat} (h : (Value.slice ad k c).ownBlock = some g) : ∃ a, ad = some a ∧ a.block = g := by
 cases ad with
 | none => cases h
 | some a => exact ⟨a, rfl, by simpa [Value.ownBlock] using h⟩
theorem offB_grown {w w' : World} {ra : Option Addr} {k rc q : Nat} (hg : w.grownBy w' (Value.slice ra k rc).ownBlock) (hq : q < w.heap.size) (ho : OffB ra q) : w'.heap[q]? = w.heap[q]? :=
 hg.block q hq (fun e => by
  obtain ⟨a, ha, e2⟩ := own_block e.symm
  exact ho a ha e2.symm)
theorem offB_next {ra : Option Addr} {k rc g H q : Nat} (hat : (Value.slice ra k rc).ownBlock = some g ∨ g = H) (hq : q < H) (ho : OffB ra q) : OffB (some ⟨g, 0, none⟩) q := fun a ha => by
 cases ha
 rcases hat with e | rfl
 ·obtain ⟨a, ha, e2⟩ := own_block e;rw [← e2]; exact ho a ha
 ·simp only []; omega
theorem offB_own {w : World} {base T d k rc n : Nat} {ra : Option Addr} {vs : List Value} (h : w.ownsRow base T d (.slice ra k rc) n vs) {q : Nat} (hq : w.heap.size ≤ q) : OffB ra q := fun a ha => by
 subst ha;have := (h.lt a.block (by simp [Value.ownBlock])).2;omega
theorem TxB.grown {base : Nat} {Z : Nat → Prop} {ra : Option Addr} {k rc g H : Nat} {w w' : World} {p : Ex × Value} (h : TxB (fun q => (base ≤ q ∧ Z q) ∧ OffB ra q) w p) (hg : w.grownBy w' (Value.slice ra k rc).ownBlock) (hat : (Value.slice ra k rc).ownBlock = some g ∨ g = H) (hH : w.heap.size ≤ H) : TxB (fun q => (base ≤ q ∧ Z q) ∧ OffB (some ⟨g, 0, none⟩) q) w' p :=
 h.keep hg.size (fun q hq hp => ⟨offB_grown hg hq hp.2, hp.1, offB_next hat (by omega) hp.2⟩)
theorem TxB.ro {P : Nat → Prop} {b : Nat} {w w' : World} {p : Ex × Value} (h : TxB P w p) (r : Ro b w w') (hb : ∀ q, P q → q ≠ b) : TxB P w' p := h.keep r.size (fun q hq hp => ⟨r.block q hq (hb q hp), hp⟩)
theorem TxB.rel {P : Nat → Prop} {w w' : World} {p : Ex × Value} (h : TxB P w p) (r : Rel w w') : TxB P w' p := h.keep (Below.size r) (fun q hq hp => ⟨Below.block r q hq, hp⟩)
theorem TxB.up {n0 : Nat} {Q : Nat → Prop} {w : World} {t : Ex} {x : Value} (h : ExKidsB (fun g => n0 ≤ g) t w x) (hz : t.size ≤ 60) (hb : ∀ q, n0 ≤ q → q < w.heap.size → Q q) : TxB Q w (t, x) :=
 ⟨kidsB_keep (Nat.le_refl _) (fun g hg hp => ⟨rfl, hb g hp hg⟩) h, by show t.size ≤ _; omega⟩
theorem TxB.lt {P Q : Nat → Prop} {w : World} {p : Ex × Value} (h : TxB P w p) (hb : ∀ q, P q → q < w.heap.size → Q q) : TxB Q w p := h.keep (Nat.le_refl _) (fun g hg hp => ⟨rfl, hb g hp hg⟩)
theorem VerI.low {a b0 b1 b2 b3 b4 b5 : Nat} {w : World} {m : VerM} (h : VerI b0 b1 b2 b3 b4 b5 w m) (ha : a ≤ b0) : VerI a b1 b2 b3 b4 b5 w m :=
 { h with r0 := h.r0.mono (fun g hp => ⟨Nat.le_trans ha hp.1, hp.2⟩), o1 := Nat.le_trans ha h.o1 }
structure OfS (TV TO : TypeId) (w W : World) (BO : Nat) (raw zer l : List Value) : Prop where
 rel : Rel w W
 v : Blk W w.heap.size TV raw
 r : Blk W (w.heap.size + 1) TO zer
 o : Blk W BO TO l
 lt : w.heap.size + 2 ≤ BO
section
variable {TV TO T : TypeId} {w W0 W X Y Z : World} {BO d k n rc base : Nat} {raw zer l l' : List Value} {ra : Option Addr} {vs : List Value}
theorem OfS.go (h : OfS TV TO w W BO raw zer l) (r : Ro BO W X) (o : Blk X BO TO l') : OfS TV TO w X BO raw zer l' :=
 have lt := h.lt
 ⟨Ro.rel h.rel r (by omega), h.v.ro r (by omega), h.r.ro r (by omega), o, h.lt⟩
theorem OfS.on (h : OfS TV TO w W BO raw zer l) (r : Rel W X) : OfS TV TO w X BO raw zer l := h.go (Ro.of r) (h.o.rel r)
theorem OfS.put (h : OfS TV TO w W BO raw zer l) (i : Nat) (u : Value) : OfS TV TO w (W.setCell ⟨BO, i, none⟩ u) BO raw zer (l.set i u) := h.go ((Ro.refl BO W).set i u) (h.o.set i u)
theorem OfS.app (h : OfS TV TO w W BO raw zer l) (hO : W.ownsRow base T d (.slice ra k rc) n vs) (hb : BO < base) (r : Rel W Y) (hg : Y.grownBy Z (Value.slice ra k rc).ownBlock) : OfS TV TO w Z BO raw zer l := by
 have h2 := h.on r;have lt := h.lt;have hrow : ∀ q, (Value.slice ra k rc).ownBlock = some q → base ≤ q := fun q hq => (hO.lt q hq).1
 have bs := h2.rel.size
 exact ⟨Below.grown h2.rel hg bs (fun q hq => by have := hrow q hq; have := h.o.lt; have := h.rel.size; omega),
  h2.v.grown hg (fun e => by have := hrow _ e.symm; omega), h2.r.grown hg (fun e => by have := hrow _ e.symm; omega), h2.o.grown hg (fun e => by have := hrow _ e.symm; omega), h.lt⟩
end
section
variable {b0 b1 b2 b3 b4 b5 g : Nat} {W W' : World} {m : VerM}
theorem RowB.at' {lo hi : Nat} {T : TypeId} {d n cap : Nat} {vs' : List Value} (h : W'.ownsRow lo T d (.slice (some ⟨g, 0, none⟩) n cap) n vs') (hg : g < hi) : RowB (fun q => lo ≤ q ∧ q < hi) W' (some ⟨g, 0, none⟩) vs' := fun h0 => by
 obtain ⟨g2, off, e, h1, h2, h3⟩ := own_rowB h h0;have e2 := e;simp only [Option.some.injEq, Addr.mk.injEq] at e2;exact ⟨g2, off, e, h1, ⟨h2.1, by omega⟩, h3⟩
end
theorem VerB.grown {base : Nat} {Z : Nat → Prop} {ra : Option Addr} {k rc g H : Nat} {w w' : World} {m : VerM} (h : VerB (fun q => (base ≤ q ∧ Z q) ∧ OffB ra q) w m) (hg : w.grownBy w' (Value.slice ra k rc).ownBlock) (hat : (Value.slice ra k rc).ownBlock = some g ∨ g = H) (hH : w.heap.size ≤ H) : VerB (fun q => (base ≤ q ∧ Z q) ∧ OffB (some ⟨g, 0, none⟩) q) w' m :=
 h.keep hg.size (fun q hq hp => ⟨offB_grown hg hq hp.2, hp.1, offB_next hat (by omega) hp.2⟩)
theorem VerB.ro {P : Nat → Prop} {b : Nat} {w w' : World} {m : VerM} (h : VerB P w m) (r : Ro b w w') (hb : ∀ q, P q → q ≠ b) : VerB P w' m := h.keep r.size (fun q hq hp => ⟨r.block q hq (hb q hp), hp⟩)
theorem VerB.mono {P Q : Nat → Prop} {w : World} {m : VerM} (h : VerB P w m) (hb : ∀ q, P q → Q q) : VerB Q w m := h.keep (Nat.le_refl _) (fun q hq hp => ⟨rfl, hb q hp⟩)
theorem VerB.lt {P Q : Nat → Prop} {w : World} {m : VerM} (h : VerB P w m) (hb : ∀ q, P q → q < w.heap.size → Q q) : VerB Q w m := h.keep (Nat.le_refl _) (fun q hq hp => ⟨rfl, hb q hp hq⟩)
theorem VerB.frm {P : Nat → Prop} {w : World} {m : VerM} (h : VerB P w m) {z : Int} (hz : I64 z) : VerB P w { m with frm := z } := { h with i0 := hz }
structure StS (w W : World) (zer l : List Value) : Prop where
 rel : Rel w W
 r : Blk W w.heap.size 25 zer
 o : Blk W (w.heap.size + 1) 25 l
section
variable {w W X Y Z : World} {zer l : List Value} {T : TypeId} {base d n k rc : Nat} {ra : Option Addr} {vs : List Value}
theorem StS.on (h : StS w W zer l) (r : Rel W X) : StS w X zer l := ⟨h.rel.trans r, h.r.rel r, h.o.rel r⟩
theorem StS.put (h : StS w W zer l) (i : Nat) (u : Value) : StS w (W.setCell ⟨w.heap.size + 1, i, none⟩ u) zer (l.set i u) :=
 ⟨h.rel.setCell (p := ⟨w.heap.size + 1, i, none⟩) (by simp) u, h.r.other (by omega) i u, h.o.set i u⟩
theorem StS.app (h : StS w W zer l) (hO : W.ownsRow base T d (.slice ra k rc) n vs) (hb : w.heap.size + 1 < base) (r : Rel W Y) (hg : Y.grownBy Z (Value.slice ra k rc).ownBlock) : StS w Z zer l := by
 have h2 := h.on r;have hrow : ∀ q, (Value.slice ra k rc).ownBlock = some q → base ≤ q := fun q hq => (hO.lt q hq).1
 exact ⟨Below.grown h2.rel hg h2.rel.size (fun q hq => by have := hrow q hq; omega), h2.r.grown hg (fun e => by have := hrow _ e.symm; omega), h2.o.grown hg (fun e => by have := hrow _ e.symm; omega)⟩
end
end Go.Proofs.YtlmclkaighlfaaaDoor
namespace Go.Proofs.YtlmclkaighlfaaaDoor
set_option maxHeartbeats 16000000
open Go.RowKit
section
variable {P : Program} {ops : Array Oper} {Q : Exit → Act → World → Prop} {S : Array Bool → World → Prop} {T : Nat → Bool}
def closedB (ops : Array Oper) (L : Array Bool) : Bool := (List.range ops.size).all fun j => match ops[j]? with
 | some oj => !L.getD j false || oj.after.all fun e => !Region.binds .any e || L.getD e.on false
 | none => true
def subB (M L : Array Bool) : Bool := (List.range M.size).all fun k => !M.getD k false || L.getD k false
theorem closedB_of {L : Array Bool} (h : closedB ops L = true) : Closed .any ops L := fun j oj hj hl e he hb => by
 unfold closedB at h;rw [List.all_eq_true] at h;have hlt : j < ops.size := (Array.getElem?_eq_some_iff.1 hj).1;have h1 := h j (List.mem_range.2 hlt);rw [hj] at h1;simp only [hl, Bool.not_true, Bool.false_or] at h1;rw [Array.all_eq_true_iff_forall_mem] at h1;have := h1 e he;rw [hb] at this;simpa using this
theorem subB_of {M L : Array Bool} (h : subB M L = true) : ∀ k, M.getD k false = true → L.getD k false = true := fun k hk => by
 unfold subB at h;rw [List.all_eq_true] at h;by_cases hlt : k < M.size
 ·have := h k (List.mem_range.2 hlt);rw [hk] at this;simpa using this
 ·simp [Array.getElem?_eq_none (Nat.le_of_not_lt hlt)] at hk
theorem wpAnyR_more {M L : Array Bool} {a : Act} {w : World} (cs : List Nat) (f : Nat)
  (hB : (Region.noSelect ops && (cs.all fun i => !T i) && closedB ops L && subB M L && calmB .any ops cs L) = true)
  (hst : ∀ M w w', S M w → Rel w w' → S M w') (hS : S M w)
  (h : wpCalm P .any ops S (fun a' => wpAnyR P .any ops (NoPanic Q) S T f M (takenB cs L) a' w) cs a) : wpAnyR P .any ops (NoPanic Q) S T (f + cs.length) M L a w := by
 simp only [Bool.and_eq_true, List.all_eq_true, Bool.not_eq_true'] at hB;obtain ⟨⟨⟨⟨h1, h2⟩, h3⟩, h4⟩, h5⟩ := hB;exact wpAnyR_calms (md := .any) (T := T) h1 (fun _ _ _ _ _ h => (h : False).elim) hst f M w hS cs L a h2 (closedB_of h3) (subB_of h4) h5 h
end
end Go.Proofs.YtlmclkaighlfaaaDoor

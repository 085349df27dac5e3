/- Lemmas, each as it is printed; no conditions but those printed. -/
import Derived.Test.YthmlhheceihcbaaGreatDoorRows
import Derived.Lib.LaidTab
import Derived.Stop.LaidErr
import Derived.Stop.Joined
import Derived.LaidLaws
import Derived.LaidHandle
import Derived.LaidSub
import Derived.MakeChecks
import Derived.Deep.AppendLies
import Derived.Test.YthmlhheceihcbaaGreatDoorKB9
namespace Go.Proofs.YthmlhheceihcbaaGreatDoor
set_option maxHeartbeats 16000000
open Go.RowKit Go.ChangeShapes Go.Proofs.Tryz
set_option linter.unusedVariables false
theorem gPow : prog.globalNamed "internal/strconv.uint64pow10" = some 1 := by kernel_rfl
theorem gPowType : (prog.globals[1]?).map (·.type) = some 203 := by kernel_rfl
theorem cellsU64 : prog.cellsOf 148 = 1 := by kernel_rfl
theorem cellsPow : prog.cellsOf 203 = 20 := by kernel_rfl
theorem plain3 (w : World) : laidMetH prog Rows.statuteBackRow.laid w = laidMet prog Rows.statuteParsesRow.laid w := MakeChecks.laidMetH_plain _ _ _ (by kernel_rfl)
theorem tab_of {W : World} {r : List (String × DataW Unit)} (h : laidMet prog (("internal/strconv.uint64pow10", Lib.tabData .u64 Lib.pow10Tab) :: r) W) : TabW W :=
 Lib.tabIs_of_head gPow gPowType underlying203 underlying148 cellsU64 cellsPow h
theorem tab3 {W : World} (h : laidMetH prog Rows.statuteBackRow.laid W) : TabW W := by
 rw [plain3] at h;exact tab_of h.tail.tail
/-! ### One start that fits -/
def numsOf : DataW Unit -> List Value
 | .agg l => l.map fun d => match d with | .lit (.int k n) => Value.int k n | _ => .bool false
 | _ => []
def put (cs : Array Value) : Obj -> Obj
 | .cells _ t frozen => .cells cs t frozen
 | o => o
noncomputable def laidWorld (os : Os) : World :=
 let w0 := World.holding prog os ⟨#[], #[], []⟩
 { w0 with heap := ((w0.heap.modify 4 (put (numsOf Rows.laid_math_bits_deBruijn32tab).toArray)).modify 5 (put (numsOf Rows.laid_math_bits_deBruijn64tab).toArray)).modify 1 (put (numsOf Rows.laid_internal_strconv_uint64pow10).toArray) }
theorem met3 (os : Os) (args : Array Value) : laidMetH prog Rows.statuteBackRow.laid ((laidWorld os).forCall (fun _ _ => 0) ⟨#[], args, []⟩).memory := by
 rw [plain3];exact laidMet_of_run' 8 (by kernel_rfl) (by kernel_rfl)
end Go.Proofs.YthmlhheceihcbaaGreatDoor
namespace Go.Proofs.YthmlhheceihcbaaGreatDoor
set_option maxHeartbeats 16000000
open Go.RowKit Cal Str Tok Frac Txt Tree Go.Proofs.Tryz
set_option linter.unusedVariables false
set_option linter.unusedSimpArgs false
/-! Rows of bindings -/
def bndL : List (ByteArray × Int) -> List Value
 | [] => []
 | p :: L => .string p.1 :: .int .i64 p.2 :: bndL L
theorem bndL_snoc (L : List (ByteArray × Int)) (p : ByteArray × Int) : bndL (L ++ [p]) = bndL L ++ [.string p.1, .int .i64 p.2] := by
 induction L with
 | nil => rfl
 | cons q L ih => simp only [List.cons_append, bndL, ih]
theorem bndL_at {p : ByteArray × Int} : ∀ {L : List (ByteArray × Int)} {i : Nat}, L[i]? = some p -> (bndL L)[i * 2]? = some (.string p.1) /\ (bndL L)[i * 2 + 1]? = some (.int .i64 p.2) := by
 intro L
 induction L with
 | nil => intro i h; simp at h
 | cons q L ih =>
  intro i h
  cases i with
  | zero => simp at h; subst h; exact ⟨rfl, rfl⟩
  | succ i =>
   simp only [List.getElem?_cons_succ] at h;obtain ⟨h1, h2⟩ := ih h;simp only [bndL];rw [show (i + 1) * 2 = i * 2 + 1 + 1 by omega, show i * 2 + 1 + 1 + 1 = (i * 2 + 1) + 1 + 1 by omega];simp only [List.getElem?_cons_succ];exact ⟨h1, h2⟩
def nmO (L : List (ByteArray × Int)) (i : Nat) : ByteArray := ((L[i]?).map Prod.fst).getD ⟨#[]⟩
def dmO (L : List (ByteArray × Int)) (i : Nat) : Int := ((L[i]?).map Prod.snd).getD 0
theorem nmO_at {L : List (ByteArray × Int)} {i : Nat} {p : ByteArray × Int} (h : L[i]? = some p) : nmO L i = p.1 /\ dmO L i = p.2 := by unfold nmO dmO; rw [h]; exact ⟨rfl, rfl⟩
def BndOk (p : ByteArray × Int) : Prop := p.1.size <= 140737488355328 /\ -9223372036854775808 <= p.2 /\ p.2 <= 9223372036854775807
theorem own_env {w : World} {base k rc : Nat} {T : TypeId} {ra : Option Addr} {L : List (ByteArray × Int)} (hO : w.ownsRow base T 2 (.slice ra k rc) k (bndL L)) (hl : L.length = k) (hok : ∀ p ∈ L, BndOk p) : EnvAt w k (nmO L) (dmO L) ra := fun h0 => by
 obtain ⟨g, cap, hv, hb, hg⟩ := World.ownsRow.form hO h0;simp only [Value.slice.injEq] at hv;obtain ⟨rfl, -, rfl⟩ := hv;refine ⟨g, 0, rfl, hg, fun i hi => ?_⟩;obtain ⟨p, hp⟩ : ∃ p, L[i]? = some p := ⟨_, List.getElem?_eq_getElem (by omega)⟩;obtain ⟨h1, h2⟩ := bndL_at hp;obtain ⟨e1, e2⟩ := nmO_at hp
 have hadd : ∀ j, (⟨g, 0, none⟩ : Addr).add j = ⟨g, 0 + j, none⟩ := fun j => by unfold Addr.add; split <;> simp_all
 have c1 := hO.cells (g := g) rfl _ _ h1;have c2 := hO.cells (g := g) rfl _ _ h2;rw [hadd] at c1 c2;rw [e1, e2];exact ⟨c1, c2, hok p (List.mem_of_getElem? hp)⟩
/-! Rows -/
def RowB (P : Nat -> Prop) (w : World) (ad : Option Addr) (vs : List Value) : Prop := 0 < vs.length -> ∃ g off, ad = some ⟨g, off, none⟩ /\ g < w.heap.size /\ P g /\ ∀ m u, vs[m]? = some u -> w.cell? ⟨g, off + m, none⟩ = some u
theorem RowB.keep {P Q : Nat -> Prop} {w w' : World} {ad : Option Addr} {vs : List Value} (h : RowB P w ad vs) (hs : w.heap.size <= w'.heap.size) (hb : ∀ g, g < w.heap.size -> P g -> w'.heap[g]? = w.heap[g]? /\ Q g) : RowB Q w' ad vs := fun h0 => by
 obtain ⟨g, off, e, hg, hp, hc⟩ := h h0;obtain ⟨e2, hq⟩ := hb g hg hp;exact ⟨g, off, e, Nat.lt_of_lt_of_le hg hs, hq, fun m u hu => (World.cell?_of_block e2).trans (hc m u hu)⟩
theorem RowB.nil {P : Nat -> Prop} {w : World} {ad : Option Addr} : RowB P w ad [] := fun h => absurd h (by decide)
theorem flat_len {α : Type} {c : α -> List Value} {d : Nat} (hc : ∀ p, (c p).length = d) (L : List α) : (L.flatMap c).length = L.length * d := by
 induction L with
 | nil => simp
 | cons p L ih => simp only [List.flatMap_cons, List.length_append, ih, hc, List.length_cons]; rw [Nat.add_mul, Nat.one_mul]; omega
theorem flat_at {α : Type} {c : α -> List Value} {d : Nat} (hc : ∀ p, (c p).length = d) {j : Nat} (hj : j < d) {p : α} : ∀ {L : List α} {i : Nat}, L[i]? = some p -> (L.flatMap c)[i * d + j]? = (c p)[j]? := by
 intro L
 induction L with
 | nil => intro i h; simp at h
 | cons q L ih =>
  intro i h
  cases i with
  | zero =>
   simp at h; subst h;simp only [List.flatMap_cons]
   rw [List.getElem?_append_left (by rw [hc]; omega)]; simp
  | succ i =>
   simp only [List.getElem?_cons_succ] at h;simp only [List.flatMap_cons];rw [List.getElem?_append_right (by rw [hc, Nat.add_mul]; omega), hc, show (i + 1) * d + j - d = i * d + j by rw [Nat.add_mul]; omega];exact ih h
theorem flat_snoc {α : Type} (c : α -> List Value) (L : List α) (p : α) : (L ++ [p]).flatMap c = L.flatMap c ++ c p := by simp
theorem row_cell {α : Type} {c : α -> List Value} {d : Nat} {w : World} {g off : Nat} {L : List α} {i : Nat} {p : α} (hr : ∀ m u, (L.flatMap c)[m]? = some u -> w.cell? ⟨g, off + m, none⟩ = some u) (hc : ∀ p, (c p).length = d) (hp : L[i]? = some p) (j : Nat) (u : Value) (hu : (c p)[j]? = some u) : w.cell? ⟨g, off + i * d + j, none⟩ = some u := by
 have hj : j < d := by rw [<- hc p]; exact (List.getElem?_eq_some_iff.1 hu).1
 have h := hr (i * d + j) u (by rw [flat_at hc hj hp]; exact hu)
 rwa [<- Nat.add_assoc] at h
theorem flat_pos {α : Type} {c : α -> List Value} {d : Nat} (hc : ∀ p, (c p).length = d) (hd : 0 < d) {L : List α} (h : 0 < L.length) : 0 < (L.flatMap c).length := by
 rw [flat_len hc]; exact Nat.mul_pos h hd
theorem get_some {α : Type} {L : List α} {i : Nat} (h : i < L.length) : ∃ p, L[i]? = some p := ⟨_, List.getElem?_eq_getElem h⟩
/-! The cells of the parts of a version -/
def I64 (z : Int) : Prop := -9223372036854775808 <= z /\ z <= 9223372036854775807
def crC (p : Int × Int) : List Value := [.int .i64 p.1, .int .i64 p.2]
def seC (p : Int × Int × Int) : List Value := [.int .i64 p.1, .int .i64 p.2.1, .int .i64 p.2.2]
def leC (p : ByteArray × (Ex × Value)) : List Value := [.string p.1, .int .i64 p.2.1.op, .int .i64 p.2.1.va, .int .i64 p.2.1.vb, .int .i64 p.2.1.dm, .string p.2.1.nm, p.2.2]
def grC (p : Int × (Ex × Value) × (Ex × Value)) : List Value := [.int .i64 p.1, .int .i64 p.2.1.1.op, .int .i64 p.2.1.1.va, .int .i64 p.2.1.1.vb, .int .i64 p.2.1.1.dm, .string p.2.1.1.nm, p.2.1.2, .int .i64 p.2.2.1.op, .int .i64 p.2.2.1.va, .int .i64 p.2.2.1.vb, .int .i64 p.2.2.1.dm, .string p.2.2.1.nm, p.2.2.2]
def reC (p : Int × (Ex × Value)) : List Value := [.int .i64 p.1, .int .i64 p.2.1.op, .int .i64 p.2.1.va, .int .i64 p.2.1.vb, .int .i64 p.2.1.dm, .string p.2.1.nm, p.2.2]
theorem crC_len (p) : (crC p).length = 2 := rfl
theorem seC_len (p) : (seC p).length = 3 := rfl
theorem leC_len (p) : (leC p).length = 7 := rfl
theorem grC_len (p) : (grC p).length = 13 := rfl
theorem reC_len (p) : (reC p).length = 7 := rfl
structure VerM where
 frm : Int
 mode : Int
 unit : Int
 cr : List (Int × Int)
 se : List (Int × Int × Int)
 le : List (ByteArray × (Ex × Value))
 gr : List (Int × (Ex × Value) × (Ex × Value))
 re : List (Int × (Ex × Value))
 ca : Option Addr
 sa : Option Addr
 la : Option Addr
 ga : Option Addr
 ra : Option Addr
 cc : Nat
 sc : Nat
 lc : Nat
 gc : Nat
 rc : Nat
def VerM.val (m : VerM) : Value := .agg #[.int .i64 m.frm, .int .i64 m.mode, .int .i64 m.unit, .slice m.ca m.cr.length m.cc, .slice m.sa m.se.length m.sc, .slice m.la m.le.length m.lc, .slice m.ga m.gr.length m.gc, .slice m.ra m.re.length m.rc]
def verC (m : VerM) : List Value := [.int .i64 m.frm, .int .i64 m.mode, .int .i64 m.unit, .slice m.ca m.cr.length m.cc, .slice m.sa m.se.length m.sc, .slice m.la m.le.length m.lc, .slice m.ga m.gr.length m.gc, .slice m.ra m.re.length m.rc]
theorem verC_len (m) : (verC m).length = 8 := rfl
def TxB (P : Nat -> Prop) (w : World) (q : Ex × Value) : Prop := ExKidsB P q.1 w q.2 /\ q.1.size <= 1000000000
theorem TxB.keep {P Q : Nat -> Prop} {w w' : World} {q : Ex × Value} (h : TxB P w q) (hs : w.heap.size <= w'.heap.size) (hb : ∀ g, g < w.heap.size -> P g -> w'.heap[g]? = w.heap[g]? /\ Q g) : TxB Q w' q := ⟨kidsB_keep hs hb h.1, h.2⟩
def LeB (P : Nat -> Prop) (w : World) (p : ByteArray × (Ex × Value)) : Prop := p.1.size <= 140737488355328 /\ TxB P w p.2
def GrB (P : Nat -> Prop) (w : World) (p : Int × (Ex × Value) × (Ex × Value)) : Prop := I64 p.1 /\ TxB P w p.2.1 /\ TxB P w p.2.2
def ReB (P : Nat -> Prop) (w : World) (p : Int × (Ex × Value)) : Prop := I64 p.1 /\ TxB P w p.2
structure VerB (P : Nat -> Prop) (w : World) (m : VerM) : Prop where
 i0 : I64 m.frm
 i1 : I64 m.mode
 i2 : I64 m.unit
 n0 : m.cr.length <= 100000
 n1 : m.se.length <= 100000
 n2 : m.le.length <= 100000
 n3 : m.gr.length <= 100000
 n4 : m.re.length <= 100000
 r0 : RowB P w m.ca (m.cr.flatMap crC)
 r1 : RowB P w m.sa (m.se.flatMap seC)
 r2 : RowB P w m.la (m.le.flatMap leC)
 r3 : RowB P w m.ga (m.gr.flatMap grC)
 r4 : RowB P w m.ra (m.re.flatMap reC)
 b0 : ∀ p ∈ m.cr, I64 p.1 /\ I64 p.2
 b1 : ∀ p ∈ m.se, I64 p.1 /\ I64 p.2.1 /\ I64 p.2.2
 b2 : ∀ p ∈ m.le, LeB P w p
 b3 : ∀ p ∈ m.gr, GrB P w p
 b4 : ∀ p ∈ m.re, ReB P w p
 q0 : m.cr.length <= m.cc
 q1 : m.se.length <= m.sc
 q2 : m.le.length <= m.lc
 q3 : m.gr.length <= m.gc
 q4 : m.re.length <= m.rc
theorem VerB.keep {P Q : Nat -> Prop} {w w' : World} {m : VerM} (h : VerB P w m) (hs : w.heap.size <= w'.heap.size) (hb : ∀ g, g < w.heap.size -> P g -> w'.heap[g]? = w.heap[g]? /\ Q g) : VerB Q w' m :=
 ⟨h.i0, h.i1, h.i2, h.n0, h.n1, h.n2, h.n3, h.n4, h.r0.keep hs hb, h.r1.keep hs hb, h.r2.keep hs hb, h.r3.keep hs hb, h.r4.keep hs hb, h.b0, h.b1,
  fun p hp => ⟨(h.b2 p hp).1, (h.b2 p hp).2.keep hs hb⟩, fun p hp => ⟨(h.b3 p hp).1, (h.b3 p hp).2.1.keep hs hb, (h.b3 p hp).2.2.keep hs hb⟩, fun p hp => ⟨(h.b4 p hp).1, (h.b4 p hp).2.keep hs hb⟩, h.q0, h.q1, h.q2, h.q3, h.q4⟩
theorem VerB.rel {P : Nat -> Prop} {w w' : World} {m : VerM} (h : VerB P w m) (r : Rel w w') : VerB P w' m := h.keep (Below.size r) (fun g hg hp => ⟨Below.block r g hg, hp⟩)
def VerAt (w : World) (m : VerM) : Prop := VerB (fun _ => True) w m
theorem VerB.at {P : Nat -> Prop} {w : World} {m : VerM} (h : VerB P w m) : VerAt w m := VerB.keep h (Nat.le_refl _) (fun g _ _ => ⟨rfl, trivial⟩)
/-! Statutes -/
structure StaM where
 nm : ByteArray
 cur : Int
 vs : List VerM
 ad : Option Addr
 cap : Nat
def StaM.val (s : StaM) : Value := .agg #[.string s.nm, .int .i64 s.cur, .slice s.ad s.vs.length s.cap]
structure StaB (P : Nat -> Prop) (w : World) (s : StaM) : Prop where
 n : s.nm.size <= 140737488355328
 i : I64 s.cur
 l : s.vs.length <= 100000
 r : RowB P w s.ad (s.vs.flatMap verC)
 b : ∀ m ∈ s.vs, VerB P w m
theorem StaB.keep {P Q : Nat -> Prop} {w w' : World} {s : StaM} (h : StaB P w s) (hs : w.heap.size <= w'.heap.size) (hb : ∀ g, g < w.heap.size -> P g -> w'.heap[g]? = w.heap[g]? /\ Q g) : StaB Q w' s :=
 ⟨h.n, h.i, h.l, h.r.keep hs hb, fun m hm => (h.b m hm).keep hs hb⟩
theorem StaB.rel {P : Nat -> Prop} {w w' : World} {s : StaM} (h : StaB P w s) (r : Rel w w') : StaB P w' s := h.keep (Below.size r) (fun g hg hp => ⟨Below.block r g hg, hp⟩)
def StaAt (w : World) (s : StaM) : Prop := StaB (fun _ => True) w s
theorem StaB.at {P : Nat -> Prop} {w : World} {s : StaM} (h : StaB P w s) : StaAt w s := StaB.keep h (Nat.le_refl _) (fun g _ _ => ⟨rfl, trivial⟩)
/-! What a row reads as, element by element -/
theorem row_open {P : Nat -> Prop} {w : World} {ad : Option Addr} {α : Type} {c : α -> List Value} {d : Nat} {L : List α} (h : RowB P w ad (L.flatMap c)) (hc : ∀ p, (c p).length = d) (hd : 0 < d) (h0 : 0 < L.length) :
  ∃ g off, ad = some ⟨g, off, none⟩ /\ g < w.heap.size /\ P g /\ ∀ i p, L[i]? = some p -> ∀ j u, (c p)[j]? = some u -> w.cell? ⟨g, off + i * d + j, none⟩ = some u := by
 obtain ⟨g, off, e, hg, hp, hr⟩ := h (flat_pos hc hd h0);exact ⟨g, off, e, hg, hp, fun i p hi j u hu => row_cell hr hc hi j u hu⟩
theorem row_k {α : Type} {c : α -> List Value} {d : Nat} {w W : World} {ad : Option Addr} {L : List α} (h : RowB (fun _ => True) w ad (L.flatMap c)) (hc : ∀ p, (c p).length = d) (hd : 0 < d) (r : Rel w W) {k : Nat} (hk : k < L.length) :
  ∃ p g off, L[k]? = some p /\ p ∈ L /\ ad = some ⟨g, off, none⟩ /\ g < W.heap.size /\ ∀ j u, (c p)[j]? = some u -> W.cell? ⟨g, off + k * d + j, none⟩ = some u := by
 obtain ⟨g, off, e, hg, -, H⟩ := row_open h hc hd (by omega);obtain ⟨p, hp⟩ := get_some hk;exact ⟨p, g, off, hp, List.mem_of_getElem? hp, e, r.lt hg, fun j u hu => r.cell (H k p hp j u hu)⟩
theorem RowB.put {P : Nat -> Prop} {w : World} {g off : Nat} {vs : List Value} (h : RowB P w (some ⟨g, off, none⟩) vs) {j : Nat} (hj : j < vs.length) (u : Value) : RowB P (w.setCell ⟨g, off + j, none⟩ u) (some ⟨g, off, none⟩) (vs.set j u) := fun h0 => by
 obtain ⟨g2, o2, e, hg, hp, hc⟩ := h (by omega);simp only [Option.some.injEq, Addr.mk.injEq] at e;obtain ⟨rfl, rfl, -⟩ := e;refine ⟨g, off, rfl, by simpa [World.setCell] using hg, hp, fun m v hv => ?_⟩;by_cases hm : m = j
 ·subst hm;rw [List.getElem?_set_self hj] at hv;cases hv
  obtain ⟨v0, h0⟩ : ∃ v, vs[m]? = some v := ⟨_, List.getElem?_eq_getElem hj⟩;exact World.cell?_setCell_same _ _ _ (hc m v0 h0)
 ·rw [List.getElem?_set_ne (fun e => hm e.symm)] at hv;rw [World.cell?_setCell_other _ _ _ _ (by intro e; injection e; omega)];exact hc m v hv
theorem RowB.other {P : Nat -> Prop} {w : World} {ad : Option Addr} {vs : List Value} (h : RowB P w ad vs) {g : Nat} (hg : ∀ q, P q -> q ≠ g) (i : Nat) (u : Value) : RowB P (w.setCell ⟨g, i, none⟩ u) ad vs :=
 h.keep (by simp [World.setCell]) (fun q _ hp => ⟨Below.heap_setCell _ _ _ _ (hg q hp), hp⟩)
theorem TxB.other {P : Nat -> Prop} {w : World} {q : Ex × Value} (h : TxB P w q) {g : Nat} (hg : ∀ q, P q -> q ≠ g) (i : Nat) (u : Value) : TxB P (w.setCell ⟨g, i, none⟩ u) q :=
 h.keep (by simp [World.setCell]) (fun q _ hp => ⟨Below.heap_setCell _ _ _ _ (hg q hp), hp⟩)
def OffB (ad : Option Addr) (q : Nat) : Prop := ∀ a, ad = some a -> q ≠ a.block
structure VerI (b0 b1 b2 b3 b4 b5 : Nat) (w : World) (m : VerM) : Prop where
 i0 : I64 m.frm
 i1 : I64 m.mode
 i2 : I64 m.unit
 n0 : m.cr.length <= 99999
 n1 : m.se.length <= 99999
 n2 : m.le.length <= 100000
 n3 : m.gr.length <= 100000
 n4 : m.re.length <= 100000
 r0 : RowB (fun q => b0 <= q /\ q < b1) w m.ca (m.cr.flatMap crC)
 r1 : RowB (fun q => b1 <= q /\ q < b2) w m.sa (m.se.flatMap seC)
 r2 : RowB (fun q => b2 <= q /\ q < b3) w m.la (m.le.flatMap leC)
 r3 : RowB (fun q => b3 <= q /\ q < b4) w m.ga (m.gr.flatMap grC)
 r4 : RowB (fun q => b4 <= q /\ q < b5) w m.ra (m.re.flatMap reC)
 b0' : ∀ p ∈ m.cr, I64 p.1 /\ I64 p.2
 b1' : ∀ p ∈ m.se, I64 p.1 /\ I64 p.2.1 /\ I64 p.2.2
 b2' : ∀ p ∈ m.le, LeB (fun q => (b2 <= q /\ q < b3) /\ OffB m.la q) w p
 b3' : ∀ p ∈ m.gr, GrB (fun q => (b3 <= q /\ q < b4) /\ OffB m.ga q) w p
 b4' : ∀ p ∈ m.re, ReB (fun q => (b4 <= q /\ q < b5) /\ OffB m.ra q) w p
 o1 : b0 <= b1
 o2 : b1 <= b2
 o3 : b2 <= b3
 o4 : b3 <= b4
 o5 : b4 <= b5
 q0 : m.cr.length <= m.cc
 q1 : m.se.length <= m.sc
 q2 : m.le.length <= m.lc
 q3 : m.gr.length <= m.gc
 q4 : m.re.length <= m.rc
theorem TxB.mono {P Q : Nat -> Prop} {w : World} {q : Ex × Value} (h : TxB P w q) (hb : ∀ g, P g -> Q g) : TxB Q w q := h.keep (Nat.le_refl _) (fun g _ hp => ⟨rfl, hb g hp⟩)
theorem RowB.mono {P Q : Nat -> Prop} {w : World} {ad : Option Addr} {vs : List Value} (h : RowB P w ad vs) (hb : ∀ g, P g -> Q g) : RowB Q w ad vs := h.keep (Nat.le_refl _) (fun g _ hp => ⟨rfl, hb g hp⟩)
theorem VerI.toB {b0 b1 b2 b3 b4 b5 : Nat} {w : World} {m : VerM} (h : VerI b0 b1 b2 b3 b4 b5 w m) : VerB (fun q => b0 <= q) w m :=
 have o1 := h.o1
 have o2 := h.o2
 have o3 := h.o3
 have o4 := h.o4
 ⟨h.i0, h.i1, h.i2, Nat.le_succ_of_le h.n0, Nat.le_succ_of_le h.n1, h.n2, h.n3, h.n4, h.r0.mono (fun g hp => hp.1), h.r1.mono (fun g hp => Nat.le_trans o1 hp.1), h.r2.mono (fun g hp => by omega), h.r3.mono (fun g hp => by omega), h.r4.mono (fun g hp => by omega), h.b0', h.b1',
  fun p hp => ⟨(h.b2' p hp).1, (h.b2' p hp).2.mono (fun g hg => by omega)⟩, fun p hp => ⟨(h.b3' p hp).1, (h.b3' p hp).2.1.mono (fun g hg => by omega), (h.b3' p hp).2.2.mono (fun g hg => by omega)⟩, fun p hp => ⟨(h.b4' p hp).1, (h.b4' p hp).2.mono (fun g hg => by omega)⟩, h.q0, h.q1, h.q2, h.q3, h.q4⟩
theorem VerI.keep {b0 b1 b2 b3 b4 b5 : Nat} {w w' : World} {m : VerM} (h : VerI b0 b1 b2 b3 b4 b5 w m) (hs : w.heap.size <= w'.heap.size) (hb : ∀ g, g < w.heap.size -> b0 <= g -> g < b5 -> w'.heap[g]? = w.heap[g]?) : VerI b0 b1 b2 b3 b4 b5 w' m :=
 have o1 := h.o1
 have o2 := h.o2
 have o3 := h.o3
 have o4 := h.o4
 have o5 := h.o5
 ⟨h.i0, h.i1, h.i2, h.n0, h.n1, h.n2, h.n3, h.n4, h.r0.keep hs (fun g hg hp => ⟨hb g hg (by omega) (by omega), hp⟩), h.r1.keep hs (fun g hg hp => ⟨hb g hg (by omega) (by omega), hp⟩), h.r2.keep hs (fun g hg hp => ⟨hb g hg (by omega) (by omega), hp⟩), h.r3.keep hs (fun g hg hp => ⟨hb g hg (by omega) (by omega), hp⟩), h.r4.keep hs (fun g hg hp => ⟨hb g hg (by omega) (by omega), hp⟩), h.b0', h.b1',
  fun p hp => ⟨(h.b2' p hp).1, (h.b2' p hp).2.keep hs (fun g hg hq => ⟨hb g hg (by omega) (by omega), hq⟩)⟩,
  fun p hp => ⟨(h.b3' p hp).1, (h.b3' p hp).2.1.keep hs (fun g hg hq => ⟨hb g hg (by omega) (by omega), hq⟩), (h.b3' p hp).2.2.keep hs (fun g hg hq => ⟨hb g hg (by omega) (by omega), hq⟩)⟩,
  fun p hp => ⟨(h.b4' p hp).1, (h.b4' p hp).2.keep hs (fun g hg hq => ⟨hb g hg (by omega) (by omega), hq⟩)⟩, o1, o2, o3, o4, o5, h.q0, h.q1, h.q2, h.q3, h.q4⟩
theorem own_rowB {w : World} {base d k rc : Nat} {T : TypeId} {ra : Option Addr} {vs : List Value} (h : w.ownsRow base T d (.slice ra k rc) k vs) : RowB (fun q => base <= q /\ q < w.heap.size) w ra vs := fun h0 => by
 rcases h.2 with ⟨-, hn⟩ | ⟨g, cap, cur, e, hb, hg, -⟩
 ·have := h.1; rw [hn, Nat.zero_mul] at this; omega
 ·simp only [Value.slice.injEq] at e;obtain ⟨rfl, -, rfl⟩ := e
  have hl : g < w.heap.size := by
   rcases Nat.lt_or_ge g w.heap.size with hlt | hge
   ·exact hlt
   ·rw [Array.getElem?_eq_none hge] at hg; cases hg
  refine ⟨g, 0, rfl, hl, ⟨hb, hl⟩, fun m u hu => ?_⟩;have hc := h.cells (g := g) rfl m u hu
  have hadd : (⟨g, 0, none⟩ : Addr).add m = ⟨g, 0 + m, none⟩ := by unfold Addr.add; split <;> simp_all
  rwa [hadd] at hc
end Go.Proofs.YthmlhheceihcbaaGreatDoor
namespace Go.Proofs.YthmlhheceihcbaaGreatDoor
set_option maxHeartbeats 16000000
open Go.RowKit Go.Proofs.Tryz
set_option linter.unusedVariables false
def RowsIn (w : World) (v : Value) (n : Nat) : Prop := ∃ (ad : Option Addr) (cap : Nat), v = .slice ad n cap /\ n <= 17592186044416 /\ (0 < n -> ∃ g off, ad = some ⟨g, off, none⟩ /\ g < w.heap.size /\ ∀ i, i < n -> ∃ vi ni, w.cell? ⟨g, off + i, none⟩ = some vi /\ IntsIn w vi ni)
theorem ints_rel {w w' : World} {v : Value} {n : Nat} (h : IntsIn w v n) (r : Rel w w') : IntsIn w' v n := by
 obtain ⟨a0, cap, rfl, hn, hc⟩ := h;refine ⟨a0, cap, rfl, hn, fun h0 => ?_⟩;obtain ⟨b, off, zs, rfl, hb, hz⟩ := hc h0;exact ⟨b, off, zs, rfl, Nat.lt_of_lt_of_le hb r.size, fun j hj => ⟨r.cell (hz j hj).1, (hz j hj).2⟩⟩
theorem rows_rel {w w' : World} {v : Value} {n : Nat} (h : RowsIn w v n) (r : Rel w w') : RowsIn w' v n := by
 obtain ⟨ad, cap, rfl, hn, hc⟩ := h;refine ⟨ad, cap, rfl, hn, fun h0 => ?_⟩;obtain ⟨g, off, e, hg, hz⟩ := hc h0;refine ⟨g, off, e, Nat.lt_of_lt_of_le hg r.size, fun i hi => ?_⟩;obtain ⟨vi, ni, h1, h2⟩ := hz i hi;exact ⟨vi, ni, r.cell h1, ints_rel h2 r⟩
structure RawV where
 f : Int
 m : Int
 u : Int
 t : Int
 vc : Value
 vs : Value
 vl : Value
 vi : Value
 vp : Value
 vk : Value
 nc : Nat
 ns : Nat
 nl : Nat
 ni : Nat
 np : Nat
 nk : Nat
def RawV.vals (r : RawV) : List Value := [.int .i64 r.f, .int .i64 r.m, .int .i64 r.u, r.vc, r.vs, r.vl, r.vi, r.vp, r.vk, .int .i64 r.t]
def RawV.val (r : RawV) : Value := .agg #[.int .i64 r.f, .int .i64 r.m, .int .i64 r.u, r.vc, r.vs, r.vl, r.vi, r.vp, r.vk, .int .i64 r.t]
structure RawIn (w : World) (r : RawV) : Prop where
 f : I64 r.f
 m : I64 r.m
 u : I64 r.u
 t : I64 r.t
 c : IntsIn w r.vc r.nc
 s : IntsIn w r.vs r.ns
 l : RowsIn w r.vl r.nl
 i : RowsIn w r.vi r.ni
 p : RowsIn w r.vp r.np
 k : RowsIn w r.vk r.nk
theorem RawIn.rel {w w' : World} {r : RawV} (h : RawIn w r) (x : Rel w w') : RawIn w' r := ⟨h.f, h.m, h.u, h.t, ints_rel h.c x, ints_rel h.s x, rows_rel h.l x, rows_rel h.i x, rows_rel h.p x, rows_rel h.k x⟩
def RawsIn (w : World) (v : Value) (n : Nat) (rs : Nat -> RawV) : Prop := ∃ (ad : Option Addr) (cap : Nat), v = .slice ad n cap /\ n <= 17592186044416 /\ (0 < n -> ∃ g off, ad = some ⟨g, off, none⟩ /\ g < w.heap.size /\ ∀ i, i < n -> RawIn w (rs i) /\ ∀ j u, (rs i).vals[j]? = some u -> w.cell? ⟨g, off + i * 10 + j, none⟩ = some u)
theorem rows_fun {w : World} {v : Value} {n : Nat} (h : RowsIn w v n) : ∃ (ad : Option Addr) (cap : Nat) (V : Nat -> Value) (N : Nat -> Nat), v = .slice ad n cap /\ n <= 17592186044416 /\ (0 < n -> ∃ g off, ad = some ⟨g, off, none⟩ /\ g < w.heap.size /\ ∀ i, i < n -> w.cell? ⟨g, off + i, none⟩ = some (V i) /\ IntsIn w (V i) (N i)) := by
 obtain ⟨ad, cap, rfl, hn, hc⟩ := h;by_cases h0 : 0 < n
 ·obtain ⟨g, off, e, hg, hz⟩ := hc h0
  have key : ∀ i, ∃ q : Value × Nat, i < n -> w.cell? ⟨g, off + i, none⟩ = some q.1 /\ IntsIn w q.1 q.2 := fun i => by
   by_cases hi : i < n
   ·obtain ⟨vi, ni, h1, h2⟩ := hz i hi;exact ⟨(vi, ni), fun _ => ⟨h1, h2⟩⟩
   ·exact ⟨(.bool false, 0), fun h => absurd h hi⟩
  obtain ⟨f, hf⟩ := Classical.axiomOfChoice key;exact ⟨ad, cap, fun i => (f i).1, fun i => (f i).2, rfl, hn, fun _ => ⟨g, off, e, hg, hf⟩⟩
 ·exact ⟨ad, cap, fun _ => .bool false, fun _ => 0, rfl, hn, fun h => absurd h h0⟩
end Go.Proofs.YthmlhheceihcbaaGreatDoor
namespace Go.Proofs.YthmlhheceihcbaaGreatDoor
set_option maxHeartbeats 16000000
open Cal Str Tok Frac Txt Tree
set_option linter.unusedVariables false
structure Ver where
 frm : Int
 mode : Int
 unit : Int
 cr : List (Int × Int)
 se : List (Int × Int × Int)
 le : List (ByteArray × Ex)
 gr : List (Int × Ex × Ex)
 re : List (Int × Ex)
def VerM.pl (m : VerM) : Ver := ⟨m.frm, m.mode, m.unit, m.cr, m.se, m.le.map fun p => (p.1, p.2.1), m.gr.map fun p => (p.1, p.2.1.1, p.2.2.1), m.re.map fun p => (p.1, p.2.1)⟩
structure Sta where
 nm : ByteArray
 cur : Int
 vs : List Ver
def StaM.pl (s : StaM) : Sta := ⟨s.nm, s.cur, s.vs.map VerM.pl⟩
def bwB (lo hi z : Int) : Bool := decide (lo <= z) && decide (z <= hi)
def crV (p : Int × Int) : Bool := bwB 5 10 p.1 && bwB 0 73049 p.2
def seV (p : Int × Int × Int) : Bool := bwB 1900 2099 p.1 && (fdB p.2.1 p.2.2 2 && decide (1 <= p.2.1))
def leV (p : ByteArray × Ex) : Bool := namB p.1 && p.2.valid
def grV (p : Int × Ex × Ex) : Bool := bwB 1 5 p.1 && (p.2.1.valid && p.2.2.valid)
def reV (p : Int × Ex) : Bool := bwB 1 5 p.1 && p.2.valid
def Ver.valid (v : Ver) : Bool :=
 (bwB 0 73048 v.frm && (bwB 1 4 v.mode && bwB 1 100000 v.unit)) &&
 (((decide (v.cr.length <= 6) && decide (v.se.length <= 20)) && (decide (v.le.length <= 10) && (decide (v.gr.length <= 5) && decide (v.re.length <= 5)))) &&
 (v.cr.all crV && (v.se.all seV && (v.le.all leV && (v.gr.all grV && v.re.all reV)))))
def Sta.valid (s : Sta) : Bool := namB s.nm && (bwB 1 999 s.cur && (decide (1 <= s.vs.length) && (decide (s.vs.length <= 6) && s.vs.all Ver.valid)))
def allK {α : Type} (f : α -> Bool) (L : List α) (k : Nat) : Bool := (L.take k).all f
theorem allK_succ {α : Type} {f : α -> Bool} {L : List α} {k : Nat} {p : α} (h : L[k]? = some p) : allK f L (k + 1) = (allK f L k && f p) := by
 unfold allK;rw [List.take_add_one, h]; simp
theorem allK_full {α : Type} {f : α -> Bool} {L : List α} {k : Nat} (h : L.length <= k) : allK f L k = L.all f := by unfold allK; rw [List.take_of_length_le h]
theorem allK_no {α : Type} {f : α -> Bool} {L : List α} {k : Nat} {p : α} (h : L[k]? = some p) (hp : f p = false) : L.all f = false := by
 rw [List.all_eq_false]; exact ⟨p, List.mem_of_getElem? h, by simp [hp]⟩
end Go.Proofs.YthmlhheceihcbaaGreatDoor

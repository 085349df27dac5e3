/- Bundle of texts: each says at its head what it proves; no conditions but those printed. -/
import Derived.Test.YtnhmebhmlbofgaaDoorB7
import Derived.Test.YtnhmebhmlbofgaaDoorB2
import Derived.WalkKit
import Derived.ProofKit
import Derived.OpenShut
import Derived.ShutString
import Derived.ChangeOld
import Derived.Below
import Derived.SizedLaws
import Derived.ChangeSlices
import Derived.Deep.Slices
import Derived.Deep.Fields
import Derived.ChangeSame
/- Arguments opened: rows of bindings, rows of integers, rows of rows of integers. Over the program's types. -/
namespace Go.Proofs.YtnhmebhmlbofgaaDoor
open Go.ChangeShapes Go.WideShapes Go.ChangeAt Go.RowKit Go.Deep
set_option linter.unusedVariables false
section
variable {H : Type} {enc : TypeId × Value → H} {w : World} {base : Nat} {spare : Nat → Bool} {held : Bool}

/-- No slice or string in a datum is larger than memory. -/
def Light (P : Program) (t : TypeId) (d : DataW H) : Prop := ∀ n ∈ d.weights P t, n ≤ reachBytes
theorem light_all {P : Program} {e : TypeId} {l : List (DataW H)} {d : DataW H} (hd : d ∈ l) {n : Nat} (hn : n ∈ d.weights P e) : n ∈ DataW.weightsAll P e l := by
  induction l with
  | nil => cases hd
  | cons x l ih =>
    simp only [DataW.weightsAll, List.mem_append]
    rcases List.mem_cons.1 hd with rfl | h
    · exact .inl hn
    · exact .inr (ih h)
theorem light_slice {P : Program} {t e : TypeId} {l r : List (DataW H)} (h : Light P t (.slice l r)) (hu : P.underlying t = some (.slice e)) : (l.length + r.length) * P.bytesOf e ≤ reachBytes ∧ ∀ d ∈ l, Light P e d := by
  have hw : (DataW.slice l r).weights P t = (l.length + r.length) * P.bytesOf e :: (DataW.weightsAll P e l ++ DataW.weightsAll P e r) := by
    simp only [DataW.weights, hu]
  unfold Light at h
  rw [hw] at h
  exact ⟨h _ (List.mem_cons_self ..), fun d hd n hn => h n (List.mem_cons_of_mem _ (List.mem_append_left _ (light_all hd hn)))⟩
theorem light_field {P : Program} {t : TypeId} {fs : Array Field} {l : List (DataW H)} (h : Light P t (.agg l)) (hu : P.underlying t = some (.struct fs)) {j : Nat} {f : Field} {d : DataW H} (hf : fs[j]? = some f) (hd : l[j]? = some d) : Light P f.type d := by
  have hw : (DataW.agg l).weights P t = DataW.weightsEach P (fs.toList.map (·.type)) l := by
    simp only [DataW.weights, hu]
  unfold Light at h
  rw [hw] at h
  exact fun n hn => h n (DataW.weights_mem_each (j := j) (t := f.type) (by simp [hf]) hd n hn)
theorem light_string {P : Program} {t : TypeId} {s : ByteArray} (h : Light P t (.lit (.string s.data.toList) : DataW H)) : s.size ≤ 140737488355328 := by
  have := h s.data.toList.length (by simp [DataW.weights])
  have e : s.data.toList.length = s.size := by simp
  simp only [reachBytes] at this
  omega
theorem light_each {P : Program} {ts : List TypeId} {ds : List (DataW H)} (h : (DataW.weightsEach P ts ds).all (· ≤ reachBytes) = true) {j : Nat} {t : TypeId} {d : DataW H} (ht : ts[j]? = some t) (hd : ds[j]? = some d) : Light P t d := fun n hn => by
  simpa using List.all_eq_true.1 h n (DataW.weights_mem_each ht hd n hn)

/-! Bindings -/
def BindsIn (w : World) (v : Value) (n : Nat) (nm : Nat → ByteArray) (dm : Nat → Int) : Prop := ∃ (ad : Option Addr) (cap : Nat), v = .slice ad n cap ∧ n ≤ 17592186044416 ∧ EnvAt w n nm dm ad
theorem slice_fields {P : Program} {t e : TypeId} {fs : Array Field} {fuel : Nat} {cs : List Value} {x : DataW H × List MemPlace} (ht : P.underlying t = some (.slice e)) (he : P.underlying e = some (.struct fs))
    (hone : oneCellFields P fs = true) (hC : P.cellsOf e = fs.size) (h : DataW.trod enc P w base spare held fuel t cs = some x) :
    (cs = [.slice none 0 0] ∧ x = (.nil, [])) ∨
    ∃ (a : Addr) (len cap m : Nat) (D : Nat → DataW H) (Pl : Nat → List MemPlace), cs = [.slice (some a) len cap] ∧ base ≤ a.block ∧ len ≤ cap ∧ cap ≤ maxLen ∧ m = (if spare a.block then cap else len) ∧
      x = (.slice ((List.range len).map D) ((List.range (m - len)).map fun j => D (len + j)), MemPlace.row a (m * fs.size) ++ (List.range m).flatMap Pl) ∧
      ∀ i, i < m → ∃ (ys : List (DataW H × List MemPlace)) (n : Nat), D i = .agg (ys.map (·.1)) ∧ Pl i = ys.flatMap (·.2) ∧ ys.length = fs.size ∧
        ∀ (j : Nat) (f : Field), fs[j]? = some f → ∃ (v : Value) (y : DataW H × List MemPlace), w.cell? (a.add (i * fs.size + j)) = some v ∧ ys[j]? = some y ∧ DataW.trod enc P w base spare held n f.type [v] = some y := by
  rcases open_slice ht h with h0 | ⟨a, len, cap, m, n, D, Pl, hcs, hb, hl, hm, hmm, hx, hi⟩
  · exact .inl h0
  · refine .inr ⟨a, len, cap, m, D, Pl, hcs, hb, hl, hm, hmm, by rw [hC] at hx; exact hx, fun i him => ?_⟩
    obtain ⟨cs', hc, ht'⟩ := hi i him
    rw [hC] at hc
    obtain ⟨ys, n', hn', hy, hlen, hyl, hf⟩ := DataW.trod_struct he ht'
    obtain ⟨_, hcl, hat⟩ := World.cells?_some hc
    simp only [Prod.mk.injEq] at hy
    refine ⟨ys, n', hy.1, hy.2, hyl, fun j f hj => ?_⟩
    obtain ⟨ho, hk⟩ := hone_of hone j f hj
    have hjl : j < fs.size := (Array.getElem?_eq_some_iff.1 hj).1
    have hcell := hat j hjl
    have hv : cs'[j]? = some (cs'[j]'(by omega)) := List.getElem?_eq_getElem (by omega)
    have h1 := hf j f hj
    rw [ho, hk] at h1
    have hone' : (cs'.drop j).take 1 = [cs'[j]'(by omega)] := by
      rw [List.drop_eq_getElem_cons (by omega)]
      rfl
    rw [hone'] at h1
    have hys : ys[j]? = some (ys[j]'(by omega)) := List.getElem?_eq_getElem (by omega)
    refine ⟨_, _, ?_, hys, h1.trans hys⟩
    rw [← Go.Deep.add_add, hcell, hv]
theorem plain_addr {w : World} {a : Addr} {v : Value} (h : w.cell? (a.add 0) = some v) : a = ⟨a.block, a.off, none⟩ ∧ a.block < w.heap.size := by
  obtain ⟨b, off, spot⟩ := a
  have hspot : spot = none := by simpa [Addr.add] using World.cell?_spot h
  subst hspot
  rw [add_plain] at h
  exact ⟨rfl, World.block_lt_of_cell? w ⟨b, off + 0, none⟩ h⟩
theorem open_binds {fuel : Nat} {cs : List Value} {x : DataW H × List MemPlace} (h : DataW.trod enc Tryd.prog w base spare held fuel 29 cs = some x) (hl : Light Tryd.prog 29 x.1) :
    ∃ (v : Value) (n : Nat) (nm : Nat → ByteArray) (dm : Nat → Int), cs = [v] ∧ BindsIn w v n nm dm := by
  rcases slice_fields Tryd.underlying29 Tryd.underlying42 (by kernel_rfl) (by kernel_rfl) h with ⟨rfl, rfl⟩ | ⟨a, len, cap, m, D, Pl, rfl, hb, hlc, hcm, hm, rfl, hi⟩
  · exact ⟨_, 0, fun _ => ⟨#[]⟩, fun _ => 0, rfl, none, 0, rfl, by omega, fun h => by omega⟩
  · have hlm : len ≤ m := by rw [hm]; split <;> omega
    obtain ⟨hz, hd⟩ := light_slice hl Tryd.underlying29
    have hby : Tryd.prog.bytesOf 42 = 24 := by kernel_rfl
    rw [hby] at hz
    simp only [List.length_map, List.length_range, reachBytes] at hz
    have key : ∀ i, ∃ p : ByteArray × Int, i < len → w.cell? (a.add (i * 2)) = some (.string p.1) ∧ w.cell? (a.add (i * 2 + 1)) = some (.int .i64 p.2) ∧ p.1.size ≤ 140737488355328 ∧ -9223372036854775808 ≤ p.2 ∧ p.2 ≤ 9223372036854775807 := by
      intro i
      by_cases hlt : i < len
      · obtain ⟨ys, n, hD, -, -, hf⟩ := hi i (by omega)
        have hL := hd (D i) (List.mem_map_of_mem (List.mem_range.2 hlt))
        rw [hD] at hL
        obtain ⟨v0, y0, hc0, hy0, ht0⟩ := hf 0 _ rfl
        obtain ⟨v1, y1, hc1, hy1, ht1⟩ := hf 1 _ rfl
        obtain ⟨s, e0, rfl, -⟩ := DataW.trod_string Tryd.underlying9 ht0
        obtain ⟨z, e1, rfl, hw⟩ := DataW.trod_int Tryd.underlying3 ht1
        simp only [List.cons.injEq, and_true] at e0 e1
        subst e0 e1
        have hS := light_field hL Tryd.underlying42 (j := 0) rfl (by rw [List.getElem?_map, hy0]; rfl)
        exact ⟨(s, z), fun _ => ⟨hc0, hc1, light_string hS, (bounds_i64 hw).1, (bounds_i64 hw).2⟩⟩
      · exact ⟨(⟨#[]⟩, 0), fun h => absurd h hlt⟩
    obtain ⟨f, hf⟩ := Classical.axiomOfChoice key
    refine ⟨_, len, fun i => (f i).1, fun i => (f i).2, rfl, some a, cap, rfl, by omega, fun h0 => ?_⟩
    obtain ⟨ha, hlt⟩ := plain_addr (show w.cell? (a.add 0) = _ from (hf 0 h0).1)
    refine ⟨a.block, a.off, by rw [← ha], hlt, fun i hi => ?_⟩
    obtain ⟨h1, h2, h3⟩ := hf i hi
    rw [ha, add_plain] at h1 h2
    exact ⟨h1, h2, h3⟩

/-! Integers -/
theorem open_ints_in {fuel : Nat} {cs : List Value} {x : DataW H × List MemPlace} (h : DataW.trod enc Tryd.prog w base spare held fuel 28 cs = some x) (hl : Light Tryd.prog 28 x.1) : ∃ (v : Value) (n : Nat), cs = [v] ∧ IntsIn w v n := by
  have cellsInt : Tryd.prog.cellsOf 3 = 1 := by kernel_rfl
  have bytesInt : Tryd.prog.bytesOf 3 = 8 := by kernel_rfl
  rcases open_ints Tryd.underlying28 Tryd.underlying3 cellsInt h with ⟨rfl, rfl⟩ | ⟨a, len, cap, zs, rfl, _, hlc, hm, hz, rfl, hcell, hwz⟩
  · exact ⟨_, 0, rfl, _, _, rfl, by omega, fun h => by omega⟩
  · have hlz : len ≤ zs.length := by rw [hz]; split <;> omega
    have hreach := (light_slice hl Tryd.underlying28).1
    rw [bytesInt] at hreach
    simp only [lits, List.length_map, List.length_take, List.length_drop, reachBytes] at hreach
    refine ⟨_, len, rfl, _, _, rfl, by omega, fun h0 => ?_⟩
    obtain ⟨ha, hlt⟩ := plain_addr (hcell 0 (by omega))
    refine ⟨a.block, a.off, zs, by rw [← ha], hlt, fun i hi => ?_⟩
    have hc := hcell i (by omega)
    rw [ha, add_plain] at hc
    have hw := hwz (zs.getD i 0) (by
      have : zs.getD i 0 = zs[i]'(by omega) := by simp [List.getD, show i < zs.length by omega]
      rw [this]; exact List.getElem_mem _)
    exact ⟨hc, (bounds_i64 hw).1, (bounds_i64 hw).2⟩
end
end Go.Proofs.YtnhmebhmlbofgaaDoor

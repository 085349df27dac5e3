/- Bundle of texts: each says at its head what it proves; no conditions but those printed. -/
import Derived.Test.YtkghmghjgikihaaDoorB6
import Derived.WalkKit
import Derived.ProofKit
import Derived.OpenShut
import Derived.ShutString
import Derived.ChangeOld
import Derived.Below
import Derived.SizedLaws
import Derived.ChangeSlices
import Derived.Deep.Slices
import Derived.Deep.Fields
import Derived.ChangeSame
import Derived.Test.YtkghmghjgikihaaDoorRows
import Derived.Test.YtkghmghjgikihaaDoorB4
import Derived.Lib.LaidTab
import Derived.Stop.LaidErr
import Derived.Stop.Joined
import Derived.LaidLaws
import Derived.LaidHandle
import Derived.LaidSub
import Derived.MakeChecks
import Derived.Test.YtkghmghjgikihaaDoorB14
import Derived.Test.YtkghmghjgikihaaDoorB7
/- Arguments opened: trees of expressions. Over the program's types. -/
namespace Go.Proofs.YtkghmghjgikihaaDoor
open Go.ChangeShapes Go.WideShapes Go.ChangeAt Go.RowKit Go.Deep
set_option linter.unusedVariables false
section
variable {H : Type} {enc : TypeId × Value → H} {w : World} {base : Nat} {spare : Nat → Bool} {held : Bool}

/-- No slice or string in a datum is larger than memory. -/
def Light (P : Program) (t : TypeId) (d : DataW H) : Prop := ∀ n ∈ d.weights P t, n ≤ reachBytes
theorem light_all {P : Program} {e : TypeId} {l : List (DataW H)} {d : DataW H} (hd : d ∈ l) {n : Nat} (hn : n ∈ d.weights P e) : n ∈ DataW.weightsAll P e l := by
  induction l with
  | nil => cases hd
  | cons x l ih =>
    simp only [DataW.weightsAll, List.mem_append]
    rcases List.mem_cons.1 hd with rfl | h
    · exact .inl hn
    · exact .inr (ih h)
theorem light_slice {P : Program} {t e : TypeId} {l r : List (DataW H)} (h : Light P t (.slice l r)) (hu : P.underlying t = some (.slice e)) : (l.length + r.length) * P.bytesOf e ≤ reachBytes ∧ ∀ d ∈ l, Light P e d := by
  have hw : (DataW.slice l r).weights P t = (l.length + r.length) * P.bytesOf e :: (DataW.weightsAll P e l ++ DataW.weightsAll P e r) := by
    simp only [DataW.weights, hu]
  unfold Light at h
  rw [hw] at h
  exact ⟨h _ (List.mem_cons_self ..), fun d hd n hn => h n (List.mem_cons_of_mem _ (List.mem_append_left _ (light_all hd hn)))⟩
theorem light_field {P : Program} {t : TypeId} {fs : Array Field} {l : List (DataW H)} (h : Light P t (.agg l)) (hu : P.underlying t = some (.struct fs)) {j : Nat} {f : Field} {d : DataW H} (hf : fs[j]? = some f) (hd : l[j]? = some d) : Light P f.type d := by
  have hw : (DataW.agg l).weights P t = DataW.weightsEach P (fs.toList.map (·.type)) l := by
    simp only [DataW.weights, hu]
  unfold Light at h
  rw [hw] at h
  exact fun n hn => h n (DataW.weights_mem_each (j := j) (t := f.type) (by simp [hf]) hd n hn)
theorem light_string {P : Program} {t : TypeId} {s : ByteArray} (h : Light P t (.lit (.string s.data.toList) : DataW H)) : s.size ≤ 140737488355328 := by
  have := h s.data.toList.length (by simp [DataW.weights])
  have e : s.data.toList.length = s.size := by simp
  simp only [reachBytes] at this
  omega
theorem light_each {P : Program} {ts : List TypeId} {ds : List (DataW H)} (h : (DataW.weightsEach P ts ds).all (· ≤ reachBytes) = true) {j : Nat} {t : TypeId} {d : DataW H} (ht : ts[j]? = some t) (hd : ds[j]? = some d) : Light P t d := fun n hn => by
  simpa using List.all_eq_true.1 h n (DataW.weights_mem_each ht hd n hn)


theorem plain_addr {w : World} {a : Addr} {v : Value} (h : w.cell? (a.add 0) = some v) : a = ⟨a.block, a.off, none⟩ ∧ a.block < w.heap.size := by
  obtain ⟨b, off, spot⟩ := a
  have hspot : spot = none := by simpa [Addr.add] using World.cell?_spot h
  subst hspot
  rw [add_plain] at h
  exact ⟨rfl, World.block_lt_of_cell? w ⟨b, off + 0, none⟩ h⟩

theorem one_of {α : Type} {l : List α} {k : Nat} (h : l.length = k) (i : Nat) (hi : i < k) : ∃ a, (l.drop i).take 1 = [a] ∧ l[i]? = some a := by
  refine ⟨l[i]'(by omega), ?_, List.getElem?_eq_getElem (by omega)⟩
  rw [List.drop_eq_getElem_cons (by omega)]; rfl
theorem two_of {α : Type} {l : List α} {k : Nat} (h : l.length = k) (i : Nat) (hi : i + 1 < k) : ∃ a b, (l.drop i).take 2 = [a, b] ∧ l[i]? = some a ∧ l[i + 1]? = some b := by
  refine ⟨l[i]'(by omega), l[i + 1]'(by omega), ?_, List.getElem?_eq_getElem (by omega), List.getElem?_eq_getElem (by omega)⟩
  rw [List.drop_eq_getElem_cons (by omega), List.drop_eq_getElem_cons (by omega)]; rfl
set_option maxRecDepth 20000 in
open Tree in
theorem open_expr (F : Nat) : ∀ (fuel : Nat), fuel ≤ F → ∀ (cs : List Value) (x : DataW H × List MemPlace), DataW.trod enc Tryd.prog w base spare held fuel 26 cs = some x → Light Tryd.prog 26 x.1 →
    ∃ (t : Ex) (xv : Value), cs = [.int .i64 t.op, .int .i64 t.va, .int .i64 t.vb, .int .i64 t.dm, .string t.nm, xv] ∧ ExKids t w xv := by
  have cellsE : Tryd.prog.cellsOf 26 = 6 := by kernel_rfl
  have cellsF : Tryd.prog.cellsOf 23 = 2 := by kernel_rfl
  have cellsI : Tryd.prog.cellsOf 3 = 1 := by kernel_rfl
  have cellsS : Tryd.prog.cellsOf 9 = 1 := by kernel_rfl
  have cellsL : Tryd.prog.cellsOf 24 = 1 := by kernel_rfl
  have bytesE : Tryd.prog.bytesOf 26 = 72 := by kernel_rfl
  induction F with
  | zero =>
    intro fuel hf cs x h
    obtain rfl : fuel = 0 := by omega
    simp [DataW.trod] at h
  | succ F ih =>
    intro fuel hf cs x h hl
    obtain ⟨xs, n, hn, rfl, hlen, hxl, hfs⟩ := DataW.trod_struct Tryd.underlying26 h
    rw [cellsE] at hlen
    have f0 : DataW.trod enc Tryd.prog w base spare held n 3 ((cs.drop 0).take (Tryd.prog.cellsOf 3)) = xs[0]? := hfs 0 _ rfl
    have f1 : DataW.trod enc Tryd.prog w base spare held n 23 ((cs.drop 1).take (Tryd.prog.cellsOf 23)) = xs[1]? := hfs 1 _ rfl
    have f2 : DataW.trod enc Tryd.prog w base spare held n 3 ((cs.drop 3).take (Tryd.prog.cellsOf 3)) = xs[2]? := hfs 2 _ rfl
    have f3 : DataW.trod enc Tryd.prog w base spare held n 9 ((cs.drop 4).take (Tryd.prog.cellsOf 9)) = xs[3]? := hfs 3 _ rfl
    have f4 : DataW.trod enc Tryd.prog w base spare held n 24 ((cs.drop 5).take (Tryd.prog.cellsOf 24)) = xs[4]? := hfs 4 _ rfl
    (try dsimp only at f0 f1 f2 f3 f4)
    rw [cellsI] at f0 f2
    rw [cellsF] at f1
    rw [cellsS] at f3
    rw [cellsL] at f4
    obtain ⟨v0, e0, q0⟩ := one_of hlen 0 (by omega)
    obtain ⟨v1, v2, e1, q1, q2⟩ := two_of hlen 1 (by omega)
    obtain ⟨v3, e3, q3⟩ := one_of hlen 3 (by omega)
    obtain ⟨v4, e4, q4⟩ := one_of hlen 4 (by omega)
    obtain ⟨v5, e5, q5⟩ := one_of hlen 5 (by omega)
    have hcs : cs = [v0, v1, v2, v3, v4, v5] := by
      match cs, hlen with
      | [a0, a1, a2, a3, a4, a5], _ => simp at q0 q1 q2 q3 q4 q5; subst q0 q1 q2 q3 q4 q5; rfl
    rw [e0] at f0
    rw [e1] at f1
    rw [e3] at f2
    rw [e4] at f3
    rw [e5] at f4
    have g : ∀ i, i < 5 → ∃ y, xs[i]? = some y := fun i hi => ⟨_, List.getElem?_eq_getElem (by rw [hxl]; exact hi)⟩
    obtain ⟨y0, g0⟩ := g 0 (by omega)
    obtain ⟨y1, g1⟩ := g 1 (by omega)
    obtain ⟨y2, g2⟩ := g 2 (by omega)
    obtain ⟨y3, g3⟩ := g 3 (by omega)
    obtain ⟨y4, g4⟩ := g 4 (by omega)
    rw [g0] at f0
    rw [g1] at f1
    rw [g2] at f2
    rw [g3] at f3
    rw [g4] at f4
    obtain ⟨z0, r0, -, w0⟩ := DataW.trod_int Tryd.underlying3 f0
    obtain ⟨z3, r3, -, w3⟩ := DataW.trod_int Tryd.underlying3 f2
    obtain ⟨s, r4, hs, -⟩ := DataW.trod_string Tryd.underlying9 f3
    obtain ⟨ys, m, -, -, hyl, hyz, hys⟩ := DataW.trod_struct Tryd.underlying23 f1
    have k0 : DataW.trod enc Tryd.prog w base spare held m 3 (([v1, v2].drop 0).take (Tryd.prog.cellsOf 3)) = ys[0]? := hys 0 _ rfl
    have k1 : DataW.trod enc Tryd.prog w base spare held m 3 (([v1, v2].drop 1).take (Tryd.prog.cellsOf 3)) = ys[1]? := hys 1 _ rfl
    (try dsimp only at k0 k1)
    rw [cellsI] at k0 k1
    have j : ∀ i, i < 2 → ∃ y, ys[i]? = some y := fun i hi => ⟨_, List.getElem?_eq_getElem (by rw [hyz]; exact hi)⟩
    obtain ⟨u0, j0⟩ := j 0 (by omega)
    obtain ⟨u1, j1⟩ := j 1 (by omega)
    rw [j0] at k0
    rw [j1] at k1
    obtain ⟨z1, r1, -, w1⟩ := DataW.trod_int Tryd.underlying3 k0
    obtain ⟨z2, r2, -, w2⟩ := DataW.trod_int Tryd.underlying3 k1
    simp at r0 r1 r2 r3 r4
    subst r0 r1 r2 r3 r4
    have hS := light_field hl Tryd.underlying26 (j := 3) (d := y3.1) rfl (by rw [List.getElem?_map, g3]; rfl)
    rw [hs] at hS
    have hs1 := light_string hS
    have hL := light_field hl Tryd.underlying26 (j := 4) (d := y4.1) rfl (by rw [List.getElem?_map, g4]; rfl)
    have hI : I64s z0 z1 z2 z3 s := ⟨(bounds_i64 w0).1, (bounds_i64 w0).2, (bounds_i64 w1).1, (bounds_i64 w1).2, (bounds_i64 w2).1, (bounds_i64 w2).2, (bounds_i64 w3).1, (bounds_i64 w3).2, hs1⟩
    rcases DataW.trod_slice Tryd.underlying24 f4 with ⟨hc, hx⟩ | ⟨a, len, cap, elems, rest, n2, hn2, hc, hx, hb, hlc, hm, hle, hel, -, -⟩
    · simp at hc
      subst hc
      exact ⟨.mk z0 z1 z2 z3 s 0 (fun _ => .no), _, hcs, hI, by omega, none, 0, rfl, fun h => by omega⟩
    · simp at hc
      subst hc
      rw [hx] at hL
      obtain ⟨hz, hd⟩ := light_slice hL Tryd.underlying24
      rw [bytesE] at hz
      simp only [List.length_map, reachBytes] at hz
      have key : ∀ i, ∃ p : Ex × Value, i < len → (∃ cs', w.cells? base (a.add (i * 6)) 6 = some cs' ∧ cs' = [.int .i64 p.1.op, .int .i64 p.1.va, .int .i64 p.1.vb, .int .i64 p.1.dm, .string p.1.nm, p.2]) ∧ ExKids p.1 w p.2 := by
        intro i
        by_cases hlt : i < len
        · have h1 := hel i hlt
          rw [cellsE] at h1
          obtain ⟨ye, hye⟩ : ∃ y, elems[i]? = some y := ⟨_, List.getElem?_eq_getElem (by rw [hle]; exact hlt)⟩
          rw [hye] at h1
          obtain ⟨cs', hcs', ht⟩ := Option.bind_eq_some_iff.1 h1
          have hd' := hd ye.1 (List.mem_map_of_mem (List.mem_of_getElem? hye))
          obtain ⟨t, xv, e, hk⟩ := ih n2 (by omega) cs' ye ht hd'
          exact ⟨(t, xv), fun _ => ⟨⟨cs', hcs', e⟩, hk⟩⟩
        · exact ⟨(.no, .bool false), fun h => absurd h hlt⟩
      obtain ⟨p, hp⟩ := Classical.axiomOfChoice key
      refine ⟨.mk z0 z1 z2 z3 s len (fun i => (p i).1), _, hcs, hI, by omega, some a, cap, rfl, fun h0 => ?_⟩
      have cell : ∀ i, i < len → ∀ k v, [Value.int .i64 (p i).1.op, .int .i64 (p i).1.va, .int .i64 (p i).1.vb, .int .i64 (p i).1.dm, .string (p i).1.nm, (p i).2][k]? = some v → w.cell? ((a.add (i * 6)).add k) = some v := fun i hi k v hv => by
        obtain ⟨⟨cs', h1, h2⟩, -⟩ := hp i hi
        obtain ⟨_, h4, h5⟩ := World.cells?_some h1
        have hk : k < 6 := by
          have := (List.getElem?_eq_some_iff.1 hv).1
          simpa using this
        rw [h5 k hk, h2]; exact hv
      have c0 : w.cell? (a.add 0) = some (.int .i64 (p 0).1.op) := by
        have := cell 0 h0 0 _ rfl
        rw [Go.Deep.add_add] at this
        exact this
      obtain ⟨ha, hg⟩ := plain_addr c0
      refine ⟨a.block, a.off, by rw [← ha], hg, fun i hi => ?_⟩
      have cc : ∀ k v, [Value.int .i64 (p i).1.op, .int .i64 (p i).1.va, .int .i64 (p i).1.vb, .int .i64 (p i).1.dm, .string (p i).1.nm, (p i).2][k]? = some v → w.cell? ⟨a.block, a.off + i * 6 + k, none⟩ = some v := fun k v hv => by
        have h6 := cell i hi k v hv
        rw [ha, add_plain, add_plain] at h6
        exact h6
      exact ⟨(p i).2, ⟨cc 0 _ rfl, cc 1 _ rfl, cc 2 _ rfl, cc 3 _ rfl, cc 4 _ rfl, cc 5 _ rfl⟩, (hp i hi).2⟩
end
end Go.Proofs.YtkghmghjgikihaaDoor

/- What the listed variables give a walk, and a start that fits. No conditions but those printed. -/
namespace Go.Proofs.YtkghmghjgikihaaDoor
open Go.RowKit Go.ChangeShapes
set_option linter.unusedVariables false

theorem gPow : Tryd.prog.globalNamed "internal/strconv.uint64pow10" = some 0 := by kernel_rfl
theorem gPowType : (Tryd.prog.globals[0]?).map (·.type) = some 141 := by kernel_rfl
theorem cellsU64 : Tryd.prog.cellsOf 115 = 1 := by kernel_rfl
theorem cellsPow : Tryd.prog.cellsOf 141 = 20 := by kernel_rfl
theorem plain3 (w : World) : laidMetH Tryd.prog Rows.syntaxRawRow.laid w = laidMet Tryd.prog Rows.syntaxRawRow.laid w := MakeChecks.laidMetH_plain _ _ _ (by kernel_rfl)

theorem tab_of {W : World} {r : List (String × DataW Unit)} (h : laidMet Tryd.prog (("internal/strconv.uint64pow10", Lib.tabData .u64 Lib.pow10Tab) :: r) W) : TabW W :=
  Lib.tabIs_of_head gPow gPowType Tryd.underlying141 Tryd.underlying115 cellsU64 cellsPow h
theorem tab3 {W : World} (h : laidMetH Tryd.prog Rows.syntaxRawRow.laid W) : TabW W := by
  rw [plain3] at h
  exact tab_of h.tail.tail
/-! ### One start that fits -/
/-- The numbers of a row of integers. -/
def numsOf : DataW Unit → List Value
  | .agg l => l.map fun d => match d with | .lit (.int k n) => Value.int k n | _ => .bool false
  | _ => []
def put (cs : Array Value) : Obj → Obj
  | .cells _ t frozen => .cells cs t frozen
  | o => o
noncomputable def laidWorld (os : Os) : World :=
  let w0 := World.holding Tryd.prog os ⟨#[], #[], []⟩
  { w0 with heap := ((w0.heap.modify 2 (put (numsOf Rows.laid_math_bits_deBruijn32tab).toArray)).modify 3 (put (numsOf Rows.laid_math_bits_deBruijn64tab).toArray)).modify 0 (put (numsOf Rows.laid_internal_strconv_uint64pow10).toArray) }
theorem met3 (os : Os) (args : Array Value) : laidMetH Tryd.prog Rows.syntaxRawRow.laid ((laidWorld os).forCall (fun _ _ => 0) ⟨#[], args, []⟩).memory := by
  rw [plain3]
  exact laidMet_of_run' 8 (by kernel_rfl) (by kernel_rfl)

end Go.Proofs.YtkghmghjgikihaaDoor

/- Walk of the law SyntaxRaw. No conditions but those printed. -/
namespace Go.Proofs.YtkghmghjgikihaaDoor
open Go.RowKit Cal Str Tok Frac Txt Tree
attribute [local go_sem] calmUpon
set_option linter.unusedVariables false
set_option linter.unusedSimpArgs false

/-- What is left of a number of nodes. -/
def cnV (s l : Int) : Int := if s ≤ l then l - s else -1
theorem cn_bd {s l : Int} (h0 : 1 ≤ s) (h2 : 0 ≤ l) (h3 : l ≤ 200) : -1 ≤ cnV s l ∧ cnV s l ≤ 199 := by
  unfold cnV; split <;> omega
theorem cn_one {l : Int} (h : 0 ≤ l) : l - 1 = cnV (0 + 1) l := by
  unfold cnV; split <;> omega
theorem cn_step {a s l : Int} (h : 0 ≤ cnV a l) (hs : 1 ≤ s) : cnV s (cnV a l) = cnV (a + s) l := by
  unfold cnV at h ⊢
  by_cases h1 : a ≤ l
  · rw [if_pos h1]
    by_cases h2 : s ≤ l - a
    · rw [if_pos h2, if_pos (by omega)]; omega
    · rw [if_neg h2, if_neg (by omega)]
  · rw [if_neg h1] at h; omega
theorem cn_end {a b l : Int} (h : ¬ 0 ≤ cnV a l) (hab : a ≤ b) : cnV a l = cnV b l := by
  unfold cnV at h ⊢
  by_cases h1 : a ≤ l
  · rw [if_pos h1] at h; omega
  · rw [if_neg h1, if_neg (by omega)]

set_option maxHeartbeats 4000000 in
theorem count_any (t : Ex) : ∀ (x : Value) (w : World) (l : Int), ExKids t w x → 0 ≤ l → l ≤ 200 →
    Calls Tryd.prog 20 #[.agg #[.int .i64 t.op, .int .i64 t.va, .int .i64 t.vb, .int .i64 t.dm, .string t.nm, x], .int .i64 l] w (IntRes (cnV t.size l) w) := by
  induction t with
  | no => intro x w l h; exact h.elim
  | mk op a b d s n kid ih =>
    intro x w l h hl0 hl2
    obtain ⟨-, hn, ad, cap, rfl, hk⟩ := h
    have HK := Lib.hid hk
    have IH := Lib.hid ih
    have HD := Lib.hid (size_mk op a b d s n kid)
    unfold IntRes
    rw [HD.out]
    simp only [Ex.op, Ex.va, Ex.vb, Ex.dm, Ex.nm]
    clear hk ih
    go_enter Tryd.func20, Tryd.ntmps20
    go_wp2_with fail
    go_loopw [1, 5] (fun m i wx => ∃ k : Nat, k ≤ n ∧ i = .int .i64 k ∧ m = .int .i64 (cnV (smK (fun i => (kid i).size) k + 1) l) ∧ Hid (Rel (w.alloc (.cells #[.int .i64 op, .int .i64 a, .int .i64 b, .int .i64 d, .string s, .slice ad n cap] 26)) wx)) (fun _ i _ => n - (intOf i).toNat)
    case atStart => exact ⟨0, by omega, rfl, by rw [show smK (fun i => (kid i).size) 0 = 0 from rfl, ← cn_one hl0], by show Rel _ _; (show Rel _ _; repeat (first | with_reducible exact Rel.refl _ | with_reducible refine Rel.alloc ?_ _ | with_reducible refine Rel.setCell ?_ (by first | (simp; done) | (simp; omega)) _ | with_reducible refine Rel.drew ?_ | with_reducible refine Rel.trans ?_ H0.out))⟩
    case round =>
      obtain ⟨k, hkn, rfl, rfl, hR⟩ := hrel
      have hR2 := hR.out
      have q := keep6 hR2 (b := w.heap.size) (by first | (simp; done) | (simp; omega) | omega)
      have kc2_0_0 := q.1
      have kc2_0_1 := q.2.1
      have kc2_0_2 := q.2.2.1
      have kc2_0_3 := q.2.2.2.1
      have kc2_0_4 := q.2.2.2.2.1
      have kc2_0_5 := q.2.2.2.2.2.1
      have kf2_0_0 := q.2.2.2.2.2.2.1
      have kf2_0_1 := q.2.2.2.2.2.2.2.1
      have kf2_0_2 := q.2.2.2.2.2.2.2.2.1
      have kf2_0_3 := q.2.2.2.2.2.2.2.2.2.1
      have kf2_0_4 := q.2.2.2.2.2.2.2.2.2.2.1
      have kf2_0_5 := q.2.2.2.2.2.2.2.2.2.2.2.1
      have kl2_0 := q.2.2.2.2.2.2.2.2.2.2.2.2.1
      have kn2_0 := q.2.2.2.2.2.2.2.2.2.2.2.2.2.1
      have km2_0 := q.2.2.2.2.2.2.2.2.2.2.2.2.2.2
      clear q
      have kz2 := hR2.size
      (try simp only [World.size_alloc, World.size_setCell, World.size_drew] at kz2)
      have H2 := Lib.hid hR2
      clear hR2
      have RW : Hid (Rel w wr) := by
        show Rel _ _
        (show Rel _ _; repeat (first | with_reducible exact Rel.refl _ | with_reducible refine Rel.alloc ?_ _ | with_reducible refine Rel.setCell ?_ (by first | (simp; done) | (simp; omega)) _ | with_reducible refine Rel.drew ?_ | with_reducible refine Rel.trans ?_ H2.out | with_reducible refine Rel.trans ?_ H1.out | with_reducible refine Rel.trans ?_ H0.out))
      have hp := (smK_bd (f := fun i => (kid i).size) (n := k) (fun i _ => by have := size_pos (kid i); omega)).1
      have hq := smK_le (f := fun i => (kid i).size) (n := n) (i := k) (fun i => by have := size_pos (kid i); omega) hkn
      have hv := cn_bd (s := smK (fun i => (kid i).size) k + 1) (by omega) hl0 hl2
      by_cases hlt : k < n
      · by_cases hge : 0 ≤ cnV (smK (fun i => (kid i).size) k + 1) l
        · obtain ⟨g, off, rfl, hg, hc⟩ := HK.out (by omega)
          obtain ⟨xi, hs, hx⟩ := hc k hlt
          obtain ⟨xa, xc, rfl⟩ := kids_slice hx
          obtain ⟨c0, c1, c2, c3, c4, c5⟩ := six_rel hs RW.out hg
          have hmx : Hid (cnV (kid k).size (cnV (smK (fun i => (kid i).size) k + 1) l) = cnV (smK (fun i => (kid i).size) (k + 1) + 1) l) := by
            show _ = _
            rw [cn_step hge (size_pos _)]
            exact congrArg (cnV · l) (by simp only [smK]; omega)
          obtain ⟨V, hV⟩ : ∃ V, cnV (smK (fun i => (kid i).size) k + 1) l = V := ⟨_, rfl⟩
          rw [hV] at hmx hv hge ⊢
          obtain ⟨v0, v1⟩ := hv
          have C := Lib.hid fun w' (r : Rel w w') => IH.out k _ w' V (kids_rel hx r) hge (by omega)
          unfold IntRes at C
          obtain ⟨D, hDD⟩ : ∃ D, cnV (kid k).size V = D := ⟨_, rfl⟩
          rw [hDD] at C hmx
          have hD := cn_bd (s := (kid k).size) (size_pos _) hge (by omega : V ≤ 200)
          rw [hDD] at hD
          obtain ⟨d0, d2⟩ := hD
          have e1 : decide (0 ≤ V) = true := decide_eq_true hge
          clear hs hc hx hV hDD hp hq
          go_wp2_with fail
          refine (C.out _ (by show Rel _ _; refine RW.out.trans ?_; (show Rel _ _; repeat (first | with_reducible exact Rel.refl _ | with_reducible refine Rel.alloc ?_ _ | with_reducible refine Rel.setCell ?_ (by first | (simp; done) | (simp; omega)) _ | with_reducible refine Rel.drew ?_ | with_reducible refine Rel.trans ?_ H0.out)))).mono ?_
          rintro e w1 ⟨rfl, h1⟩
          have kz1 := h1.size
          (try simp only [World.size_alloc, World.size_setCell, World.size_drew] at kz1)
          have H1 := Lib.hid h1
          clear h1
          go_wp2
          go_roundw
          case rel => exact ⟨k + 1, by omega, by go_num, by rw [← hmx.out], by show Rel _ _; refine hR.out.trans ?_; (show Rel _ _; repeat (first | with_reducible exact Rel.refl _ | with_reducible refine Rel.alloc ?_ _ | with_reducible refine Rel.setCell ?_ (by first | (simp; done) | (simp; omega)) _ | with_reducible refine Rel.drew ?_ | with_reducible refine Rel.trans ?_ H1.out | with_reducible refine Rel.trans ?_ H0.out))⟩
          case measure => simp [intOf]; omega
        · have he := Lib.hid (cn_end (b := smK (fun i => (kid i).size) n + 1) hge (by omega))
          obtain ⟨V, hV⟩ : ∃ V, cnV (smK (fun i => (kid i).size) k + 1) l = V := ⟨_, rfl⟩
          rw [hV] at he hv hge ⊢
          obtain ⟨v0, v1⟩ := hv
          have e1 : decide (0 ≤ V) = false := decide_eq_false hge
          clear hV hp hq
          go_wp2
          go_ret
          exact ⟨int_ret he.out, RW.out⟩
      · have : k = n := by omega
        subst this
        obtain ⟨V, hV⟩ : ∃ V, cnV (smK (fun i => (kid i).size) k + 1) l = V := ⟨_, rfl⟩
        rw [hV] at hv ⊢
        obtain ⟨v0, v1⟩ := hv
        have HM := Lib.hid hV
        clear hV hp hq
        go_wp2
        go_ret
        exact ⟨int_ret (by rw [HM.out]), RW.out⟩

set_option maxHeartbeats 4000000 in
theorem Small_any (t : Ex) (x : Value) (w : World) (h : ExKids t w x) :
    Calls Tryd.prog 6 #[.agg #[.int .i64 t.op, .int .i64 t.va, .int .i64 t.vb, .int .i64 t.dm, .string t.nm, x]] w (BRes (decide (t.size ≤ 200)) w) := by
  obtain ⟨ad, cap, rfl⟩ := kids_slice h
  have C := Lib.hid fun w' (r : Rel w w') => count_any t _ w' 200 (kids_rel h r) (by omega) (by omega)
  have hp := size_pos t
  have hb := cn_bd (s := t.size) (l := 200) hp (by omega) (by omega)
  have hd : decide (t.size ≤ 200) = decide (0 ≤ cnV t.size 200) := by
    unfold cnV
    by_cases q : t.size ≤ 200
    · rw [if_pos q, decide_eq_true q]; exact (decide_eq_true (by omega)).symm
    · rw [if_neg q, decide_eq_false q]; exact (decide_eq_false (by omega)).symm
  unfold IntRes at C
  unfold BRes
  rw [hd]
  obtain ⟨V, hV⟩ : ∃ V, cnV t.size 200 = V := ⟨_, rfl⟩
  rw [hV] at hb C ⊢
  obtain ⟨v0, v1⟩ := hb
  clear hd hV hp h
  go_enter Tryd.func6, Tryd.ntmps6
  go_wp2_with fail
  refine (C.out _ (by (show Rel _ _; repeat (first | with_reducible exact Rel.refl _ | with_reducible refine Rel.alloc ?_ _ | with_reducible refine Rel.setCell ?_ (by first | (simp; done) | (simp; omega)) _ | with_reducible refine Rel.drew ?_ | with_reducible refine Rel.trans ?_ H0.out)))).mono ?_
  rintro e w1 ⟨rfl, h1⟩
  have kz1 := h1.size
  (try simp only [World.size_alloc, World.size_setCell, World.size_drew] at kz1)
  have H1 := Lib.hid h1
  clear h1
  go_wp2
  go_ret
  exact ⟨rfl, by (show Rel _ _; repeat (first | with_reducible exact Rel.refl _ | with_reducible refine Rel.alloc ?_ _ | with_reducible refine Rel.setCell ?_ (by first | (simp; done) | (simp; omega)) _ | with_reducible refine Rel.drew ?_ | with_reducible refine Rel.trans ?_ H1.out | with_reducible refine Rel.trans ?_ H0.out))⟩

set_option maxRecDepth 20000 in
set_option maxHeartbeats 8000000 in
theorem walk_SyntaxRaw (w : World) (ht : TabW w) (t : Ex) (x : Value) (h : ExKids t w x) :
    Calls Tryd.prog 3 #[.agg #[.int .i64 t.op, .int .i64 t.va, .int .i64 t.vb, .int .i64 t.dm, .string t.nm, x]] w (BRes true w) := by
  obtain ⟨xa, xc, rfl⟩ := kids_slice h
  obtain ⟨X, hX⟩ : ∃ X, w.alloc (.cells #[.int .i64 t.op, .int .i64 t.va, .int .i64 t.vb, .int .i64 t.dm, .string t.nm, .slice xa t.cnt xc] 26) = X := ⟨_, rfl⟩
  have RX : Rel w X := by rw [← hX]; exact (Rel.refl _).alloc _
  have BT := Lib.hid (BoxAt.new (w := w) (g := w.heap.size) rfl (.int .i64 t.op) (.int .i64 t.va) (.int .i64 t.vb) (.int .i64 t.dm) (.string t.nm) (.slice xa t.cnt xc) 26)
  rw [hX] at BT
  have TX := Lib.hid (ht.rel RX)
  have KT := Lib.hid (kids_rel h RX)
  have RXw := Lib.hid RX
  have SM := Lib.hid fun w' (r : Rel X w') => Small_any t _ w' (kids_rel KT.out r)
  clear ht h
  unfold BRes
  by_cases hz : t.size ≤ 200
  · have V1 := Lib.hid fun w' (r : Rel X w') => ValidExpr_any t _ w' (kids_rel KT.out r) (by omega) (Lib.hid (TX.out.rel r))
    have V2 := Lib.hid fun w' (r : Rel X w') => rValidExpr_any t _ w' (kids_rel KT.out r) (by omega)
    have D1 := Lib.hid fun w' (r : Rel X w') => Depth_any t _ w' (kids_rel KT.out r) (by omega)
    have D2 := Lib.hid fun w' (r : Rel X w') => rDepth_any t _ w' (kids_rel KT.out r) (by omega)
    have Z1 := Lib.hid fun w' (r : Rel X w') => Size_any t _ w' (kids_rel KT.out r) (by omega)
    have Z2 := Lib.hid fun w' (r : Rel X w') => rSize_any t _ w' (kids_rel KT.out r) (by omega)
    have A0 := Lib.hid fun w' (r : Rel X w') => awake_any w' (TX.out.rel r)
    rw [decide_eq_true hz] at SM
    unfold BRes at V1 V2 A0 SM
    unfold IntRes at D1 D2 Z1 Z2
    obtain ⟨v, hv⟩ : ∃ v, t.valid = v := ⟨_, rfl⟩
    obtain ⟨dd, hdd⟩ : ∃ v, t.depth = v := ⟨_, rfl⟩
    obtain ⟨zz, hzz⟩ : ∃ v, t.size = v := ⟨_, rfl⟩
    rw [hv] at V1 V2
    rw [hdd] at D1 D2
    rw [hzz] at Z1 Z2
    have bt := BT.out
    have b0 := bt.c0
    have b1 := bt.c1
    have b2 := bt.c2
    have b3 := bt.c3
    have b4 := bt.c4
    have b5 := bt.c5
    clear hv hdd hzz hz
    go_enter Tryd.func3, Tryd.ntmps3
    go_wp2_with fail
    (try rw [hX])
    refine (SM.out _ (Rel.refl _)).mono ?_
    rintro e wm ⟨rfl, hm⟩
    go_wp2_with fail
    refine wp_region_calm (fun _ w' => Rel X w') (fun _ => false) [0, 1, 2, 3, 4, 5, 6, 7, 8, 9, 10, 11, 12, 13, 14, 15, 16, 17, 18, 19, 20, 21, 22] 0 (by kernel_rfl) (by kernel_rfl) ?hst ?hS0 (fun w0 h0 => ?_)
    case hst => exact fun _ _ _ h r => h.trans r
    case hS0 => exact hm
    refine wpCalm_go rfl (by kernel_rfl) (fun K hK => ?_)
    apply Exists.intro
    refine ⟨fun M w hM hS => ?_, hK _ ?_⟩
    · unfold calmAt
      go_simp
      with_reducible refine (A0.out _ hS).mono ?_
      rintro e w1 ⟨rfl, hb⟩
      exact ⟨rfl, hb⟩
    clear hK K
    iterate 2
      refine wpCalm_go rfl (by kernel_rfl) (fun K hK => ?_)
      apply Exists.intro
      refine ⟨fun M w hM hS => ?_, hK _ ?_⟩
      · have c0 := hS.cell bt.c0
        have c1 := hS.cell bt.c1
        have c2 := hS.cell bt.c2
        have c3 := hS.cell bt.c3
        have c4 := hS.cell bt.c4
        have c5 := hS.cell bt.c5
        unfold calmAt
        go_simp
        exact ⟨rfl, Rel.refl _⟩
      clear hK K
    refine wpCalm_go rfl (by kernel_rfl) (fun K hK => ?_)
    apply Exists.intro
    refine ⟨fun M w hM hS => ?_, hK _ ?_⟩
    · unfold calmAt
      go_simp
      with_reducible refine (V1.out _ hS).mono ?_
      rintro e w1 ⟨rfl, hb⟩
      exact ⟨rfl, hb⟩
    clear hK K
    iterate 1
      refine wpCalm_go rfl (by kernel_rfl) (fun K hK => ?_)
      apply Exists.intro
      refine ⟨fun M w hM hS => ?_, hK _ ?_⟩
      · have c0 := hS.cell bt.c0
        have c1 := hS.cell bt.c1
        have c2 := hS.cell bt.c2
        have c3 := hS.cell bt.c3
        have c4 := hS.cell bt.c4
        have c5 := hS.cell bt.c5
        unfold calmAt
        go_simp
        exact ⟨rfl, Rel.refl _⟩
      clear hK K
    refine wpCalm_go rfl (by kernel_rfl) (fun K hK => ?_)
    apply Exists.intro
    refine ⟨fun M w hM hS => ?_, hK _ ?_⟩
    · unfold calmAt
      go_simp
      with_reducible refine (V2.out _ hS).mono ?_
      rintro e w1 ⟨rfl, hb⟩
      exact ⟨rfl, hb⟩
    clear hK K
    iterate 4
      refine wpCalm_go rfl (by kernel_rfl) (fun K hK => ?_)
      apply Exists.intro
      refine ⟨fun M w hM hS => ?_, hK _ ?_⟩
      · have c0 := hS.cell bt.c0
        have c1 := hS.cell bt.c1
        have c2 := hS.cell bt.c2
        have c3 := hS.cell bt.c3
        have c4 := hS.cell bt.c4
        have c5 := hS.cell bt.c5
        unfold calmAt
        go_simp
        exact ⟨rfl, Rel.refl _⟩
      clear hK K
    refine wpCalm_go rfl (by kernel_rfl) (fun K hK => ?_)
    apply Exists.intro
    refine ⟨fun M w hM hS => ?_, hK _ ?_⟩
    · unfold calmAt
      go_simp
      with_reducible refine (D1.out _ hS).mono ?_
      rintro e w1 ⟨rfl, hb⟩
      exact ⟨rfl, hb⟩
    clear hK K
    iterate 1
      refine wpCalm_go rfl (by kernel_rfl) (fun K hK => ?_)
      apply Exists.intro
      refine ⟨fun M w hM hS => ?_, hK _ ?_⟩
      · have c0 := hS.cell bt.c0
        have c1 := hS.cell bt.c1
        have c2 := hS.cell bt.c2
        have c3 := hS.cell bt.c3
        have c4 := hS.cell bt.c4
        have c5 := hS.cell bt.c5
        unfold calmAt
        go_simp
        exact ⟨rfl, Rel.refl _⟩
      clear hK K
    refine wpCalm_go rfl (by kernel_rfl) (fun K hK => ?_)
    apply Exists.intro
    refine ⟨fun M w hM hS => ?_, hK _ ?_⟩
    · unfold calmAt
      go_simp
      with_reducible refine (D2.out _ hS).mono ?_
      rintro e w1 ⟨rfl, hb⟩
      exact ⟨rfl, hb⟩
    clear hK K
    iterate 4
      refine wpCalm_go rfl (by kernel_rfl) (fun K hK => ?_)
      apply Exists.intro
      refine ⟨fun M w hM hS => ?_, hK _ ?_⟩
      · have c0 := hS.cell bt.c0
        have c1 := hS.cell bt.c1
        have c2 := hS.cell bt.c2
        have c3 := hS.cell bt.c3
        have c4 := hS.cell bt.c4
        have c5 := hS.cell bt.c5
        unfold calmAt
        go_simp
        exact ⟨rfl, Rel.refl _⟩
      clear hK K
    refine wpCalm_go rfl (by kernel_rfl) (fun K hK => ?_)
    apply Exists.intro
    refine ⟨fun M w hM hS => ?_, hK _ ?_⟩
    · unfold calmAt
      go_simp
      with_reducible refine (Z1.out _ hS).mono ?_
      rintro e w1 ⟨rfl, hb⟩
      exact ⟨rfl, hb⟩
    clear hK K
    iterate 1
      refine wpCalm_go rfl (by kernel_rfl) (fun K hK => ?_)
      apply Exists.intro
      refine ⟨fun M w hM hS => ?_, hK _ ?_⟩
      · have c0 := hS.cell bt.c0
        have c1 := hS.cell bt.c1
        have c2 := hS.cell bt.c2
        have c3 := hS.cell bt.c3
        have c4 := hS.cell bt.c4
        have c5 := hS.cell bt.c5
        unfold calmAt
        go_simp
        exact ⟨rfl, Rel.refl _⟩
      clear hK K
    refine wpCalm_go rfl (by kernel_rfl) (fun K hK => ?_)
    apply Exists.intro
    refine ⟨fun M w hM hS => ?_, hK _ ?_⟩
    · unfold calmAt
      go_simp
      with_reducible refine (Z2.out _ hS).mono ?_
      rintro e w1 ⟨rfl, hb⟩
      exact ⟨rfl, hb⟩
    clear hK K
    iterate 3
      refine wpCalm_go rfl (by kernel_rfl) (fun K hK => ?_)
      apply Exists.intro
      refine ⟨fun M w hM hS => ?_, hK _ ?_⟩
      · have c0 := hS.cell bt.c0
        have c1 := hS.cell bt.c1
        have c2 := hS.cell bt.c2
        have c3 := hS.cell bt.c3
        have c4 := hS.cell bt.c4
        have c5 := hS.cell bt.c5
        unfold calmAt
        go_simp
        exact ⟨rfl, Rel.refl _⟩
      clear hK K
    refine wpAnyR_end (by kernel_rfl) (fun w3 h3' => ?_)
    (try simp only [Act.put, List.setIfInBounds_toArray, List.set_cons_zero, List.set_cons_succ])
    have h3 := h0.trans h3'
    clear h0 h3'
    have kz3 := h3.size
    (try simp only [World.size_alloc, World.size_setCell, World.size_drew] at kz3)
    have H3 := Lib.hid h3
    clear h3
    go_wp2
    go_ret
    exact ⟨ret_b2 (by simp), RXw.out.trans (hm.trans H3.out)⟩
  · rw [decide_eq_false hz] at SM
    unfold BRes at SM
    have bt := BT.out
    have b0 := bt.c0
    have b1 := bt.c1
    have b2 := bt.c2
    have b3 := bt.c3
    have b4 := bt.c4
    have b5 := bt.c5
    clear hz
    go_enter Tryd.func3, Tryd.ntmps3
    go_wp2_with fail
    (try rw [hX])
    refine (SM.out _ (Rel.refl _)).mono ?_
    rintro e wm ⟨rfl, hm⟩
    go_wp2
    go_ret
    exact ⟨rfl, RXw.out.trans hm⟩

end Go.Proofs.YtkghmghjgikihaaDoor

/- A region that draws its order: the operations that yield one value in every world that meets S, and leave what was there as it was, are taken first, in the order of the text; the others are met in whatever order, with any growth of the world between them. Over any program. Its conditions are those of wp_region_calm. -/
import Derived.OrdersHeld
import Derived.Deep.Quiet
import Derived.StillTail
import Derived.Deep.RegionHeld3
import Derived.Below
namespace Go.Proofs.YtnhmebhmlbofgaaDoor
open Go.RowKit

/-- The second world is the first with blocks laid behind it and draws. -/
def Rel (w w' : World) : Prop := Below w.heap.size w w'
theorem Rel.refl (w : World) : Rel w w := Below.refl _ _
theorem Rel.trans {a b c : World} (h : Rel a b) (k : Rel b c) : Rel a c := Below.trans h (Below.mono k h.size)
theorem Rel.draw (w : World) : Rel w { w with drawn := w.drawn + 1 } := ⟨rfl, rfl, rfl, Nat.le_refl _, fun _ _ => rfl⟩
theorem Rel.cell {w w' : World} (h : Rel w w') {a : Addr} {v : Value} (hc : w.cell? a = some v) : w'.cell? a = some v := by
  rw [Below.cell h (World.block_lt_of_cell? w a hc)]; exact hc
theorem Rel.frozen {w w' : World} (h : Rel w w') {a : Addr} (ha : a.block < w.heap.size) (hc : w.frozen? a = false) : w'.frozen? a = false := by
  rw [Below.frozen h ha]; exact hc

theorem Rel.alloc {a b : World} (h : Rel a b) (o : Obj) : Rel a (b.alloc o) := Below.alloc h h.size o
theorem Rel.drew {a b : World} (h : Rel a b) : Rel a b.drew := Below.drew h
theorem Rel.setCell {a b : World} (h : Rel a b) {p : Addr} (hp : a.heap.size ≤ p.block) (u : Value) : Rel a (b.setCell p u) := Below.setCell h hp u
theorem Rel.lt {a b : World} (h : Rel a b) {n : Nat} (hn : n < a.heap.size) : n < b.heap.size := Nat.lt_of_lt_of_le hn h.size

section
variable {P : Program} {ops : Array Oper} {Q : Exit → Act → World → Prop} {md : Region.Mode} {S : Array Bool → World → Prop} {T : Nat → Bool}

/-- Does operation j wait for operation i, at first or at further hand? -/
def dep (md : Region.Mode) (ops : Array Oper) : Nat → Nat → Nat → Bool
  | 0, _, _ => false
  | f + 1, j, i =>
    match ops[j]? with
    | some oj => oj.after.any fun e => Region.binds md e && (e.on == i || dep md ops f e.on i)
    | none => false

/-- What has come up has all that it waits for behind it. -/
def Closed (md : Region.Mode) (ops : Array Oper) (L : Array Bool) : Prop :=
  ∀ (j : Nat) (oj : Oper), ops[j]? = some oj → L.getD j false = true → ∀ e ∈ oj.after, Region.binds md e = true → L.getD e.on false = true

theorem Closed.dep {L : Array Bool} (h : Closed md ops L) : ∀ (f j i : Nat), L.getD j false = true → dep md ops f j i = true → L.getD i false = true := by
  intro f
  induction f with
  | zero => intro j i _ hd; cases hd
  | succ f ih =>
    intro j i hj hd
    unfold Go.Proofs.YtnhmebhmlbofgaaDoor.dep at hd
    split at hd
    · rename_i oj ho
      obtain ⟨e, he, hb⟩ := Array.any_eq_true'.1 hd
      simp only [Bool.and_eq_true, Bool.or_eq_true, beq_iff_eq] at hb
      have h1 := h j oj ho hj e he hb.1
      rcases hb.2 with h2 | h2
      · rw [← h2]; exact h1
      · exact ih e.on i h1 h2
    · cases hd

theorem getD_set_self {L : Array Bool} {i : Nat} (h : L.getD i true = false) : (L.setIfInBounds i true).getD i false = true := by
  rcases Nat.lt_or_ge i L.size with h' | h'
  · simp [h']
  · simp [Array.getElem?_eq_none h'] at h

theorem Closed.set {L : Array Bool} (h : Closed md ops L) {i : Nat} (hi : i ∈ Region.ready md ops L) : Closed md ops (L.setIfInBounds i true) := by
  obtain ⟨hun, oi, hoi, hall⟩ := mem_ready.1 hi
  intro j oj hj hl e he hb
  by_cases hij : i = j
  · subst hij
    have : oj = oi := Option.some.inj (hj.symm.trans hoi)
    subst this
    exact getD_set_true (hall e he hb)
  · rw [getD_set_ne false hij] at hl
    exact getD_set_true (h j oj hj hl e he hb)

/-- What is asked of one operation that is taken first: the value v, in a world that has only grown. -/
def calmUpon (P : Program) (w : World) (v : Value) : Result Next → Prop
  | .ok (.value u) w' => u = v ∧ Rel w w'
  | .ok .skip w' => v = undef ∧ Rel w w'
  | .ok (.enter f args) w' => w' = w ∧ Calls P f args w (fun e w'' => e = .returned v ∧ Rel w w'')
  | _ => False
def calmAt (P : Program) (o : Oper) (a : Act) (w : World) (v : Value) : Prop := calmUpon P w v ((execOp a.eval o).run P w)

/-- None of the marked operations waits for operation i. -/
def Ahead (md : Region.Mode) (ops : Array Oper) (i : Nat) (M : Array Bool) : Prop := ∀ k, dep md ops ops.size k i = true → M.getD k false = false

/-- In state a operation o (number i) yields v in every world that meets S ahead of it. -/
def YieldsC (P : Program) (md : Region.Mode) (ops : Array Oper) (S : Array Bool → World → Prop) (i : Nat) (o : Oper) (v : Value) (a : Act) : Prop :=
  (Region.wanted o (yielded ops a.tmps) = true ∧ ∀ M w, Ahead md ops i M → S M w → calmAt P o a w v) ∨
  (Region.wanted o (yielded ops a.tmps) = false ∧ v = undef)

theorem YieldsC.wpOp {i : Nat} {o : Oper} {v : Value} {a : Act} (hi : ops[i]? = some o) (hy : YieldsC P md ops S i o v a)
    {K : Act → World → Prop} {w : World} {M : Array Bool} (hM : Ahead md ops i M) (hS : S M w) (h : ∀ w', Rel w w' → K (a.put o.dst v) w') : wpOp P ops Q i K a w := by
  unfold Go.wpOp
  simp only [hi]
  rcases hy with ⟨hw, hv⟩ | ⟨hw, rfl⟩
  · simp only [hw, if_true]
    refine .inl ?_
    have h3 := hv M w hM hS
    unfold calmAt at h3
    unfold Oper.wp
    generalize (execOp a.eval o).run P w = r at *
    cases r with
    | ok n w' =>
      cases n <;> simp only [calmUpon] at h3 <;> simp only [Oper.upon]
      case value u => obtain ⟨e1, e2⟩ := h3; rw [e1]; exact h _ e2
      case skip => obtain ⟨e1, e2⟩ := h3; rw [← e1]; exact h _ e2
      case enter f args =>
        obtain ⟨e1, hc⟩ := h3
        rw [e1]
        exact hc.mono fun e w'' ⟨he, hw''⟩ => by subst he; exact h _ hw''
    | halt x w' => simp only [calmUpon] at h3
  · simp only [hw, Bool.false_eq_true, if_false]; exact h _ (Rel.refl _)

theorem YieldsC.of_same {i : Nat} {o : Oper} {v : Value} {a a' : Act} (hy : YieldsC P md ops S i o v a) (he : execOp a'.eval o = execOp a.eval o)
    (hw : Region.wanted o (yielded ops a'.tmps) = Region.wanted o (yielded ops a.tmps)) : YieldsC P md ops S i o v a' := by
  unfold YieldsC calmAt at *
  rw [he, hw]
  exact hy

theorem wpOp_putC {i j : Nat} {oi oj : Oper} {v : Value} (hj : ops[j]? = some oj) (hap : oi.apart ops oj = true)
    (hsi : ∀ cs b, oi.op ≠ .select cs b) (hsj : ∀ cs b, oj.op ≠ .select cs b)
    (hQ : ∀ c a w, Q (.panic c) (a.put oi.dst v) w → Q (.panic c) a w) {K : Act → World → Prop} {a : Act} {w : World}
    (hy : YieldsC P md ops S i oi v a) (h : wpOp P ops Q j K (a.put oi.dst v) w) :
    wpOp P ops Q j (fun a' w' => YieldsC P md ops S i oi v a' ∧ K (a'.put oi.dst v) w') a w := by
  obtain ⟨h1, h2, h3⟩ := Oper.apart_spec hap
  have keep : ∀ (a : Act), YieldsC P md ops S i oi v a → ∀ u, YieldsC P md ops S i oi v (a.put oj.dst u) := fun a hy u =>
    hy.of_same (execOp_put oi hsi a oj.dst u h3) (wanted_put oi a oj.dst u h3)
  have keepD : ∀ d, YieldsC P md ops S i oi v { a with defers := d :: a.defers } := fun d => hy.of_same rfl rfl
  unfold wpOp at *
  simp only [hj] at *
  rw [wanted_put oj a oi.dst v h1] at h
  split
  · rename_i hw
    simp only [hw, if_true] at h
    rcases h with h | ⟨hasks, hlets⟩
    case inr => exact .inr ⟨by unfold Oper.asks at *; rw [execOp_put oj hsj a oi.dst v h1] at hasks; exact hasks, hlets⟩
    refine .inl ?_
    unfold Oper.wp at *
    rw [execOp_put oj hsj a oi.dst v h1] at h
    generalize (execOp a.eval oj).run P w = r at *
    cases r with
    | ok n w' =>
      cases n <;> simp only [Oper.upon] at h ⊢
      case value u => exact ⟨keep a hy u, by rw [← Act.put_comm a v u h2]; exact h⟩
      case skip => exact ⟨keep a hy _, by rw [← Act.put_comm a v undef h2]; exact h⟩
      case defer d =>
        refine ⟨keep _ (keepD d) _, ?_⟩
        rw [← Act.put_comm _ v undef h2, ← Act.put_defers]
        exact h
      case enter f args =>
        refine Calls.mono h fun e w'' he => ?_
        cases e with
        | returned u => exact ⟨keep a hy u, by rw [← Act.put_comm a v u h2]; exact he⟩
        | panicked c => exact hQ _ _ _ he
        | outgrown => exact he
      case row row args => exact Rows.mono h fun u w'' he => ⟨keep a hy u, by rw [← Act.put_comm a v u h2]; exact he⟩
    | halt x w' =>
      cases x <;> simp only [Oper.upon] at h ⊢
      case panic u => exact hQ _ _ _ h
  · rename_i hw
    simp only [hw] at h
    exact ⟨keep a hy _, by rw [← Act.put_comm a v undef h2]; exact h⟩

/-- The marks behind operation j: only the operations of T are marked. -/
def mark (T : Nat → Bool) (M : Array Bool) (j : Nat) : Array Bool := if T j = true then M.setIfInBounds j true else M

/-- Whatever order is picked from here on, with any growth of the world ahead of each operation and behind the last, and S behind each. -/
def wpAnyR (P : Program) (md : Region.Mode) (ops : Array Oper) (Q : Exit → Act → World → Prop) (S : Array Bool → World → Prop) (T : Nat → Bool) : Nat → Array Bool → Array Bool → Act → World → Prop
  | 0, _, L, a, w => Region.ready md ops L = [] ∧ ∀ w', Rel w w' → Q .normal a w'
  | f + 1, M, L, a, w =>
    (Region.ready md ops L = [] → ∀ w', Rel w w' → Q .normal a w') ∧
    ∀ i ∈ Region.ready md ops L, ∀ w', Rel w w' → wpOp P ops Q i (fun a' w'' => S (mark T M i) w'' ∧ wpAnyR P md ops Q S T f (mark T M i) (L.setIfInBounds i true) a' w'') a w'

theorem wpAny_of_R : ∀ (f : Nat) (M L : Array Bool) (a : Act) (w : World), wpAnyR P md ops Q S T f M L a w → wpAny P md ops Q f L a w
  | 0, _, _, _, _, h => ⟨h.1, h.2 _ (Rel.refl _)⟩
  | f + 1, _, _, _, _, h => ⟨fun h0 => h.1 h0 _ (Rel.refl _), fun i hi => wpOp_mono (fun a' w' h' => wpAny_of_R f _ _ a' w' h'.2) (h.2 i hi _ (Rel.refl _))⟩

theorem wpAnyR_rel : ∀ (f : Nat) {M L : Array Bool} {a : Act} {w w' : World}, wpAnyR P md ops Q S T f M L a w → Rel w w' → wpAnyR P md ops Q S T f M L a w'
  | 0, _, _, _, _, _, h, hr => ⟨h.1, fun w'' hw => h.2 w'' (hr.trans hw)⟩
  | _ + 1, _, _, _, _, _, h, hr => ⟨fun h0 w'' hw => h.1 h0 w'' (hr.trans hw), fun i hi w'' hw => h.2 i hi w'' (hr.trans hw)⟩

theorem mark_sub {M L : Array Bool} {j : Nat} (hj : L.getD j true = false) (h : ∀ k, M.getD k false = true → L.getD k false = true) : ∀ k, (mark T M j).getD k false = true → (L.setIfInBounds j true).getD k false = true := by
  intro k hk
  by_cases e : j = k
  · subst e; exact getD_set_self hj
  · unfold mark at hk
    split at hk
    · rw [getD_set_ne false e] at hk
      exact getD_set_true (h k hk)
    · exact getD_set_true (h k hk)

theorem ahead_of {M L : Array Bool} {i : Nat} (hc : Closed md ops L) (hs : ∀ k, M.getD k false = true → L.getD k false = true) (hi : L.getD i true = false) : Ahead md ops i M := by
  intro k hd
  cases hk : M.getD k false with
  | false => rfl
  | true =>
    have := hc.dep _ k i (hs k hk) hd
    rw [getD_both hi] at this
    cases this

theorem wpAnyR_first {i : Nat} {oi : Oper} {v : Value} (hi : ops[i]? = some oi) (hT : T i = false) (hsel : ∀ (j : Nat) (o : Oper) cs b, ops[j]? = some o → o.op ≠ .select cs b)
    (hQ : ∀ c a w, Q (.panic c) (a.put oi.dst v) w → Q (.panic c) a w) (hst : ∀ M w w', S M w → Rel w w' → S M w') :
    ∀ (f : Nat) (M L : Array Bool) (a : Act) (w : World), Closed md ops L → (∀ k, M.getD k false = true → L.getD k false = true) →
      (∀ j oj, ops[j]? = some oj → j ≠ i → L.getD j true = false → (∀ e ∈ oj.after, Region.binds md e = true → e.on ≠ i) → oi.apart ops oj = true) →
      i ∈ Region.ready md ops L → YieldsC P md ops S i oi v a → S M w →
      wpAnyR P md ops Q S T f M (L.setIfInBounds i true) (a.put oi.dst v) w → wpAnyR P md ops Q S T (f + 1) M L a w := by
  have hmark : ∀ M, mark T M i = M := fun M => by unfold mark; rw [hT]; rfl
  intro f
  induction f with
  | zero =>
    intro M L a w hcl hsub _ hr hy hS H
    refine ⟨fun h => (by rw [h] at hr; cases hr), fun j hj w1 hw1 => ?_⟩
    by_cases hji : j = i
    · subst hji
      refine hy.wpOp hi (ahead_of hcl hsub (mem_ready.1 hr).1) (hst _ _ _ hS hw1) fun w2 hw2 => ?_
      rw [hmark]
      exact ⟨hst _ _ _ hS (hw1.trans hw2), wpAnyR_rel _ H (hw1.trans hw2)⟩
    · have := ready_mono hj hji
      rw [H.1] at this
      cases this
  | succ f ih =>
    intro M L a w hcl hsub hfree hr hy hS H
    refine ⟨fun h => (by rw [h] at hr; cases hr), fun j hj w1 hw1 => ?_⟩
    by_cases hji : j = i
    · subst hji
      refine hy.wpOp hi (ahead_of hcl hsub (mem_ready.1 hr).1) (hst _ _ _ hS hw1) fun w2 hw2 => ?_
      rw [hmark]
      exact ⟨hst _ _ _ hS (hw1.trans hw2), wpAnyR_rel _ H (hw1.trans hw2)⟩
    · have h1 := H.2 j (ready_mono hj hji) w1 hw1
      obtain ⟨hjun, oj, hoj, hall⟩ := mem_ready.1 hj
      have hnot : ∀ e ∈ oj.after, Region.binds md e = true → e.on ≠ i := fun e he hb heq => by
        have h1 := hall e he hb
        have h0 := (mem_ready.1 hr).1
        rw [heq, getD_both h0] at h1
        cases h1
      have h2 := wpOp_putC hoj (hfree j oj hoj hji hjun hnot) (fun cs b => hsel i oi cs b hi) (fun cs b => hsel j oj cs b hoj) hQ hy h1
      have hfree' : ∀ k ok, ops[k]? = some ok → k ≠ i → (L.setIfInBounds j true).getD k true = false →
          (∀ e ∈ ok.after, Region.binds md e = true → e.on ≠ i) → oi.apart ops ok = true := fun k ok hk hki hun hno => by
        refine hfree k ok hk hki ?_ hno
        by_cases hjk : j = k
        · subst hjk; exact hjun
        · rw [getD_set_ne true hjk] at hun; exact hun
      refine wpOp_mono (fun a' w' h3 => ⟨h3.2.1, ih _ (L.setIfInBounds j true) a' w' (hcl.set hj) (mark_sub hjun hsub) hfree' (ready_mono hr (Ne.symm hji)) h3.1 h3.2.1 ?_⟩) h2
      rw [Array.setIfInBounds_comm _ _ hji]
      exact h3.2.2

/-- The operations cs, taken first one after the other, written out. -/
def wpCalm (P : Program) (md : Region.Mode) (ops : Array Oper) (S : Array Bool → World → Prop) (F : Act → Prop) : List Nat → Act → Prop
  | [], a => F a
  | i :: cs, a => ∃ o, ops[i]? = some o ∧
      if Region.wanted o (yielded ops a.tmps) then ∃ v, (∀ M w, Ahead md ops i M → S M w → calmAt P o a w v) ∧ wpCalm P md ops S F cs (a.put o.dst v)
      else wpCalm P md ops S F cs (a.put o.dst undef)

theorem wpCalm_nil {F : Act → Prop} {a : Act} (h : F a) : wpCalm P md ops S F [] a := h
theorem wpCalm_step {F : Act → Prop} {i : Nat} {cs : List Nat} {a : Act} {o : Oper} (ho : ops[i]? = some o) {v : Value}
    (hw : Region.wanted o (yielded ops a.tmps) = true) (hv : ∀ M w, Ahead md ops i M → S M w → calmAt P o a w v) (h : wpCalm P md ops S F cs (a.put o.dst v)) : wpCalm P md ops S F (i :: cs) a :=
  ⟨o, ho, by rw [if_pos hw]; exact ⟨v, hv, h⟩⟩
theorem wpCalm_skip {F : Act → Prop} {i : Nat} {cs : List Nat} {a : Act} {o : Oper} (ho : ops[i]? = some o)
    (hw : Region.wanted o (yielded ops a.tmps) = false) (h : wpCalm P md ops S F cs (a.put o.dst undef)) : wpCalm P md ops S F (i :: cs) a :=
  ⟨o, ho, by rw [if_neg (by rw [hw]; exact Bool.false_ne_true)]; exact h⟩

/-- The operation at a place, by looking. -/
def nthO : List Oper → Nat → Option Oper
  | [], _ => none
  | o :: _, 0 => some o
  | _ :: l, n + 1 => nthO l n
theorem nthO_eq : ∀ (l : List Oper) (i : Nat), nthO l i = l[i]?
  | [], _ => rfl
  | _ :: _, 0 => rfl
  | _ :: l, n + 1 => by rw [List.getElem?_cons_succ]; exact nthO_eq l n
theorem nthO_ops {i : Nat} {o : Oper} (h : nthO ops.toList i = some o) : ops[i]? = some o := by
  rw [nthO_eq] at h; simpa using h

/-- One operation at a time, what follows behind a variable. -/
theorem wpCalm_go {F : Act → Prop} {i : Nat} {cs : List Nat} {a : Act} {o : Oper} (ho : nthO ops.toList i = some o) (hw : Region.wanted o (yielded ops a.tmps) = true)
    (h : ∀ K : Act → Prop, (∀ a, wpCalm P md ops S F cs a → K a) → ∃ v, (∀ M w, Ahead md ops i M → S M w → calmAt P o a w v) ∧ K (a.put o.dst v)) : wpCalm P md ops S F (i :: cs) a := by
  obtain ⟨v, hv, hk⟩ := h _ (fun _ h => h)
  exact wpCalm_step (nthO_ops ho) hw hv hk
theorem wpCalm_no {F : Act → Prop} {i : Nat} {cs : List Nat} {a : Act} {o : Oper} (ho : nthO ops.toList i = some o) (hw : Region.wanted o (yielded ops a.tmps) = false)
    (h : ∀ K : Act → Prop, (∀ a, wpCalm P md ops S F cs a → K a) → K (a.put o.dst undef)) : wpCalm P md ops S F (i :: cs) a :=
  wpCalm_skip (nthO_ops ho) hw (h _ (fun _ h => h))

/-- May the operations cs be taken first, in this order? -/
def calmB (md : Region.Mode) (ops : Array Oper) : List Nat → Array Bool → Bool
  | [], _ => true
  | i :: cs, L => (Region.ready md ops L).contains i && Region.free md ops L i && calmB md ops cs (L.setIfInBounds i true)
/-- What has come up behind them. -/
def takenB : List Nat → Array Bool → Array Bool
  | [], L => L
  | i :: cs, L => takenB cs (L.setIfInBounds i true)

theorem wpAnyR_calms (hsel : Region.noSelect ops = true) (hQ : ∀ c a d v w, Q (.panic c) (Act.put a d v) w → Q (.panic c) a w) (hst : ∀ M w w', S M w → Rel w w' → S M w') (f : Nat) (M : Array Bool) (w : World) (hS : S M w) :
    ∀ (cs : List Nat) (L : Array Bool) (a : Act), (∀ i ∈ cs, T i = false) → Closed md ops L → (∀ k, M.getD k false = true → L.getD k false = true) → calmB md ops cs L = true →
      wpCalm P md ops S (fun a' => wpAnyR P md ops Q S T f M (takenB cs L) a' w) cs a → wpAnyR P md ops Q S T (f + cs.length) M L a w := by
  intro cs
  induction cs with
  | nil => intro L a _ _ _ _ h; exact h
  | cons i cs ih =>
    intro L a hTs hcl hsub hB h
    simp only [calmB, Bool.and_eq_true] at hB
    obtain ⟨⟨hr, hf⟩, hB'⟩ := hB
    have hr' : i ∈ Region.ready md ops L := by simpa using hr
    obtain ⟨o, ho, hh⟩ := h
    have hsub' : ∀ k, M.getD k false = true → (L.setIfInBounds i true).getD k false = true := fun k hk => getD_set_true (hsub k hk)
    by_cases hw : Region.wanted o (yielded ops a.tmps) = true
    · rw [if_pos hw] at hh
      obtain ⟨v, hv, hn⟩ := hh
      exact wpAnyR_first ho (hTs i (by simp)) (Region.noSelect_spec hsel) (fun c a w => hQ c a _ _ w) hst (f + cs.length) M L a w hcl hsub (Region.free_spec ho hf) hr' (.inl ⟨hw, hv⟩) hS
        (ih _ _ (fun j hj => hTs j (by simp [hj])) (hcl.set hr') hsub' hB' hn)
    · rw [if_neg hw] at hh
      exact wpAnyR_first ho (hTs i (by simp)) (Region.noSelect_spec hsel) (fun c a w => hQ c a _ _ w) hst (f + cs.length) M L a w hcl hsub (Region.free_spec ho hf) hr' (.inr ⟨by simpa using hw, rfl⟩) hS
        (ih _ _ (fun j hj => hTs j (by simp [hj])) (hcl.set hr') hsub' hB' hh)

/-! ### Behind the calm operations -/
theorem wpAnyR_done {f : Nat} {M L : Array Bool} {a : Act} {w : World} (hr : Region.ready md ops L = []) (h : ∀ w', Rel w w' → Q .normal a w') : wpAnyR P md ops Q S T f M L a w := by
  cases f with
  | zero => exact ⟨hr, h⟩
  | succ f => exact ⟨fun _ => h, fun i hi => (by rw [hr] at hi; cases hi)⟩

theorem wpAnyR_end {f : Nat} {M L : Array Bool} {a : Act} {w : World} (hr : Region.ready md ops L = []) (h : ∀ w', Rel w w' → Q .normal a w') : wpAnyR P md ops (NoPanic Q) S T f M L a w :=
  wpAnyR_done hr h

/-- Each of the operations rs comes up next. -/
def AllR (P : Program) (md : Region.Mode) (ops : Array Oper) (Q : Exit → Act → World → Prop) (S : Array Bool → World → Prop) (T : Nat → Bool) (f : Nat) (M L : Array Bool) (a : Act) (w : World) (rs : List Nat) : Prop :=
  ∀ i ∈ rs, ∀ w', Rel w w' → wpOp P ops Q i (fun a' w'' => S (mark T M i) w'' ∧ wpAnyR P md ops Q S T f (mark T M i) (L.setIfInBounds i true) a' w'') a w'
theorem AllR.nil {f : Nat} {M L : Array Bool} {a : Act} {w : World} : AllR P md ops Q S T f M L a w [] := fun _ h => by cases h
/-- The way back into the region, kept shut while an operation is run. -/
def Back (p : Prop) : Prop := p
theorem Back.out {p : Prop} (h : Back p) : p := h
theorem AllR.cons {f : Nat} {M L : Array Bool} {a : Act} {w : World} {i : Nat} {o : Oper} {rs : List Nat} (ho : nthO ops.toList i = some o)
    (h : ∀ w', Rel w w' → ∀ K' : Act → World → Prop, Back (∀ a w, S (mark T M i) w → wpAnyR P md ops Q S T f (mark T M i) (L.setIfInBounds i true) a w → K' a w) →
      if Region.wanted o (yielded ops a.tmps) = true then Oper.wp P o a w' K' Q else K' (a.put o.dst undef) w')
    (hs : AllR P md ops Q S T f M L a w rs) : AllR P md ops Q S T f M L a w (i :: rs) := fun j hj => by
  rcases List.mem_cons.1 hj with rfl | hj
  · exact fun w' hw' => wpOp_step (nthO_ops ho) (fun K' hK => h w' hw' K' (fun a w hS hW => hK a w ⟨hS, hW⟩))
  · exact hs j hj
theorem wpAnyR_ready {rs : List Nat} {f : Nat} {M L : Array Bool} {a : Act} {w : World} (hr : Region.ready md ops L = rs) (hne : rs ≠ [])
    (h : AllR P md ops Q S T f M L a w rs) : wpAnyR P md ops Q S T (f + 1) M L a w :=
  ⟨fun h0 => absurd (hr.symm.trans h0) hne, fun i hi => h i (by rw [← hr]; exact hi)⟩

/-- **The region.** cs: the operations that are taken first, in the order of the text; ts: how many are left; T: which of those are marked; S: what the region's loads and calls ask of the world. -/
theorem wp_region_calm {id : Nat} {a : Act} {w : World} (S : Array Bool → World → Prop) (T : Nat → Bool) (cs : List Nat) (ts : Nat) (hm : P.follows .mixedOrders = true)
    (hB : (Region.noSelect ops && decide (cs.length + ts = ops.size) && (cs.all fun i => !T i) && calmB .any ops cs (Array.replicate ops.size false)) = true)
    (hst : ∀ M w w', S M w → Rel w w' → S M w') (hS : S (Array.replicate ops.size false) w)
    (h : ∀ w0, Rel w w0 → wpCalm P .any ops S (fun a' => wpAnyR P .any ops (NoPanic Q) S T ts (Array.replicate ops.size false) (takenB cs (Array.replicate ops.size false)) a' w0) cs a) :
    (Code.region id ops true).wp P Q a w := by
  simp only [Bool.and_eq_true, decide_eq_true_eq, List.all_eq_true, Bool.not_eq_true'] at hB
  obtain ⟨⟨⟨h1, h2⟩, h3⟩, h4⟩ := hB
  refine wp_region_noPanic (wp_region_any hm (wpAny_of_R (S := S) (T := T) _ (Array.replicate ops.size false) _ _ _ ?_))
  have hcl : Closed .any ops (Array.replicate ops.size false) := fun j oj _ hl => by
    rw [getD_replicate_false] at hl; cases hl
  have := wpAnyR_calms (md := .any) (T := T) h1 (fun _ _ _ _ _ h => (h : False).elim) hst ts (Array.replicate ops.size false) _ (hst _ _ _ hS (Rel.draw w)) cs (Array.replicate ops.size false) a h3 hcl (fun k hk => hk) h4 (h _ (Rel.draw w))
  rw [show ts + cs.length = ops.size by omega] at this
  exact this

end
end Go.Proofs.YtnhmebhmlbofgaaDoor

/- Lemmas, each as it is printed; no conditions but those printed. -/
import Derived.Test.YthmlhheceihcbaaGreatDoorKB13
namespace Go.Proofs.YthmlhheceihcbaaGreatDoor
set_option maxHeartbeats 16000000
open Go.RowKit Go.Proofs.Tryz
section
variable {P : Program} {ops : Array Oper} {Q : Exit -> Act -> World -> Prop} {S : Array Bool -> World -> Prop} {T : Nat -> Bool}
def closedB (ops : Array Oper) (L : Array Bool) : Bool := (List.range ops.size).all fun j => match ops[j]? with
 | some oj => !L.getD j false || oj.after.all fun e => !Region.binds .any e || L.getD e.on false
 | none => true
def subB (M L : Array Bool) : Bool := (List.range M.size).all fun k => !M.getD k false || L.getD k false
theorem closedB_of {L : Array Bool} (h : closedB ops L = true) : Closed .any ops L := fun j oj hj hl e he hb => by
 unfold closedB at h;rw [List.all_eq_true] at h;have hlt : j < ops.size := (Array.getElem?_eq_some_iff.1 hj).1;have h1 := h j (List.mem_range.2 hlt);rw [hj] at h1;simp only [hl, Bool.not_true, Bool.false_or] at h1;rw [Array.all_eq_true_iff_forall_mem] at h1;have := h1 e he;rw [hb] at this;simpa using this
theorem subB_of {M L : Array Bool} (h : subB M L = true) : ∀ k, M.getD k false = true -> L.getD k false = true := fun k hk => by
 unfold subB at h;rw [List.all_eq_true] at h;by_cases hlt : k < M.size
 ·have := h k (List.mem_range.2 hlt);rw [hk] at this;simpa using this
 ·simp [Array.getElem?_eq_none (Nat.le_of_not_lt hlt)] at hk
theorem wpAnyR_more {M L : Array Bool} {a : Act} {w : World} (cs : List Nat) (f : Nat)
  (hB : (Region.noSelect ops && (cs.all fun i => !T i) && closedB ops L && subB M L && calmB .any ops cs L) = true)
  (hst : ∀ M w w', S M w -> Rel w w' -> S M w') (hS : S M w)
  (h : wpCalm P .any ops S (fun a' => wpAnyR P .any ops (NoPanic Q) S T f M (takenB cs L) a' w) cs a) : wpAnyR P .any ops (NoPanic Q) S T (f + cs.length) M L a w := by
 simp only [Bool.and_eq_true, List.all_eq_true, Bool.not_eq_true'] at hB;obtain ⟨⟨⟨⟨h1, h2⟩, h3⟩, h4⟩, h5⟩ := hB;exact wpAnyR_calms (md := .any) (T := T) h1 (fun _ _ _ _ _ h => (h : False).elim) hst f M w hS cs L a h2 (closedB_of h3) (subB_of h4) h5 h
end
section
variable {P : Program} {md : Region.Mode} {ops : Array Oper} {Q : Exit -> Act -> World -> Prop} {S : Array Bool -> World -> Prop} {T : Nat -> Bool}
inductive CalmN (P : Program) (md : Region.Mode) (ops : Array Oper) (S : Array Bool -> World -> Prop) (F : Act -> Prop) : List Oper -> Nat -> Act -> Prop
 | nil (i : Nat) (a : Act) (h : F a) : CalmN P md ops S F [] i a
 | go (o : Oper) (l : List Oper) (i : Nat) (a : Act) (v : Value) (hw : Region.wanted o (yielded ops a.tmps) = true) (hv : ∀ M w, Ahead md ops i M -> S M w -> calmAt P o a w v) (h : CalmN P md ops S F l (i + 1) (a.put o.dst v)) : CalmN P md ops S F (o :: l) i a
 | no (o : Oper) (l : List Oper) (i : Nat) (a : Act) (hw : Region.wanted o (yielded ops a.tmps) = false) (h : CalmN P md ops S F l (i + 1) (a.put o.dst undef)) : CalmN P md ops S F (o :: l) i a
theorem wcn_of {F : Act -> Prop} {l : List Oper} {i : Nat} {a : Act} (hc : CalmN P md ops S F l i a) : (∀ k, k < l.length -> l[k]? = ops[i + k]?) -> wpCalm P md ops S F (List.range' i l.length) a := by
 induction hc with
 | nil i a h => exact fun _ => h
 | go o l i a v hw hv h ih =>
  intro hl
  exact ⟨o, by simpa using (hl 0 (by simp)).symm, by rw [if_pos hw]; exact ⟨v, hv, ih (fun k hk => by have := hl (k + 1) (by simpa using hk); rw [List.getElem?_cons_succ] at this; rw [this]; congr 1; omega)⟩⟩
 | no o l i a hw h ih =>
  intro hl;exact ⟨o, by simpa using (hl 0 (by simp)).symm, by rw [if_neg (by rw [hw]; exact Bool.false_ne_true)]; exact ih (fun k hk => by have := hl (k + 1) (by simpa using hk); rw [List.getElem?_cons_succ] at this; rw [this]; congr 1; omega)⟩
theorem wpCalm_mono {F G : Act -> Prop} (hFG : ∀ a, F a -> G a) : ∀ (cs : List Nat) (a : Act), wpCalm P md ops S F cs a -> wpCalm P md ops S G cs a
 | [], a, h => hFG a h
 | i :: cs, a, h => by
  obtain ⟨o, ho, hh⟩ := h;refine ⟨o, ho, ?_⟩;by_cases hw : Region.wanted o (yielded ops a.tmps) = true
  ·rw [if_pos hw] at hh |-;obtain ⟨v, h1, h2⟩ := hh;exact ⟨v, h1, wpCalm_mono hFG cs _ h2⟩
  ·rw [if_neg hw] at hh |-;exact wpCalm_mono hFG cs _ hh
theorem wcn_nil {F : Act -> Prop} {i : Nat} {a : Act} (h : F a) : CalmN P md ops S F [] i a := .nil i a h
theorem wcn_go {F : Act -> Prop} {o : Oper} {l : List Oper} {i : Nat} {a : Act} {v : Value} (hw : Region.wanted o (yielded ops a.tmps) = true) (hv : ∀ M w, Ahead md ops i M -> S M w -> calmAt P o a w v) (h : CalmN P md ops S F l (i + 1) (a.put o.dst v)) : CalmN P md ops S F (o :: l) i a := .go o l i a v hw hv h
theorem wcn_ng {F : Act -> Prop} {o : Oper} {l : List Oper} {i : Nat} {a : Act} {v : Value} (hg : o.guard = none) (hv : ∀ M w, Ahead md ops i M -> S M w -> calmAt P o a w v) (h : CalmN P md ops S F l (i + 1) (a.put o.dst v)) : CalmN P md ops S F (o :: l) i a :=
 wcn_go (by unfold Region.wanted; rw [hg]) hv h
theorem wcn_no {F : Act -> Prop} {o : Oper} {l : List Oper} {i : Nat} {a : Act} (hw : Region.wanted o (yielded ops a.tmps) = false) (h : CalmN P md ops S F l (i + 1) (a.put o.dst undef)) : CalmN P md ops S F (o :: l) i a := .no o l i a hw h
theorem rci {w w1 : World} (h : Rel w w1) (a : Addr) (ha : (w.cell? a).isSome = true) : w1.cell? a = w.cell? a := by
 obtain ⟨v, hv⟩ := Option.isSome_iff_exists.1 ha;rw [hv]; exact h.cell hv
theorem zlaK {α : Type} {l : List α} {i : Nat} {a : α} : l.toArray.setIfInBounds i a = (l.set i a).toArray := by simp
theorem zlbK {α : Type} {x a : α} {l : List α} : (x :: l).set 0 a = a :: l := rfl
theorem zlcK {α : Type} {x a : α} {l : List α} {n : Nat} : (x :: l).set (n + 1) a = x :: l.set n a := rfl
theorem wrd {id : Nat} {a a' : Act} {w : World} (hk : ∀ w', Rel w w' -> Q .normal a' w') (hm : P.follows .mixedOrders = true := by kernel_rfl)
    (hB : (Region.noSelect ops && calmB .any ops (List.range' 0 ops.toList.length) (Array.replicate ops.size false)) = true := by kernel_rfl)
    (hr : Region.ready .any ops (takenB (List.range' 0 ops.toList.length) (Array.replicate ops.size false)) = [] := by kernel_rfl)
    (hc : CalmN P .any ops (fun _ w' => Rel w w') (fun x => x = a') ops.toList 0 a := by
      repeat (first
        | (apply wcn_ng
           · exact rfl
           · intro M w hM hS;have rc := rci hS;unfold calmAt;go_simp
             first
               | exact ⟨rfl, Rel.refl _⟩
               | (with_reducible refine (C0.out _ hS).mono ?_; rintro e w1 ⟨rfl, hb⟩; exact ⟨rfl, hb⟩)
               | (with_reducible refine (C1.out _ hS).mono ?_; rintro e w1 ⟨rfl, hb⟩; exact ⟨rfl, hb⟩)
               | (with_reducible refine (C2.out _ hS).mono ?_; rintro e w1 ⟨rfl, hb⟩; exact ⟨rfl, hb⟩)
               | (with_reducible refine (C3.out _).mono ?_; rintro e w1 ⟨rfl, rfl⟩; exact ⟨rfl, Rel.refl _⟩)
               | (with_reducible refine (C4.out _).mono ?_; rintro e w1 ⟨rfl, rfl⟩; exact ⟨rfl, Rel.refl _⟩)
               | (with_reducible refine (C5.out _).mono ?_; rintro e w1 ⟨rfl, hb⟩; exact ⟨rfl, hb⟩))
        | (refine wcn_no ?_ ?_
           · go_simp)
        | (apply wcn_go
           · kernel_rfl
           · intro M w hM hS;have rc := rci hS;unfold calmAt;go_simp
             first
               | exact ⟨rfl, Rel.refl _⟩
               | (with_reducible refine (C0.out _ hS).mono ?_; rintro e w1 ⟨rfl, hb⟩; exact ⟨rfl, hb⟩)
               | (with_reducible refine (C1.out _ hS).mono ?_; rintro e w1 ⟨rfl, hb⟩; exact ⟨rfl, hb⟩)
               | (with_reducible refine (C2.out _ hS).mono ?_; rintro e w1 ⟨rfl, hb⟩; exact ⟨rfl, hb⟩)
               | (with_reducible refine (C3.out _).mono ?_; rintro e w1 ⟨rfl, rfl⟩; exact ⟨rfl, Rel.refl _⟩)
               | (with_reducible refine (C4.out _).mono ?_; rintro e w1 ⟨rfl, rfl⟩; exact ⟨rfl, Rel.refl _⟩)
               | (with_reducible refine (C5.out _).mono ?_; rintro e w1 ⟨rfl, hb⟩; exact ⟨rfl, hb⟩)))
      refine wcn_nil ?_;(try simp only [Act.put, zlaK, zlbK, zlcK])
      exact rfl) : (Code.region id ops true).wp P Q a w := by
  simp only [Bool.and_eq_true] at hB;refine wp_region_calm (fun _ w' => Rel w w') (fun _ => false) (List.range' 0 ops.toList.length) 0 hm ?_ (fun _ _ _ h r => h.trans r) (Rel.refl w) (fun w0 h0 => ?_)
  · rw [hB.1, hB.2]; simp
  · have := wcn_of hc (by intro k _; simp);exact wpCalm_mono (fun x hx => by subst hx; exact wpAnyR_end hr (fun w' h' => hk w' (h0.trans h'))) _ _ this
end
section
variable {P : Program} {md : Region.Mode} {ops : Array Oper} {Q : Exit -> Act -> World -> Prop} {S : Array Bool -> World -> Prop} {T : Nat -> Bool}
def cellsAt (w : World) (g : Nat) : Nat -> List Value -> Prop
 | _, [] => True
 | i, v :: l => w.cell? ⟨g, i, none⟩ = some v /\ cellsAt w g (i + 1) l
theorem cellsAt_of {w : World} {g : Nat} : ∀ {l : List Value} {i : Nat}, (∀ j u, l[j]? = some u -> w.cell? ⟨g, i + j, none⟩ = some u) -> cellsAt w g i l
 | [], _, _ => trivial
 | v :: l, i, h => ⟨h 0 v rfl, cellsAt_of (fun j u hj => by have := h (j + 1) u (by simpa using hj); rw [show i + (j + 1) = i + 1 + j by omega] at this; exact this)⟩
theorem Blk.cs {w : World} {g : Nat} {T : TypeId} {l : List Value} (h : Blk w g T l) {p : Prop} (e : cellsAt w g 0 l = p := by simp only [cellsAt, and_true, Nat.zero_add, Nat.reduceAdd, List.set_cons_zero, List.set_cons_succ]; rfl) : p := e ▸ cellsAt_of (fun j u hj => by rw [Nat.zero_add]; exact h.c hj)
end
section
variable {P : Program} {md : Region.Mode} {ops : Array Oper} {Q : Exit -> Act -> World -> Prop} {S : Array Bool -> World -> Prop} {T : Nat -> Bool}
theorem wrp (n ts k : Nat) {id : Nat} {a a1 : Act} {w : World}
    (hk : ∀ w0, Rel w w0 -> wpAnyR P .any ops (NoPanic Q) (fun M w' => M.getD k false = false -> Rel w w') (fun i => i == k) ts (Array.replicate ops.size false) (takenB (List.range' 0 n) (Array.replicate ops.size false)) a1 w0) (hm : P.follows .mixedOrders = true := by kernel_rfl)
    (hB : (Region.noSelect ops && calmB .any ops (List.range' 0 n) (Array.replicate ops.size false) && (decide (n + ts = ops.size) && decide (n <= k))) = true := by kernel_rfl)
    (hc : CalmN P .any ops (fun M w' => M.getD k false = false -> Rel w w') (fun x => x = a1) (ops.toList.take n) 0 a := by
      repeat (first
        | (apply wcn_ng
           · exact rfl
           · intro M w hM hS;unfold calmAt
             first
               | (go_simp; exact ⟨rfl, Rel.refl _⟩)
               | (replace hS := hS (hM _ (by kernel_rfl)); have rc := rci hS; go_simp
                  first
                    | exact ⟨rfl, Rel.refl _⟩
                    | (with_reducible refine (C0.out _ hS).mono ?_; rintro e w1 ⟨rfl, hb⟩; exact ⟨rfl, hb⟩)
                    | (with_reducible refine (C1.out _ hS).mono ?_; rintro e w1 ⟨rfl, hb⟩; exact ⟨rfl, hb⟩)
                    | (with_reducible refine (C2.out _ hS).mono ?_; rintro e w1 ⟨rfl, hb⟩; exact ⟨rfl, hb⟩)
                    | (with_reducible refine (C3.out _).mono ?_; rintro e w1 ⟨rfl, rfl⟩; exact ⟨rfl, Rel.refl _⟩)
                    | (with_reducible refine (C4.out _).mono ?_; rintro e w1 ⟨rfl, rfl⟩; exact ⟨rfl, Rel.refl _⟩)
                    | (with_reducible refine (C5.out _).mono ?_; rintro e w1 ⟨rfl, hb⟩; exact ⟨rfl, hb⟩)))
        | (refine wcn_no ?_ ?_
           · go_simp)
        | (apply wcn_go
           · kernel_rfl
           · intro M w hM hS;unfold calmAt
             first
               | (go_simp; exact ⟨rfl, Rel.refl _⟩)
               | (replace hS := hS (hM _ (by kernel_rfl)); have rc := rci hS; go_simp
                  first
                    | exact ⟨rfl, Rel.refl _⟩
                    | (with_reducible refine (C0.out _ hS).mono ?_; rintro e w1 ⟨rfl, hb⟩; exact ⟨rfl, hb⟩)
                    | (with_reducible refine (C1.out _ hS).mono ?_; rintro e w1 ⟨rfl, hb⟩; exact ⟨rfl, hb⟩)
                    | (with_reducible refine (C2.out _ hS).mono ?_; rintro e w1 ⟨rfl, hb⟩; exact ⟨rfl, hb⟩)
                    | (with_reducible refine (C3.out _).mono ?_; rintro e w1 ⟨rfl, rfl⟩; exact ⟨rfl, Rel.refl _⟩)
                    | (with_reducible refine (C4.out _).mono ?_; rintro e w1 ⟨rfl, rfl⟩; exact ⟨rfl, Rel.refl _⟩)
                    | (with_reducible refine (C5.out _).mono ?_; rintro e w1 ⟨rfl, hb⟩; exact ⟨rfl, hb⟩))))
      refine wcn_nil ?_;(try simp only [Act.put, zlaK, zlbK, zlcK])
      exact rfl) : (Code.region id ops true).wp P Q a w := by
  simp only [Bool.and_eq_true, decide_eq_true_eq] at hB;have hks := hB.2.1;have hnk := hB.2.2;have hlen : (ops.toList.take n).length = n := by rw [List.length_take, Array.length_toList]; omega
  refine wp_region_calm (fun M w' => M.getD k false = false -> Rel w w') (fun i => i == k) (List.range' 0 n) ts hm ?_ (fun _ _ _ h r hM => (h hM).trans r) (fun _ => Rel.refl w) (fun w0 h0 => ?_)
  · rw [hB.1.1, hB.1.2];simp only [List.length_range', Bool.true_and, Bool.and_true, Bool.and_eq_true, decide_eq_true_eq, List.all_eq_true];refine ⟨hks, fun i hi => ?_⟩;rw [List.mem_range'_1] at hi;simp; omega
  · have h1 := wcn_of hc (by
      intro j hj;rw [hlen] at hj;rw [Nat.zero_add, List.getElem?_take, if_pos hj]
      simp)
    rw [hlen] at h1;refine wpCalm_mono (fun x hx => ?_) _ _ h1;subst hx;exact hk w0 h0
theorem wrc (C : World -> Prop) (n ts k : Nat) {id : Nat} {a a1 : Act} {w : World} (h0 : C w)
  (hk : ∀ w0, Rel w w0 -> wpAnyR P .any ops (NoPanic Q) (fun M w' => M.getD k false = false -> C w') (fun i => i == k) ts (Array.replicate ops.size false) (takenB (List.range' 0 n) (Array.replicate ops.size false)) a1 w0) (hm : P.follows .mixedOrders = true := by kernel_rfl)
  (hB : (Region.noSelect ops && calmB .any ops (List.range' 0 n) (Array.replicate ops.size false) && (decide (n + ts = ops.size) && decide (n <= k))) = true := by kernel_rfl)
  (hC : ∀ w w', C w -> Rel w w' -> C w' := by exact fun _ _ h r => r.cell h)
  (hc : CalmN P .any ops (fun M w' => M.getD k false = false -> C w') (fun x => x = a1) (ops.toList.take n) 0 a := by
   repeat (
    apply wcn_ng
    ·exact rfl
    ·intro M w hM hS;unfold calmAt
     first
      | (go_simp; exact ⟨rfl, Rel.refl _⟩)
      | (replace hS := hS (hM _ (by kernel_rfl)); (try dsimp only at hS); go_simp; exact ⟨rfl, Rel.refl _⟩))
   refine wcn_nil ?_;(try simp only [Act.put, zlaK, zlbK, zlcK])
   exact rfl) : (Code.region id ops true).wp P Q a w := by
 simp only [Bool.and_eq_true, decide_eq_true_eq] at hB;have hks := hB.2.1;have hlen : (ops.toList.take n).length = n := by rw [List.length_take, Array.length_toList]; omega
 refine wp_region_calm (fun M w' => M.getD k false = false -> C w') (fun i => i == k) (List.range' 0 n) ts hm ?_ (fun _ _ _ h r hM => hC _ _ (h hM) r) (fun _ => h0) (fun w0 h0 => ?_)
 ·rw [hB.1.1, hB.1.2];simp only [List.length_range', Bool.true_and, Bool.and_true, Bool.and_eq_true, decide_eq_true_eq, List.all_eq_true];refine ⟨hks, fun i hi => ?_⟩;rw [List.mem_range'_1] at hi;simp; omega
 ·have h1 := wcn_of hc (by
   intro j hj;rw [hlen] at hj;rw [Nat.zero_add, List.getElem?_take, if_pos hj]
   simp)
  rw [hlen] at h1;refine wpCalm_mono (fun x hx => ?_) _ _ h1;subst hx;exact hk w0 h0
theorem ao (i : Nat) {o : Oper} {f : Nat} {M L : Array Bool} {a : Act} {w : World} (h : ∀ w', Rel w w' -> ∀ K' : Act -> World -> Prop, Back (∀ a w, S (mark T M i) w -> wpAnyR P md ops Q S T f (mark T M i) (L.setIfInBounds i true) a w -> K' a w) -> if Region.wanted o (yielded ops a.tmps) = true then Oper.wp P o a w' K' Q else K' (a.put o.dst undef) w')
  (hr : Region.ready md ops L = [i] := by kernel_rfl) (ho : nthO ops.toList i = some o := by rfl) : wpAnyR P md ops Q S T (f + 1) M L a w :=
 wpAnyR_ready hr (by simp) (AllR.cons ho h AllR.nil)
theorem ae {f : Nat} {M L : Array Bool} {a : Act} {w : World} (h : ∀ w', Rel w w' -> Q .normal a w') (hr : Region.ready md ops L = [] := by kernel_rfl) : wpAnyR P md ops (NoPanic Q) S T f M L a w := wpAnyR_end hr h
theorem mkd {M : Array Bool} {k : Nat} {p : Prop} (hm : M.getD k false = true := by kernel_rfl) : M.getD k false = false -> p := fun h => absurd (h.symm.trans hm) (by simp)
end
section
variable {P : Program} {md : Region.Mode} {ops : Array Oper} {Q : Exit -> Act -> World -> Prop} {S : Array Bool -> World -> Prop} {T : Nat -> Bool}
inductive CalmL (P : Program) (md : Region.Mode) (ops : Array Oper) (S : Array Bool -> World -> Prop) (F : Act -> Prop) : List Nat -> Act -> Prop
 | nil (a : Act) (h : F a) : CalmL P md ops S F [] a
 | go (i : Nat) (o : Oper) (l : List Nat) (a : Act) (v : Value) (ho : nthO ops.toList i = some o) (hw : Region.wanted o (yielded ops a.tmps) = true) (hv : ∀ M w, Ahead md ops i M -> S M w -> calmAt P o a w v) (h : CalmL P md ops S F l (a.put o.dst v)) : CalmL P md ops S F (i :: l) a
 | no (i : Nat) (o : Oper) (l : List Nat) (a : Act) (ho : nthO ops.toList i = some o) (hw : Region.wanted o (yielded ops a.tmps) = false) (h : CalmL P md ops S F l (a.put o.dst undef)) : CalmL P md ops S F (i :: l) a
theorem wql_of {F : Act -> Prop} {l : List Nat} {a : Act} (h : CalmL P md ops S F l a) : wpCalm P md ops S F l a := by
 induction h with
 | nil a h => exact h
 | go i o l a v ho hw hv _ ih => exact ⟨o, by rw [<- Array.getElem?_toList]; rw [<- nthO_eq]; exact ho, by rw [if_pos hw]; exact ⟨v, hv, ih⟩⟩
 | no i o l a ho hw _ ih => exact ⟨o, by rw [<- Array.getElem?_toList]; rw [<- nthO_eq]; exact ho, by rw [if_neg (by rw [hw]; exact Bool.false_ne_true)]; exact ih⟩
theorem wql_nil {F : Act -> Prop} {a : Act} (h : F a) : CalmL P md ops S F [] a := .nil a h
theorem wql_ng {F : Act -> Prop} {i : Nat} {o : Oper} {l : List Nat} {a : Act} {v : Value} (ho : nthO ops.toList i = some o) (hg : o.guard = none) (hv : ∀ M w, Ahead md ops i M -> S M w -> calmAt P o a w v) (h : CalmL P md ops S F l (a.put o.dst v)) : CalmL P md ops S F (i :: l) a := .go i o l a v ho (by unfold Region.wanted; rw [hg]) hv h
theorem wql_go {F : Act -> Prop} {i : Nat} {o : Oper} {l : List Nat} {a : Act} {v : Value} (ho : nthO ops.toList i = some o) (hw : Region.wanted o (yielded ops a.tmps) = true) (hv : ∀ M w, Ahead md ops i M -> S M w -> calmAt P o a w v) (h : CalmL P md ops S F l (a.put o.dst v)) : CalmL P md ops S F (i :: l) a := .go i o l a v ho hw hv h
theorem wql_no {F : Act -> Prop} {i : Nat} {o : Oper} {l : List Nat} {a : Act} (ho : nthO ops.toList i = some o) (hw : Region.wanted o (yielded ops a.tmps) = false) (h : CalmL P md ops S F l (a.put o.dst undef)) : CalmL P md ops S F (i :: l) a := .no i o l a ho hw h
theorem cql {k : Nat} {cs : List Nat} {a a1 : Act} {w : World}
    (h : CalmL P .any ops (fun M w' => M.getD k false = false -> Rel w w') (fun x => x = a1) cs a := by
      repeat (first
        | (apply wql_ng
           · exact rfl
           · exact rfl
           · intro M w hM hS;unfold calmAt
             first
               | (go_simp; exact ⟨rfl, Rel.refl _⟩)
               | (replace hS := hS (hM _ (by kernel_rfl)); have rc := rci hS; go_simp
                  first
                    | exact ⟨rfl, Rel.refl _⟩
                    | (with_reducible refine (C0.out _ hS).mono ?_; rintro e w1 ⟨rfl, hb⟩; exact ⟨rfl, hb⟩)
                    | (with_reducible refine (C1.out _ hS).mono ?_; rintro e w1 ⟨rfl, hb⟩; exact ⟨rfl, hb⟩)
                    | (with_reducible refine (C3.out _).mono ?_; rintro e w1 ⟨rfl, rfl⟩; exact ⟨rfl, Rel.refl _⟩)
                    | (with_reducible refine (C4.out _).mono ?_; rintro e w1 ⟨rfl, rfl⟩; exact ⟨rfl, Rel.refl _⟩)
                    | (with_reducible refine (C6.out _).mono ?_; rintro e w1 ⟨rfl, rfl⟩; exact ⟨rfl, Rel.refl _⟩)
                    | (with_reducible refine (C5.out _).mono ?_; rintro e w1 ⟨rfl, hb⟩; exact ⟨rfl, hb⟩)))
        | (apply wql_no
           · exact rfl
           · go_simp)
        | (apply wql_go
           · exact rfl
           · kernel_rfl
           · intro M w hM hS;unfold calmAt
             first
               | (go_simp; exact ⟨rfl, Rel.refl _⟩)
               | (replace hS := hS (hM _ (by kernel_rfl)); have rc := rci hS; go_simp
                  first
                    | exact ⟨rfl, Rel.refl _⟩
                    | (with_reducible refine (C0.out _ hS).mono ?_; rintro e w1 ⟨rfl, hb⟩; exact ⟨rfl, hb⟩)
                    | (with_reducible refine (C1.out _ hS).mono ?_; rintro e w1 ⟨rfl, hb⟩; exact ⟨rfl, hb⟩))))
      refine wql_nil ?_;(try simp only [Act.put, zlaK, zlbK, zlcK])
      exact rfl) : CalmL P .any ops (fun M w' => M.getD k false = false -> Rel w w') (fun x => x = a1) cs a := h
theorem wrq (cs : List Nat) (ts k : Nat) {id : Nat} {a a1 : Act} {w : World}
  (hk : ∀ w0, Rel w w0 -> wpAnyR P .any ops (NoPanic Q) (fun M w' => M.getD k false = false -> Rel w w') (fun i => i == k) ts (Array.replicate ops.size false) (takenB cs (Array.replicate ops.size false)) a1 w0) (hm : P.follows .mixedOrders = true := by kernel_rfl)
  (hB : (Region.noSelect ops && decide (cs.length + ts = ops.size) && (cs.all fun i => !(i == k)) && calmB .any ops cs (Array.replicate ops.size false)) = true := by kernel_rfl)
  (hc : CalmL P .any ops (fun M w' => M.getD k false = false -> Rel w w') (fun x => x = a1) cs a := by exact cql) : (Code.region id ops true).wp P Q a w :=
 wp_region_calm (fun M w' => M.getD k false = false -> Rel w w') (fun i => i == k) cs ts hm hB (fun _ _ _ h r hM => (h hM).trans r) (fun _ => Rel.refl w) (fun w0 h0 => wpCalm_mono (fun x hx => by subst hx; exact hk w0 h0) _ _ (wql_of hc))
theorem wrm (cs : List Nat) (f k : Nat) {M L : Array Bool} {a a1 : Act} {w w1 : World} (hS : M.getD k false = false -> Rel w w1)
  (hk : wpAnyR P .any ops (NoPanic Q) (fun M w' => M.getD k false = false -> Rel w w') (fun i => i == k) f M (takenB cs L) a1 w1)
  (hB : (Region.noSelect ops && (cs.all fun i => !(i == k)) && closedB ops L && subB M L && calmB .any ops cs L) = true := by kernel_rfl)
  (hc : CalmL P .any ops (fun M w' => M.getD k false = false -> Rel w w') (fun x => x = a1) cs a := by exact cql) : wpAnyR P .any ops (NoPanic Q) (fun M w' => M.getD k false = false -> Rel w w') (fun i => i == k) (f + cs.length) M L a w1 :=
 wpAnyR_more cs f hB (fun _ _ _ h r hM => (h hM).trans r) hS (wpCalm_mono (fun x hx => by subst hx; exact hk) _ _ (wql_of hc))
theorem wpAnyR_S {S S2 : Array Bool -> World -> Prop} (hS : ∀ M w, S2 M w -> S M w) : ∀ (f : Nat) {M L : Array Bool} {a : Act} {w : World}, wpAnyR P md ops Q S2 T f M L a w -> wpAnyR P md ops Q S T f M L a w
 | 0, _, _, _, _, h => h
 | f + 1, _, _, _, _, h => ⟨h.1, fun i hi w' hw => wpOp_mono (fun _ _ h' => ⟨hS _ _ h'.1, wpAnyR_S hS f h'.2⟩) (h.2 i hi w' hw)⟩
theorem wre {k f : Nat} {M L : Array Bool} {a : Act} {w W1 w1 : World} (r : Rel w W1) (h : wpAnyR P md ops Q (fun M w' => M.getD k false = false -> Rel W1 w') T f M L a w1) : wpAnyR P md ops Q (fun M w' => M.getD k false = false -> Rel w w') T f M L a w1 := wpAnyR_S (fun _ _ h hM => r.trans (h hM)) f h
theorem ao2 (i j : Nat) {o p : Oper} {f : Nat} {M L : Array Bool} {a : Act} {w : World}
  (h : ∀ w', Rel w w' -> ∀ K' : Act -> World -> Prop, Back (∀ a w, S (mark T M i) w -> wpAnyR P md ops Q S T f (mark T M i) (L.setIfInBounds i true) a w -> K' a w) -> if Region.wanted o (yielded ops a.tmps) = true then Oper.wp P o a w' K' Q else K' (a.put o.dst undef) w')
  (k : ∀ w', Rel w w' -> ∀ K' : Act -> World -> Prop, Back (∀ a w, S (mark T M j) w -> wpAnyR P md ops Q S T f (mark T M j) (L.setIfInBounds j true) a w -> K' a w) -> if Region.wanted p (yielded ops a.tmps) = true then Oper.wp P p a w' K' Q else K' (a.put p.dst undef) w')
  (hr : Region.ready md ops L = [i, j] := by kernel_rfl) (ho : nthO ops.toList i = some o := by rfl) (hp : nthO ops.toList j = some p := by rfl) : wpAnyR P md ops Q S T (f + 1) M L a w :=
 wpAnyR_ready hr (by simp) (AllR.cons ho h (AllR.cons hp k AllR.nil))
theorem wways {f : Nat} {M L : Array Bool} {a : Act} {w : World} {a' : Nat -> Nat -> Act} {Φ : Nat -> Nat -> World -> Prop} (hk : ∀ x y Z, Φ x y Z -> Q .normal (a' x y) Z) (h : ∀ Q' : Exit -> Act -> World -> Prop, (∀ x y Z, Φ x y Z -> Q' .normal (a' x y) Z) -> wpAnyR P md ops (NoPanic Q') S T f M L a w) : wpAnyR P md ops (NoPanic Q) S T f M L a w := h Q hk
end
end Go.Proofs.YthmlhheceihcbaaGreatDoor

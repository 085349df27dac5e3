/- How a tree lies in memory; contracts of Depth. No conditions but those printed. -/
import Derived.Test.YtnhmebhmlbofgaaDoorEx
import Derived.Test.YtnhmebhmlbofgaaDoorRatJ
import Derived.Test.YtnhmebhmlbofgaaDoorCarry
namespace Go.Proofs.YtnhmebhmlbofgaaDoor
open Go.RowKit Cal Str Tok Frac Txt Tree
attribute [local go_sem] calmUpon
set_option linter.unusedVariables false
set_option linter.unusedSimpArgs false

/-- A tree's own six cells at an address. -/
structure Six (w : World) (g o : Nat) (op a b d : Int) (s : ByteArray) (x : Value) : Prop where
  c0 : w.cell? ⟨g, o, none⟩ = some (.int .i64 op)
  c1 : w.cell? ⟨g, o + 1, none⟩ = some (.int .i64 a)
  c2 : w.cell? ⟨g, o + 2, none⟩ = some (.int .i64 b)
  c3 : w.cell? ⟨g, o + 3, none⟩ = some (.int .i64 d)
  c4 : w.cell? ⟨g, o + 4, none⟩ = some (.string s)
  c5 : w.cell? ⟨g, o + 5, none⟩ = some x
structure I64s (op a b d : Int) (s : ByteArray) : Prop where
  o0 : -9223372036854775808 ≤ op
  o1 : op ≤ 9223372036854775807
  a0 : -9223372036854775808 ≤ a
  a1 : a ≤ 9223372036854775807
  b0 : -9223372036854775808 ≤ b
  b1 : b ≤ 9223372036854775807
  d0 : -9223372036854775808 ≤ d
  d1 : d ≤ 9223372036854775807
  s1 : s.size ≤ 140737488355328

/-- The slice x holds the operands of the tree. -/
def ExKids : Ex → World → Value → Prop
  | .no, _, _ => False
  | .mk op a b d s n kid, w, x => I64s op a b d s ∧ n ≤ 17592186044416 ∧ ∃ (ad : Option Addr) (cap : Nat), x = .slice ad n cap ∧ (0 < n → ∃ g off, ad = some ⟨g, off, none⟩ ∧ g < w.heap.size ∧ ∀ i, i < n → ∃ xi, Six w g (off + i * 6) (kid i).op (kid i).va (kid i).vb (kid i).dm (kid i).nm xi ∧ ExKids (kid i) w xi)

theorem six_rel {w w' : World} {g o : Nat} {op a b d : Int} {s : ByteArray} {x : Value} (h : Six w g o op a b d s x) (r : Rel w w') (hg : g < w.heap.size) : Six w' g o op a b d s x :=
  ⟨r.cell h.c0, r.cell h.c1, r.cell h.c2, r.cell h.c3, r.cell h.c4, r.cell h.c5⟩
theorem kids_rel {t : Ex} : ∀ {w w' : World} {x : Value}, ExKids t w x → Rel w w' → ExKids t w' x := by
  induction t with
  | no => intro w w' x h; exact h.elim
  | mk op a b d s n kid ih =>
    intro w w' x h r
    obtain ⟨h1, h2, ad, cap, rfl, hk⟩ := h
    refine ⟨h1, h2, ad, cap, rfl, fun h0 => ?_⟩
    obtain ⟨g, off, rfl, hg, hc⟩ := hk h0
    refine ⟨g, off, rfl, Nat.lt_of_lt_of_le hg r.size, fun i hi => ?_⟩
    obtain ⟨xi, hs, hx⟩ := hc i hi
    exact ⟨xi, six_rel hs r hg, ih i hx r⟩

theorem kids_slice {t : Ex} {w : World} {x : Value} (h : ExKids t w x) : ∃ (ad : Option Addr) (cap : Nat), x = .slice ad t.cnt cap := by
  cases t with
  | no => exact h.elim
  | mk op a b d s n kid =>
    obtain ⟨-, -, ad, cap, rfl, -⟩ := h
    exact ⟨ad, cap, rfl⟩
theorem kids_bd {t : Ex} {w : World} {x : Value} (h : ExKids t w x) : I64s t.op t.va t.vb t.dm t.nm ∧ t.cnt ≤ 17592186044416 := by
  cases t with
  | no => exact h.elim
  | mk op a b d s n kid =>
    obtain ⟨h1, h2, -⟩ := h
    exact ⟨h1, h2⟩

def IntRes (n : Int) (w : World) (e : Ending) (w' : World) : Prop := e = .returned (.int .i64 n) ∧ Rel w w'
theorem int_ret {a b : Int} (h : a = b) : Ending.returned (.int .i64 a) = .returned (.int .i64 b) := by rw [h]

theorem keep6 {W w1 : World} (h : Rel W w1) {b : Nat} (hb : b < W.heap.size) : w1.cell? ⟨b, 0, none⟩ = W.cell? ⟨b, 0, none⟩ ∧ w1.cell? ⟨b, 1, none⟩ = W.cell? ⟨b, 1, none⟩ ∧ w1.cell? ⟨b, 2, none⟩ = W.cell? ⟨b, 2, none⟩ ∧ w1.cell? ⟨b, 3, none⟩ = W.cell? ⟨b, 3, none⟩ ∧ w1.cell? ⟨b, 4, none⟩ = W.cell? ⟨b, 4, none⟩ ∧ w1.cell? ⟨b, 5, none⟩ = W.cell? ⟨b, 5, none⟩ ∧ w1.frozen? ⟨b, 0, none⟩ = W.frozen? ⟨b, 0, none⟩ ∧ w1.frozen? ⟨b, 1, none⟩ = W.frozen? ⟨b, 1, none⟩ ∧ w1.frozen? ⟨b, 2, none⟩ = W.frozen? ⟨b, 2, none⟩ ∧ w1.frozen? ⟨b, 3, none⟩ = W.frozen? ⟨b, 3, none⟩ ∧ w1.frozen? ⟨b, 4, none⟩ = W.frozen? ⟨b, 4, none⟩ ∧ w1.frozen? ⟨b, 5, none⟩ = W.frozen? ⟨b, 5, none⟩ ∧ b < w1.heap.size ∧ b ≠ w1.heap.size ∧ w1.heap.size ≠ b :=
  ⟨(rcell h).1 b 0 hb, (rcell h).1 b 1 hb, (rcell h).1 b 2 hb, (rcell h).1 b 3 hb, (rcell h).1 b 4 hb, (rcell h).1 b 5 hb, (rcell h).2 b 0 hb, (rcell h).2 b 1 hb, (rcell h).2 b 2 hb, (rcell h).2 b 3 hb, (rcell h).2 b 4 hb, (rcell h).2 b 5 hb, h.lt hb, Nat.ne_of_lt (h.lt hb), Nat.ne_of_gt (h.lt hb)⟩

set_option maxHeartbeats 4000000 in
theorem Depth_any (t : Ex) : ∀ (x : Value) (w : World), ExKids t w x → t.size ≤ 1000000000000 →
    Calls Tryd.prog 37 #[.agg #[.int .i64 t.op, .int .i64 t.va, .int .i64 t.vb, .int .i64 t.dm, .string t.nm, x]] w (IntRes t.depth w) := by
  induction t with
  | no => intro x w h; exact h.elim
  | mk op a b d s n kid ih =>
    intro x w h hz
    obtain ⟨-, hn, ad, cap, rfl, hk⟩ := h
    have HK := Lib.hid hk
    have IH := Lib.hid ih
    have HZ := Lib.hid hz
    have HD := Lib.hid (depth_mk op a b d s n kid)
    unfold IntRes
    rw [HD.out]
    simp only [Ex.op, Ex.va, Ex.vb, Ex.dm, Ex.nm]
    clear hk ih hz
    go_enter Tryd.func37, Tryd.ntmps37
    go_wp2_with fail
    go_loopw [3, 9] (fun m i wx => ∃ k : Nat, k ≤ n ∧ i = .int .i64 k ∧ m = .int .i64 (mxK (fun i => (kid i).depth) k) ∧ Hid (Rel w wx)) (fun _ i _ => n - (intOf i).toNat)
    case atStart => exact ⟨0, by omega, rfl, rfl, by show Rel _ _; (show Rel _ _; repeat (first | with_reducible exact Rel.refl _ | with_reducible refine Rel.alloc ?_ _ | with_reducible refine Rel.setCell ?_ (by first | (simp; done) | (simp; omega)) _ | with_reducible refine Rel.drew ?_ | with_reducible refine Rel.trans ?_ H0.out))⟩
    case round =>
      obtain ⟨k, hkn, rfl, rfl, hR⟩ := hrel
      have RW := hR
      have hz := HZ.out
      have hm := mxK_bd (f := fun i => (kid i).depth) (B := 1000000000000) (n := k) (by decide) (fun i hi => by
          have h1 := depth_bd (kid i)
          have h2 := kid_size (op := op) (a := a) (b := b) (d := d) (s := s) (kid := kid) (show i < n by omega)
          omega)
      by_cases hlt : k < n
      · obtain ⟨g, off, rfl, hg, hc⟩ := HK.out (by omega)
        obtain ⟨xi, hs, hx⟩ := hc k hlt
        obtain ⟨xa, xc, rfl⟩ := kids_slice hx
        obtain ⟨c0, c1, c2, c3, c4, c5⟩ := six_rel hs RW.out hg
        have hks := kid_size (op := op) (a := a) (b := b) (d := d) (s := s) (kid := kid) hlt
        have hz2 := HZ.out
        have hD := depth_bd (kid k)
        have hmx : Hid (max (mxK (fun i => (kid i).depth) k) (kid k).depth = mxK (fun i => (kid i).depth) (k + 1)) := rfl
        have hsz : (kid k).size ≤ 1000000000000 := by omega
        have C := Lib.hid fun w' (r : Rel w w') => IH.out k _ w' (kids_rel hx r) hsz
        unfold IntRes at C
        obtain ⟨M, hM⟩ : ∃ M, mxK (fun i => (kid i).depth) k = M := ⟨_, rfl⟩
        obtain ⟨D, hDD⟩ : ∃ D, (kid k).depth = D := ⟨_, rfl⟩
        have d0 : 0 ≤ D := by omega
        have d2 : D ≤ 1000000000000 := by omega
        rw [hDD] at C hmx
        rw [hM] at hmx hm ⊢
        obtain ⟨m0, m1⟩ := hm
        have m2 : M ≤ 1000000000000 := by omega
        clear hs hc hx hks hz hz2 hsz hM hDD hD m1
        go_wp2_with fail
        refine (C.out _ (by show Rel _ _; refine RW.out.trans ?_; (show Rel _ _; repeat (first | with_reducible exact Rel.refl _ | with_reducible refine Rel.alloc ?_ _ | with_reducible refine Rel.setCell ?_ (by first | (simp; done) | (simp; omega)) _ | with_reducible refine Rel.drew ?_ | with_reducible refine Rel.trans ?_ H0.out)))).mono ?_
        rintro e w1 ⟨rfl, h1⟩
        have kz1 := h1.size
        (try simp only [World.size_alloc, World.size_setCell, World.size_drew] at kz1)
        have H1 := Lib.hid h1
        clear h1
        go_wp2
        go_roundw
        case rel => exact ⟨k + 1, by omega, by go_num, by rw [← hmx.out], by show Rel _ _; refine hR.out.trans ?_; (show Rel _ _; repeat (first | with_reducible exact Rel.refl _ | with_reducible refine Rel.alloc ?_ _ | with_reducible refine Rel.setCell ?_ (by first | (simp; done) | (simp; omega)) _ | with_reducible refine Rel.drew ?_ | with_reducible refine Rel.trans ?_ H1.out | with_reducible refine Rel.trans ?_ H0.out))⟩
        case measure => simp [intOf]; omega
      · have : k = n := by omega
        subst this
        obtain ⟨M, hM⟩ : ∃ M, mxK (fun i => (kid i).depth) k = M := ⟨_, rfl⟩
        rw [hM] at hm ⊢
        obtain ⟨m0, m1⟩ := hm
        have HM := Lib.hid hM
        clear hM
        go_wp2
        go_ret
        exact ⟨int_ret (by rw [HM.out]), RW.out⟩

set_option maxHeartbeats 4000000 in
theorem Size_any (t : Ex) : ∀ (x : Value) (w : World), ExKids t w x → t.size ≤ 1000000000000 →
    Calls Tryd.prog 38 #[.agg #[.int .i64 t.op, .int .i64 t.va, .int .i64 t.vb, .int .i64 t.dm, .string t.nm, x]] w (IntRes t.size w) := by
  induction t with
  | no => intro x w h; exact h.elim
  | mk op a b d s n kid ih =>
    intro x w h hz
    obtain ⟨-, hn, ad, cap, rfl, hk⟩ := h
    have HK := Lib.hid hk
    have IH := Lib.hid ih
    have HZ := Lib.hid hz
    have HD := Lib.hid (size_mk op a b d s n kid)
    unfold IntRes
    rw [HD.out]
    simp only [Ex.op, Ex.va, Ex.vb, Ex.dm, Ex.nm]
    clear hk ih hz
    go_enter Tryd.func38, Tryd.ntmps38
    go_wp2_with fail
    go_loopw [3, 9] (fun m i wx => ∃ k : Nat, k ≤ n ∧ i = .int .i64 k ∧ m = .int .i64 (smK (fun i => (kid i).size) k + 1) ∧ Hid (Rel w wx)) (fun _ i _ => n - (intOf i).toNat)
    case atStart => exact ⟨0, by omega, rfl, rfl, by show Rel _ _; (show Rel _ _; repeat (first | with_reducible exact Rel.refl _ | with_reducible refine Rel.alloc ?_ _ | with_reducible refine Rel.setCell ?_ (by first | (simp; done) | (simp; omega)) _ | with_reducible refine Rel.drew ?_ | with_reducible refine Rel.trans ?_ H0.out))⟩
    case round =>
      obtain ⟨k, hkn, rfl, rfl, hR⟩ := hrel
      have RW := hR
      have hz := HZ.out
      rw [size_mk] at hz
      have hm := And.intro (smK_bd (f := fun i => (kid i).size) (n := k) (fun i _ => by have := size_pos (kid i); omega)).1 (smK_le (f := fun i => (kid i).size) (n := n) (i := k) (fun i => by have := size_pos (kid i); omega) hkn)
      by_cases hlt : k < n
      · obtain ⟨g, off, rfl, hg, hc⟩ := HK.out (by omega)
        obtain ⟨xi, hs, hx⟩ := hc k hlt
        obtain ⟨xa, xc, rfl⟩ := kids_slice hx
        obtain ⟨c0, c1, c2, c3, c4, c5⟩ := six_rel hs RW.out hg
        have hks := kid_size (op := op) (a := a) (b := b) (d := d) (s := s) (kid := kid) hlt
        have hz2 := HZ.out
        have hD := depth_bd (kid k)
        have hmx : Hid (smK (fun i => (kid i).size) k + 1 + (kid k).size = smK (fun i => (kid i).size) (k + 1) + 1) := by show _ = _; simp only [smK]; omega
        have hsz : (kid k).size ≤ 1000000000000 := by omega
        have C := Lib.hid fun w' (r : Rel w w') => IH.out k _ w' (kids_rel hx r) hsz
        unfold IntRes at C
        obtain ⟨M, hM⟩ : ∃ M, smK (fun i => (kid i).size) k = M := ⟨_, rfl⟩
        obtain ⟨D, hDD⟩ : ∃ D, (kid k).size = D := ⟨_, rfl⟩
        have d0 : 0 ≤ D := by omega
        have d2 : D ≤ 1000000000000 := by omega
        rw [hDD] at C hmx
        rw [hM] at hmx hm ⊢
        obtain ⟨m0, m1⟩ := hm
        have m2 : M ≤ 1000000000000 := by omega
        clear hs hc hx hks hz hz2 hsz hM hDD hD m1
        go_wp2_with fail
        refine (C.out _ (by show Rel _ _; refine RW.out.trans ?_; (show Rel _ _; repeat (first | with_reducible exact Rel.refl _ | with_reducible refine Rel.alloc ?_ _ | with_reducible refine Rel.setCell ?_ (by first | (simp; done) | (simp; omega)) _ | with_reducible refine Rel.drew ?_ | with_reducible refine Rel.trans ?_ H0.out)))).mono ?_
        rintro e w1 ⟨rfl, h1⟩
        have kz1 := h1.size
        (try simp only [World.size_alloc, World.size_setCell, World.size_drew] at kz1)
        have H1 := Lib.hid h1
        clear h1
        go_wp2
        go_roundw
        case rel => exact ⟨k + 1, by omega, by go_num, by rw [← hmx.out], by show Rel _ _; refine hR.out.trans ?_; (show Rel _ _; repeat (first | with_reducible exact Rel.refl _ | with_reducible refine Rel.alloc ?_ _ | with_reducible refine Rel.setCell ?_ (by first | (simp; done) | (simp; omega)) _ | with_reducible refine Rel.drew ?_ | with_reducible refine Rel.trans ?_ H1.out | with_reducible refine Rel.trans ?_ H0.out))⟩
        case measure => simp [intOf]; omega
      · have : k = n := by omega
        subst this
        obtain ⟨M, hM⟩ : ∃ M, smK (fun i => (kid i).size) k = M := ⟨_, rfl⟩
        rw [hM] at hm hz ⊢
        obtain ⟨m0, m1⟩ := hm
        have HM := Lib.hid hM
        clear hM
        go_wp2
        go_ret
        exact ⟨int_ret (by rw [HM.out]), RW.out⟩

set_option maxHeartbeats 4000000 in
theorem rDepth_any (t : Ex) : ∀ (x : Value) (w : World), ExKids t w x → t.size ≤ 1000000000000 →
    Calls Tryd.prog 43 #[.agg #[.int .i64 t.op, .int .i64 t.va, .int .i64 t.vb, .int .i64 t.dm, .string t.nm, x]] w (IntRes t.depth w) := by
  induction t with
  | no => intro x w h; exact h.elim
  | mk op a b d s n kid ih =>
    intro x w h hz
    obtain ⟨-, hn, ad, cap, rfl, hk⟩ := h
    have HK := Lib.hid hk
    have IH := Lib.hid ih
    have HZ := Lib.hid hz
    have HD := Lib.hid (depth_mk op a b d s n kid)
    unfold IntRes
    rw [HD.out]
    simp only [Ex.op, Ex.va, Ex.vb, Ex.dm, Ex.nm]
    clear hk ih hz
    go_enter Tryd.func43, Tryd.ntmps43
    go_wp2_with fail
    go_loopw [3, 4] (fun m i wx => ∃ k : Nat, k ≤ n ∧ i = .int .i64 k ∧ m = .int .i64 (mxK (fun i => (kid i).depth) k) ∧ Hid (Rel (w.alloc (.cells #[.int .i64 op, .int .i64 a, .int .i64 b, .int .i64 d, .string s, .slice ad n cap] 34)) wx)) (fun _ i _ => n - (intOf i).toNat)
    case atStart => exact ⟨0, by omega, rfl, rfl, by show Rel _ _; (show Rel _ _; repeat (first | with_reducible exact Rel.refl _ | with_reducible refine Rel.alloc ?_ _ | with_reducible refine Rel.setCell ?_ (by first | (simp; done) | (simp; omega)) _ | with_reducible refine Rel.drew ?_ | with_reducible refine Rel.trans ?_ H0.out))⟩
    case round =>
      obtain ⟨k, hkn, rfl, rfl, hR⟩ := hrel
      have hR2 := hR.out
      have q := keep6 hR2 (b := w.heap.size) (by first | (simp; done) | (simp; omega) | omega)
      have kc2_0_0 := q.1
      have kc2_0_1 := q.2.1
      have kc2_0_2 := q.2.2.1
      have kc2_0_3 := q.2.2.2.1
      have kc2_0_4 := q.2.2.2.2.1
      have kc2_0_5 := q.2.2.2.2.2.1
      have kf2_0_0 := q.2.2.2.2.2.2.1
      have kf2_0_1 := q.2.2.2.2.2.2.2.1
      have kf2_0_2 := q.2.2.2.2.2.2.2.2.1
      have kf2_0_3 := q.2.2.2.2.2.2.2.2.2.1
      have kf2_0_4 := q.2.2.2.2.2.2.2.2.2.2.1
      have kf2_0_5 := q.2.2.2.2.2.2.2.2.2.2.2.1
      have kl2_0 := q.2.2.2.2.2.2.2.2.2.2.2.2.1
      have kn2_0 := q.2.2.2.2.2.2.2.2.2.2.2.2.2.1
      have km2_0 := q.2.2.2.2.2.2.2.2.2.2.2.2.2.2
      clear q
      have kz2 := hR2.size
      (try simp only [World.size_alloc, World.size_setCell, World.size_drew] at kz2)
      have H2 := Lib.hid hR2
      clear hR2
      have RW : Hid (Rel w wr) := by
        show Rel _ _
        (show Rel _ _; repeat (first | with_reducible exact Rel.refl _ | with_reducible refine Rel.alloc ?_ _ | with_reducible refine Rel.setCell ?_ (by first | (simp; done) | (simp; omega)) _ | with_reducible refine Rel.drew ?_ | with_reducible refine Rel.trans ?_ H2.out | with_reducible refine Rel.trans ?_ H1.out | with_reducible refine Rel.trans ?_ H0.out))
      have hz := HZ.out
      have hm := mxK_bd (f := fun i => (kid i).depth) (B := 1000000000000) (n := k) (by decide) (fun i hi => by
          have h1 := depth_bd (kid i)
          have h2 := kid_size (op := op) (a := a) (b := b) (d := d) (s := s) (kid := kid) (show i < n by omega)
          omega)
      by_cases hlt : k < n
      · obtain ⟨g, off, rfl, hg, hc⟩ := HK.out (by omega)
        obtain ⟨xi, hs, hx⟩ := hc k hlt
        obtain ⟨xa, xc, rfl⟩ := kids_slice hx
        obtain ⟨c0, c1, c2, c3, c4, c5⟩ := six_rel hs RW.out hg
        have hks := kid_size (op := op) (a := a) (b := b) (d := d) (s := s) (kid := kid) hlt
        have hz2 := HZ.out
        have hD := depth_bd (kid k)
        have hmx : Hid (max (mxK (fun i => (kid i).depth) k) (kid k).depth = mxK (fun i => (kid i).depth) (k + 1)) := rfl
        have hsz : (kid k).size ≤ 1000000000000 := by omega
        have C := Lib.hid fun w' (r : Rel w w') => IH.out k _ w' (kids_rel hx r) hsz
        unfold IntRes at C
        obtain ⟨M, hM⟩ : ∃ M, mxK (fun i => (kid i).depth) k = M := ⟨_, rfl⟩
        obtain ⟨D, hDD⟩ : ∃ D, (kid k).depth = D := ⟨_, rfl⟩
        have d0 : 0 ≤ D := by omega
        have d2 : D ≤ 1000000000000 := by omega
        rw [hDD] at C hmx
        rw [hM] at hmx hm ⊢
        obtain ⟨m0, m1⟩ := hm
        have m2 : M ≤ 1000000000000 := by omega
        clear hs hc hx hks hz hz2 hsz hM hDD hD m1
        go_wp2_with fail
        refine (C.out _ (by show Rel _ _; refine RW.out.trans ?_; (show Rel _ _; repeat (first | with_reducible exact Rel.refl _ | with_reducible refine Rel.alloc ?_ _ | with_reducible refine Rel.setCell ?_ (by first | (simp; done) | (simp; omega)) _ | with_reducible refine Rel.drew ?_ | with_reducible refine Rel.trans ?_ H0.out)))).mono ?_
        rintro e w1 ⟨rfl, h1⟩
        have kz1 := h1.size
        (try simp only [World.size_alloc, World.size_setCell, World.size_drew] at kz1)
        have H1 := Lib.hid h1
        clear h1
        go_wp2
        go_roundw
        case rel => exact ⟨k + 1, by omega, by go_num, by rw [← hmx.out], by show Rel _ _; refine hR.out.trans ?_; (show Rel _ _; repeat (first | with_reducible exact Rel.refl _ | with_reducible refine Rel.alloc ?_ _ | with_reducible refine Rel.setCell ?_ (by first | (simp; done) | (simp; omega)) _ | with_reducible refine Rel.drew ?_ | with_reducible refine Rel.trans ?_ H1.out | with_reducible refine Rel.trans ?_ H0.out))⟩
        case measure => simp [intOf]; omega
      · have : k = n := by omega
        subst this
        obtain ⟨M, hM⟩ : ∃ M, mxK (fun i => (kid i).depth) k = M := ⟨_, rfl⟩
        rw [hM] at hm ⊢
        obtain ⟨m0, m1⟩ := hm
        have HM := Lib.hid hM
        clear hM
        go_wp2
        go_ret
        exact ⟨int_ret (by rw [HM.out]), RW.out⟩

set_option maxHeartbeats 4000000 in
theorem rSize_any (t : Ex) : ∀ (x : Value) (w : World), ExKids t w x → t.size ≤ 1000000000000 →
    Calls Tryd.prog 44 #[.agg #[.int .i64 t.op, .int .i64 t.va, .int .i64 t.vb, .int .i64 t.dm, .string t.nm, x]] w (IntRes t.size w) := by
  induction t with
  | no => intro x w h; exact h.elim
  | mk op a b d s n kid ih =>
    intro x w h hz
    obtain ⟨-, hn, ad, cap, rfl, hk⟩ := h
    have HK := Lib.hid hk
    have IH := Lib.hid ih
    have HZ := Lib.hid hz
    have HD := Lib.hid (size_mk op a b d s n kid)
    unfold IntRes
    rw [HD.out]
    simp only [Ex.op, Ex.va, Ex.vb, Ex.dm, Ex.nm]
    clear hk ih hz
    go_enter Tryd.func44, Tryd.ntmps44
    go_wp2_with fail
    go_loopw [3, 4] (fun m i wx => ∃ k : Nat, k ≤ n ∧ i = .int .i64 k ∧ m = .int .i64 (smK (fun i => (kid i).size) k + 1) ∧ Hid (Rel (w.alloc (.cells #[.int .i64 op, .int .i64 a, .int .i64 b, .int .i64 d, .string s, .slice ad n cap] 34)) wx)) (fun _ i _ => n - (intOf i).toNat)
    case atStart => exact ⟨0, by omega, rfl, rfl, by show Rel _ _; (show Rel _ _; repeat (first | with_reducible exact Rel.refl _ | with_reducible refine Rel.alloc ?_ _ | with_reducible refine Rel.setCell ?_ (by first | (simp; done) | (simp; omega)) _ | with_reducible refine Rel.drew ?_ | with_reducible refine Rel.trans ?_ H0.out))⟩
    case round =>
      obtain ⟨k, hkn, rfl, rfl, hR⟩ := hrel
      have hR2 := hR.out
      have q := keep6 hR2 (b := w.heap.size) (by first | (simp; done) | (simp; omega) | omega)
      have kc2_0_0 := q.1
      have kc2_0_1 := q.2.1
      have kc2_0_2 := q.2.2.1
      have kc2_0_3 := q.2.2.2.1
      have kc2_0_4 := q.2.2.2.2.1
      have kc2_0_5 := q.2.2.2.2.2.1
      have kf2_0_0 := q.2.2.2.2.2.2.1
      have kf2_0_1 := q.2.2.2.2.2.2.2.1
      have kf2_0_2 := q.2.2.2.2.2.2.2.2.1
      have kf2_0_3 := q.2.2.2.2.2.2.2.2.2.1
      have kf2_0_4 := q.2.2.2.2.2.2.2.2.2.2.1
      have kf2_0_5 := q.2.2.2.2.2.2.2.2.2.2.2.1
      have kl2_0 := q.2.2.2.2.2.2.2.2.2.2.2.2.1
      have kn2_0 := q.2.2.2.2.2.2.2.2.2.2.2.2.2.1
      have km2_0 := q.2.2.2.2.2.2.2.2.2.2.2.2.2.2
      clear q
      have kz2 := hR2.size
      (try simp only [World.size_alloc, World.size_setCell, World.size_drew] at kz2)
      have H2 := Lib.hid hR2
      clear hR2
      have RW : Hid (Rel w wr) := by
        show Rel _ _
        (show Rel _ _; repeat (first | with_reducible exact Rel.refl _ | with_reducible refine Rel.alloc ?_ _ | with_reducible refine Rel.setCell ?_ (by first | (simp; done) | (simp; omega)) _ | with_reducible refine Rel.drew ?_ | with_reducible refine Rel.trans ?_ H2.out | with_reducible refine Rel.trans ?_ H1.out | with_reducible refine Rel.trans ?_ H0.out))
      have hz := HZ.out
      rw [size_mk] at hz
      have hm := And.intro (smK_bd (f := fun i => (kid i).size) (n := k) (fun i _ => by have := size_pos (kid i); omega)).1 (smK_le (f := fun i => (kid i).size) (n := n) (i := k) (fun i => by have := size_pos (kid i); omega) hkn)
      by_cases hlt : k < n
      · obtain ⟨g, off, rfl, hg, hc⟩ := HK.out (by omega)
        obtain ⟨xi, hs, hx⟩ := hc k hlt
        obtain ⟨xa, xc, rfl⟩ := kids_slice hx
        obtain ⟨c0, c1, c2, c3, c4, c5⟩ := six_rel hs RW.out hg
        have hks := kid_size (op := op) (a := a) (b := b) (d := d) (s := s) (kid := kid) hlt
        have hz2 := HZ.out
        have hD := depth_bd (kid k)
        have hmx : Hid (smK (fun i => (kid i).size) k + 1 + (kid k).size = smK (fun i => (kid i).size) (k + 1) + 1) := by show _ = _; simp only [smK]; omega
        have hsz : (kid k).size ≤ 1000000000000 := by omega
        have C := Lib.hid fun w' (r : Rel w w') => IH.out k _ w' (kids_rel hx r) hsz
        unfold IntRes at C
        obtain ⟨M, hM⟩ : ∃ M, smK (fun i => (kid i).size) k = M := ⟨_, rfl⟩
        obtain ⟨D, hDD⟩ : ∃ D, (kid k).size = D := ⟨_, rfl⟩
        have d0 : 0 ≤ D := by omega
        have d2 : D ≤ 1000000000000 := by omega
        rw [hDD] at C hmx
        rw [hM] at hmx hm ⊢
        obtain ⟨m0, m1⟩ := hm
        have m2 : M ≤ 1000000000000 := by omega
        clear hs hc hx hks hz hz2 hsz hM hDD hD m1
        go_wp2_with fail
        refine (C.out _ (by show Rel _ _; refine RW.out.trans ?_; (show Rel _ _; repeat (first | with_reducible exact Rel.refl _ | with_reducible refine Rel.alloc ?_ _ | with_reducible refine Rel.setCell ?_ (by first | (simp; done) | (simp; omega)) _ | with_reducible refine Rel.drew ?_ | with_reducible refine Rel.trans ?_ H0.out)))).mono ?_
        rintro e w1 ⟨rfl, h1⟩
        have kz1 := h1.size
        (try simp only [World.size_alloc, World.size_setCell, World.size_drew] at kz1)
        have H1 := Lib.hid h1
        clear h1
        go_wp2
        go_roundw
        case rel => exact ⟨k + 1, by omega, by go_num, by rw [← hmx.out], by show Rel _ _; refine hR.out.trans ?_; (show Rel _ _; repeat (first | with_reducible exact Rel.refl _ | with_reducible refine Rel.alloc ?_ _ | with_reducible refine Rel.setCell ?_ (by first | (simp; done) | (simp; omega)) _ | with_reducible refine Rel.drew ?_ | with_reducible refine Rel.trans ?_ H1.out | with_reducible refine Rel.trans ?_ H0.out))⟩
        case measure => simp [intOf]; omega
      · have : k = n := by omega
        subst this
        obtain ⟨M, hM⟩ : ∃ M, smK (fun i => (kid i).size) k = M := ⟨_, rfl⟩
        rw [hM] at hm hz ⊢
        obtain ⟨m0, m1⟩ := hm
        have HM := Lib.hid hM
        clear hM
        go_wp2
        go_ret
        exact ⟨int_ret (by rw [HM.out]), RW.out⟩

end Go.Proofs.YtnhmebhmlbofgaaDoor

/- Lemmas, each as it is printed; no conditions but those printed. -/
import Derived.Test.YthmlhheceihcbaaGreatDoorKB5
namespace Go.Proofs.YthmlhheceihcbaaGreatDoor
set_option maxHeartbeats 16000000
open Go.RowKit Cal Str Tok Frac Txt Tree Tryz
attribute [local go_sem] calmUpon
set_option linter.unusedVariables false
set_option linter.unusedSimpArgs false
structure Six (w : World) (g o : Nat) (op a b d : Int) (s : ByteArray) (x : Value) : Prop where
 c0 : w.cell? ⟨g, o, none⟩ = some (.int .i64 op)
 c1 : w.cell? ⟨g, o + 1, none⟩ = some (.int .i64 a)
 c2 : w.cell? ⟨g, o + 2, none⟩ = some (.int .i64 b)
 c3 : w.cell? ⟨g, o + 3, none⟩ = some (.int .i64 d)
 c4 : w.cell? ⟨g, o + 4, none⟩ = some (.string s)
 c5 : w.cell? ⟨g, o + 5, none⟩ = some x
structure I64s (op a b d : Int) (s : ByteArray) : Prop where
 o0 : -9223372036854775808 <= op
 o1 : op <= 9223372036854775807
 a0 : -9223372036854775808 <= a
 a1 : a <= 9223372036854775807
 b0 : -9223372036854775808 <= b
 b1 : b <= 9223372036854775807
 d0 : -9223372036854775808 <= d
 d1 : d <= 9223372036854775807
 s1 : s.size <= 140737488355328
def ExKids : Ex -> World -> Value -> Prop
 | .no, _, _ => False
 | .mk op a b d s n kid, w, x => I64s op a b d s /\ n <= 17592186044416 /\ ∃ (ad : Option Addr) (cap : Nat), x = .slice ad n cap /\ (0 < n -> ∃ g off, ad = some ⟨g, off, none⟩ /\ g < w.heap.size /\ ∀ i, i < n -> ∃ xi, Six w g (off + i * 6) (kid i).op (kid i).va (kid i).vb (kid i).dm (kid i).nm xi /\ ExKids (kid i) w xi)
theorem six_rel {w w' : World} {g o : Nat} {op a b d : Int} {s : ByteArray} {x : Value} (h : Six w g o op a b d s x) (r : Rel w w') (hg : g < w.heap.size) : Six w' g o op a b d s x :=
 ⟨r.cell h.c0, r.cell h.c1, r.cell h.c2, r.cell h.c3, r.cell h.c4, r.cell h.c5⟩
theorem kids_rel {t : Ex} : ∀ {w w' : World} {x : Value}, ExKids t w x -> Rel w w' -> ExKids t w' x := by
 induction t with
 | no => intro w w' x h; exact h.elim
 | mk op a b d s n kid ih =>
  intro w w' x h r;obtain ⟨h1, h2, ad, cap, rfl, hk⟩ := h;refine ⟨h1, h2, ad, cap, rfl, fun h0 => ?_⟩;obtain ⟨g, off, rfl, hg, hc⟩ := hk h0;refine ⟨g, off, rfl, Nat.lt_of_lt_of_le hg r.size, fun i hi => ?_⟩;obtain ⟨xi, hs, hx⟩ := hc i hi;exact ⟨xi, six_rel hs r hg, ih i hx r⟩
theorem kids_slice {t : Ex} {w : World} {x : Value} (h : ExKids t w x) : ∃ (ad : Option Addr) (cap : Nat), x = .slice ad t.cnt cap := by
 cases t with
 | no => exact h.elim
 | mk op a b d s n kid =>
  obtain ⟨-, -, ad, cap, rfl, -⟩ := h;exact ⟨ad, cap, rfl⟩
def IntRes (n : Int) (w : World) (e : Ending) (w' : World) : Prop := e = .returned (.int .i64 n) /\ Rel w w'
theorem int_ret {a b : Int} (h : a = b) : Ending.returned (.int .i64 a) = .returned (.int .i64 b) := by rw [h]
theorem keep6 {W w1 : World} (h : Rel W w1) {b : Nat} (hb : b < W.heap.size) : w1.cell? ⟨b, 0, none⟩ = W.cell? ⟨b, 0, none⟩ /\ w1.cell? ⟨b, 1, none⟩ = W.cell? ⟨b, 1, none⟩ /\ w1.cell? ⟨b, 2, none⟩ = W.cell? ⟨b, 2, none⟩ /\ w1.cell? ⟨b, 3, none⟩ = W.cell? ⟨b, 3, none⟩ /\ w1.cell? ⟨b, 4, none⟩ = W.cell? ⟨b, 4, none⟩ /\ w1.cell? ⟨b, 5, none⟩ = W.cell? ⟨b, 5, none⟩ /\ w1.frozen? ⟨b, 0, none⟩ = W.frozen? ⟨b, 0, none⟩ /\ w1.frozen? ⟨b, 1, none⟩ = W.frozen? ⟨b, 1, none⟩ /\ w1.frozen? ⟨b, 2, none⟩ = W.frozen? ⟨b, 2, none⟩ /\ w1.frozen? ⟨b, 3, none⟩ = W.frozen? ⟨b, 3, none⟩ /\ w1.frozen? ⟨b, 4, none⟩ = W.frozen? ⟨b, 4, none⟩ /\ w1.frozen? ⟨b, 5, none⟩ = W.frozen? ⟨b, 5, none⟩ /\ b < w1.heap.size /\ b ≠ w1.heap.size /\ w1.heap.size ≠ b :=
 ⟨(rcell h).1 b 0 hb, (rcell h).1 b 1 hb, (rcell h).1 b 2 hb, (rcell h).1 b 3 hb, (rcell h).1 b 4 hb, (rcell h).1 b 5 hb, (rcell h).2 b 0 hb, (rcell h).2 b 1 hb, (rcell h).2 b 2 hb, (rcell h).2 b 3 hb, (rcell h).2 b 4 hb, (rcell h).2 b 5 hb, h.lt hb, Nat.ne_of_lt (h.lt hb), Nat.ne_of_gt (h.lt hb)⟩
theorem Depth_any (t : Ex) : ∀ (x : Value) (w : World), ExKids t w x -> t.size <= 1000000000000 ->
  Calls prog 125 #[.agg #[.int .i64 t.op, .int .i64 t.va, .int .i64 t.vb, .int .i64 t.dm, .string t.nm, x]] w (IntRes t.depth w) := by
 induction t with
 | no => intro x w h; exact h.elim
 | mk op a b d s n kid ih =>
  intro x w h hz;obtain ⟨-, hn, ad, cap, rfl, hk⟩ := h;have HK := Hj hk;have IH := Hj ih;have HZ := Hj hz;have HD := Hj (depth_mk op a b d s n kid);unfold IntRes;rw [HD.out];simp only [Ex.op, Ex.va, Ex.vb, Ex.dm, Ex.nm];clear hk ih hz;go_enter func125, ntmps125;go_wp2_with fail
  go_loopw [3, 9] (fun m i wx => ∃ k : Nat, k <= n /\ i = .int .i64 k /\ m = .int .i64 (mxK (fun i => (kid i).depth) k) /\ Hid (Rel w wx)) (fun _ i _ => n - (intOf i).toNat)
  case atStart => exact ⟨0, by omega, rfl, rfl, rx0⟩
  case round =>
   obtain ⟨k, hkn, rfl, rfl, hR⟩ := hrel;have RW := hR;have hz := HZ.out
   have hm := mxK_bd (f := fun i => (kid i).depth) (B := 1000000000000) (n := k) (by decide) (fun i hi => by
     have h1 := depth_bd (kid i);have h2 := kid_size (op := op) (a := a) (b := b) (d := d) (s := s) (kid := kid) (show i < n by omega)
     omega)
   by_cases hlt : k < n
   ·obtain ⟨g, off, rfl, hg, hc⟩ := HK.out (by omega);obtain ⟨xi, hs, hx⟩ := hc k hlt;obtain ⟨xa, xc, rfl⟩ := kids_slice hx;obtain ⟨c0, c1, c2, c3, c4, c5⟩ := six_rel hs RW.out hg;have hks := kid_size (op := op) (a := a) (b := b) (d := d) (s := s) (kid := kid) hlt;have hz2 := HZ.out;have hD := depth_bd (kid k);have hmx : Hid (max (mxK (fun i => (kid i).depth) k) (kid k).depth = mxK (fun i => (kid i).depth) (k + 1)) := rfl;have hsz : (kid k).size <= 1000000000000 := by omega
    have C := Hj fun w' (r : Rel w w') => IH.out k _ w' (kids_rel hx r) hsz
    unfold IntRes at C;obtain ⟨M, hM⟩ : ∃ M, mxK (fun i => (kid i).depth) k = M := ⟨_, rfl⟩;obtain ⟨D, hDD⟩ : ∃ D, (kid k).depth = D := ⟨_, rfl⟩;have d0 : 0 <= D := by omega
    have d2 : D <= 1000000000000 := by omega
    rw [hDD] at C hmx;rw [hM] at hmx hm |-;obtain ⟨m0, m1⟩ := hm;have m2 : M <= 1000000000000 := by omega
    clear hs hc hx hks hz hz2 hsz hM hDD hD m1;go_wp2_with fail;refine (C.out _ (by show Rel _ _; refine RW.out.trans ?_; exact rx0)).mono ?_;rintro e w1 ⟨rfl, h1⟩;have kz1 := h1.size;(try simp only [zsa, zsc, zsd] at kz1);have H1 := Hj h1;clear h1;go_wp2
    go_roundw
    case rel => exact ⟨k + 1, by omega, by go_num, by rw [<- hmx.out], by show Rel _ _; refine hR.out.trans ?_; exact rx10⟩
    case measure => simp [intOf]; omega
   ·have : k = n := by omega
    subst this;obtain ⟨M, hM⟩ : ∃ M, mxK (fun i => (kid i).depth) k = M := ⟨_, rfl⟩;rw [hM] at hm |-;obtain ⟨m0, m1⟩ := hm;have HM := Hj hM;clear hM;go_wp2;go_ret;exact ⟨int_ret (by rw [HM.out]), RW.out⟩
theorem Size_any (t : Ex) : ∀ (x : Value) (w : World), ExKids t w x -> t.size <= 1000000000000 ->
  Calls prog 126 #[.agg #[.int .i64 t.op, .int .i64 t.va, .int .i64 t.vb, .int .i64 t.dm, .string t.nm, x]] w (IntRes t.size w) := by
 induction t with
 | no => intro x w h; exact h.elim
 | mk op a b d s n kid ih =>
  intro x w h hz;obtain ⟨-, hn, ad, cap, rfl, hk⟩ := h;have HK := Hj hk;have IH := Hj ih;have HZ := Hj hz;have HD := Hj (size_mk op a b d s n kid);unfold IntRes;rw [HD.out];simp only [Ex.op, Ex.va, Ex.vb, Ex.dm, Ex.nm];clear hk ih hz;go_enter func126, ntmps126;go_wp2_with fail
  go_loopw [3, 9] (fun m i wx => ∃ k : Nat, k <= n /\ i = .int .i64 k /\ m = .int .i64 (smK (fun i => (kid i).size) k + 1) /\ Hid (Rel w wx)) (fun _ i _ => n - (intOf i).toNat)
  case atStart => exact ⟨0, by omega, rfl, rfl, rx0⟩
  case round =>
   obtain ⟨k, hkn, rfl, rfl, hR⟩ := hrel;have RW := hR;have hz := HZ.out;rw [size_mk] at hz;have hm := And.intro (smK_bd (f := fun i => (kid i).size) (n := k) (fun i _ => by have := size_pos (kid i); omega)).1 (smK_le (f := fun i => (kid i).size) (n := n) (i := k) (fun i => by have := size_pos (kid i); omega) hkn);by_cases hlt : k < n
   ·obtain ⟨g, off, rfl, hg, hc⟩ := HK.out (by omega);obtain ⟨xi, hs, hx⟩ := hc k hlt;obtain ⟨xa, xc, rfl⟩ := kids_slice hx;obtain ⟨c0, c1, c2, c3, c4, c5⟩ := six_rel hs RW.out hg;have hks := kid_size (op := op) (a := a) (b := b) (d := d) (s := s) (kid := kid) hlt;have hz2 := HZ.out;have hD := depth_bd (kid k);have hmx : Hid (smK (fun i => (kid i).size) k + 1 + (kid k).size = smK (fun i => (kid i).size) (k + 1) + 1) := by show _ = _; simp only [smK]; omega
    have hsz : (kid k).size <= 1000000000000 := by omega
    have C := Hj fun w' (r : Rel w w') => IH.out k _ w' (kids_rel hx r) hsz
    unfold IntRes at C;obtain ⟨M, hM⟩ : ∃ M, smK (fun i => (kid i).size) k = M := ⟨_, rfl⟩;obtain ⟨D, hDD⟩ : ∃ D, (kid k).size = D := ⟨_, rfl⟩;have d0 : 0 <= D := by omega
    have d2 : D <= 1000000000000 := by omega
    rw [hDD] at C hmx;rw [hM] at hmx hm |-;obtain ⟨m0, m1⟩ := hm;have m2 : M <= 1000000000000 := by omega
    clear hs hc hx hks hz hz2 hsz hM hDD hD m1;go_wp2_with fail;refine (C.out _ (by show Rel _ _; refine RW.out.trans ?_; exact rx0)).mono ?_;rintro e w1 ⟨rfl, h1⟩;have kz1 := h1.size;(try simp only [zsa, zsc, zsd] at kz1);have H1 := Hj h1;clear h1;go_wp2
    go_roundw
    case rel => exact ⟨k + 1, by omega, by go_num, by rw [<- hmx.out], by show Rel _ _; refine hR.out.trans ?_; exact rx10⟩
    case measure => simp [intOf]; omega
   ·have : k = n := by omega
    subst this;obtain ⟨M, hM⟩ : ∃ M, smK (fun i => (kid i).size) k = M := ⟨_, rfl⟩;rw [hM] at hm hz |-;obtain ⟨m0, m1⟩ := hm;have HM := Hj hM;clear hM;go_wp2;go_ret;exact ⟨int_ret (by rw [HM.out]), RW.out⟩
theorem rDepth_any (t : Ex) : ∀ (x : Value) (w : World), ExKids t w x -> t.size <= 1000000000000 ->
  Calls prog 138 #[.agg #[.int .i64 t.op, .int .i64 t.va, .int .i64 t.vb, .int .i64 t.dm, .string t.nm, x]] w (IntRes t.depth w) := by
 induction t with
 | no => intro x w h; exact h.elim
 | mk op a b d s n kid ih =>
  intro x w h hz;obtain ⟨-, hn, ad, cap, rfl, hk⟩ := h;have HK := Hj hk;have IH := Hj ih;have HZ := Hj hz;have HD := Hj (depth_mk op a b d s n kid);unfold IntRes;rw [HD.out];simp only [Ex.op, Ex.va, Ex.vb, Ex.dm, Ex.nm];clear hk ih hz;go_enter func138, ntmps138;go_wp2_with fail
  go_loopw [3, 4] (fun m i wx => ∃ k : Nat, k <= n /\ i = .int .i64 k /\ m = .int .i64 (mxK (fun i => (kid i).depth) k) /\ Hid (Rel (w.alloc (.cells #[.int .i64 op, .int .i64 a, .int .i64 b, .int .i64 d, .string s, .slice ad n cap] 59)) wx)) (fun _ i _ => n - (intOf i).toNat)
  case atStart => exact ⟨0, by omega, rfl, rfl, rx0⟩
  case round =>
   obtain ⟨k, hkn, rfl, rfl, hR⟩ := hrel;have hR2 := hR.out;have kq0 := keep6 hR2 (b := w.heap.size) (by first | (simp; done) | (simp; omega) | omega);have kz2 := hR2.size;(try simp only [zsa, zsc, zsd] at kz2);have H2 := Hj hR2;clear hR2
   have RW : Hid (Rel w wr) := by
    show Rel _ _
    exact rx210
   have hz := HZ.out
   have hm := mxK_bd (f := fun i => (kid i).depth) (B := 1000000000000) (n := k) (by decide) (fun i hi => by
     have h1 := depth_bd (kid i);have h2 := kid_size (op := op) (a := a) (b := b) (d := d) (s := s) (kid := kid) (show i < n by omega)
     omega)
   by_cases hlt : k < n
   ·obtain ⟨g, off, rfl, hg, hc⟩ := HK.out (by omega);obtain ⟨xi, hs, hx⟩ := hc k hlt;obtain ⟨xa, xc, rfl⟩ := kids_slice hx;obtain ⟨c0, c1, c2, c3, c4, c5⟩ := six_rel hs RW.out hg;have hks := kid_size (op := op) (a := a) (b := b) (d := d) (s := s) (kid := kid) hlt;have hz2 := HZ.out;have hD := depth_bd (kid k);have hmx : Hid (max (mxK (fun i => (kid i).depth) k) (kid k).depth = mxK (fun i => (kid i).depth) (k + 1)) := rfl;have hsz : (kid k).size <= 1000000000000 := by omega
    have C := Hj fun w' (r : Rel w w') => IH.out k _ w' (kids_rel hx r) hsz
    unfold IntRes at C;obtain ⟨M, hM⟩ : ∃ M, mxK (fun i => (kid i).depth) k = M := ⟨_, rfl⟩;obtain ⟨D, hDD⟩ : ∃ D, (kid k).depth = D := ⟨_, rfl⟩;have d0 : 0 <= D := by omega
    have d2 : D <= 1000000000000 := by omega
    rw [hDD] at C hmx;rw [hM] at hmx hm |-;obtain ⟨m0, m1⟩ := hm;have m2 : M <= 1000000000000 := by omega
    clear hs hc hx hks hz hz2 hsz hM hDD hD m1;go_wp2_with fail;refine (C.out _ (by show Rel _ _; refine RW.out.trans ?_; exact rx0)).mono ?_;rintro e w1 ⟨rfl, h1⟩;have kz1 := h1.size;(try simp only [zsa, zsc, zsd] at kz1);have H1 := Hj h1;clear h1;go_wp2
    go_roundw
    case rel => exact ⟨k + 1, by omega, by go_num, by rw [<- hmx.out], by show Rel _ _; refine hR.out.trans ?_; exact rx10⟩
    case measure => simp [intOf]; omega
   ·have : k = n := by omega
    subst this;obtain ⟨M, hM⟩ : ∃ M, mxK (fun i => (kid i).depth) k = M := ⟨_, rfl⟩;rw [hM] at hm |-;obtain ⟨m0, m1⟩ := hm;have HM := Hj hM;clear hM;go_wp2;go_ret;exact ⟨int_ret (by rw [HM.out]), RW.out⟩
theorem rSize_any (t : Ex) : ∀ (x : Value) (w : World), ExKids t w x -> t.size <= 1000000000000 ->
  Calls prog 139 #[.agg #[.int .i64 t.op, .int .i64 t.va, .int .i64 t.vb, .int .i64 t.dm, .string t.nm, x]] w (IntRes t.size w) := by
 induction t with
 | no => intro x w h; exact h.elim
 | mk op a b d s n kid ih =>
  intro x w h hz;obtain ⟨-, hn, ad, cap, rfl, hk⟩ := h;have HK := Hj hk;have IH := Hj ih;have HZ := Hj hz;have HD := Hj (size_mk op a b d s n kid);unfold IntRes;rw [HD.out];simp only [Ex.op, Ex.va, Ex.vb, Ex.dm, Ex.nm];clear hk ih hz;go_enter func139, ntmps139;go_wp2_with fail
  go_loopw [3, 4] (fun m i wx => ∃ k : Nat, k <= n /\ i = .int .i64 k /\ m = .int .i64 (smK (fun i => (kid i).size) k + 1) /\ Hid (Rel (w.alloc (.cells #[.int .i64 op, .int .i64 a, .int .i64 b, .int .i64 d, .string s, .slice ad n cap] 59)) wx)) (fun _ i _ => n - (intOf i).toNat)
  case atStart => exact ⟨0, by omega, rfl, rfl, rx0⟩
  case round =>
   obtain ⟨k, hkn, rfl, rfl, hR⟩ := hrel;have hR2 := hR.out;have kq0 := keep6 hR2 (b := w.heap.size) (by first | (simp; done) | (simp; omega) | omega);have kz2 := hR2.size;(try simp only [zsa, zsc, zsd] at kz2);have H2 := Hj hR2;clear hR2
   have RW : Hid (Rel w wr) := by
    show Rel _ _
    exact rx210
   have hz := HZ.out;rw [size_mk] at hz;have hm := And.intro (smK_bd (f := fun i => (kid i).size) (n := k) (fun i _ => by have := size_pos (kid i); omega)).1 (smK_le (f := fun i => (kid i).size) (n := n) (i := k) (fun i => by have := size_pos (kid i); omega) hkn);by_cases hlt : k < n
   ·obtain ⟨g, off, rfl, hg, hc⟩ := HK.out (by omega);obtain ⟨xi, hs, hx⟩ := hc k hlt;obtain ⟨xa, xc, rfl⟩ := kids_slice hx;obtain ⟨c0, c1, c2, c3, c4, c5⟩ := six_rel hs RW.out hg;have hks := kid_size (op := op) (a := a) (b := b) (d := d) (s := s) (kid := kid) hlt;have hz2 := HZ.out;have hD := depth_bd (kid k);have hmx : Hid (smK (fun i => (kid i).size) k + 1 + (kid k).size = smK (fun i => (kid i).size) (k + 1) + 1) := by show _ = _; simp only [smK]; omega
    have hsz : (kid k).size <= 1000000000000 := by omega
    have C := Hj fun w' (r : Rel w w') => IH.out k _ w' (kids_rel hx r) hsz
    unfold IntRes at C;obtain ⟨M, hM⟩ : ∃ M, smK (fun i => (kid i).size) k = M := ⟨_, rfl⟩;obtain ⟨D, hDD⟩ : ∃ D, (kid k).size = D := ⟨_, rfl⟩;have d0 : 0 <= D := by omega
    have d2 : D <= 1000000000000 := by omega
    rw [hDD] at C hmx;rw [hM] at hmx hm |-;obtain ⟨m0, m1⟩ := hm;have m2 : M <= 1000000000000 := by omega
    clear hs hc hx hks hz hz2 hsz hM hDD hD m1;go_wp2_with fail;refine (C.out _ (by show Rel _ _; refine RW.out.trans ?_; exact rx0)).mono ?_;rintro e w1 ⟨rfl, h1⟩;have kz1 := h1.size;(try simp only [zsa, zsc, zsd] at kz1);have H1 := Hj h1;clear h1;go_wp2
    go_roundw
    case rel => exact ⟨k + 1, by omega, by go_num, by rw [<- hmx.out], by show Rel _ _; refine hR.out.trans ?_; exact rx10⟩
    case measure => simp [intOf]; omega
   ·have : k = n := by omega
    subst this;obtain ⟨M, hM⟩ : ∃ M, smK (fun i => (kid i).size) k = M := ⟨_, rfl⟩;rw [hM] at hm hz |-;obtain ⟨m0, m1⟩ := hm;have HM := Hj hM;clear hM;go_wp2;go_ret;exact ⟨int_ret (by rw [HM.out]), RW.out⟩
theorem arity_any (op : Int) (w : World) : Calls prog 184 #[.int .i64 op] w fun e w' => e = .returned (.int .i64 (arI op)) /\ w = w' := by
 rcases (show op = 1 \/ op = 2 \/ op = 3 \/ op = 4 \/ op = 5 \/ op = 6 \/ op = 21 \/ (7 <= op /\ op <= 20) \/ op < 1 \/ 21 < op by omega) with rfl | rfl | rfl | rfl | rfl | rfl | rfl | ⟨h, h2⟩ | h | h
 ·go_enter func184, ntmps184;go_wp2;go_ret;exact ⟨rfl, rfl⟩
 ·go_enter func184, ntmps184;go_wp2;go_ret;exact ⟨rfl, rfl⟩
 ·go_enter func184, ntmps184;go_wp2;go_ret;exact ⟨rfl, rfl⟩
 ·go_enter func184, ntmps184;go_wp2;go_ret;exact ⟨rfl, rfl⟩
 ·go_enter func184, ntmps184;go_wp2;go_ret;exact ⟨rfl, rfl⟩
 ·go_enter func184, ntmps184;go_wp2;go_ret;exact ⟨rfl, rfl⟩
 ·go_enter func184, ntmps184;go_wp2;go_ret;exact ⟨rfl, rfl⟩
 ·have e1 : (op == 1) = false := by rw [zn]; omega
  have e2 : (op == 2) = false := by rw [zn]; omega
  have e3 : (op == 3) = false := by rw [zn]; omega
  have e4 : (op == 4) = false := by rw [zn]; omega
  have e5 : (op == 5) = false := by rw [zn]; omega
  have e6 : (op == 6) = false := by rw [zn]; omega
  have e21 : (op == 21) = false := by rw [zn]; omega
  have l0 : decide (1 <= op) = true := dT (by omega);have u0 : decide (op <= 3) = false := dF (by omega);have l1 : decide (4 <= op) = true := dT (by omega);have u1 : decide (op <= 6) = false := dF (by omega);have l2 : decide (7 <= op) = true := dT (by omega);have u2 : decide (op <= 20) = true := dT (by omega)
  have ea : arI op = 2 := by
   unfold arI; repeat' split
   all_goals omega
  rw [ea];clear ea;go_enter func184, ntmps184;go_wp2;go_ret;exact ⟨rfl, rfl⟩
 ·have e1 : (op == 1) = false := by rw [zn]; omega
  have e2 : (op == 2) = false := by rw [zn]; omega
  have e3 : (op == 3) = false := by rw [zn]; omega
  have e4 : (op == 4) = false := by rw [zn]; omega
  have e5 : (op == 5) = false := by rw [zn]; omega
  have e6 : (op == 6) = false := by rw [zn]; omega
  have e21 : (op == 21) = false := by rw [zn]; omega
  have l0 : decide (1 <= op) = false := dF (by omega);have u0 : decide (op <= 3) = true := dT (by omega);have l1 : decide (4 <= op) = false := dF (by omega);have u1 : decide (op <= 6) = true := dT (by omega);have l2 : decide (7 <= op) = false := dF (by omega);have u2 : decide (op <= 20) = true := dT (by omega)
  have ea : arI op = -1 := by
   unfold arI; repeat' split
   all_goals omega
  rw [ea];clear ea;go_enter func184, ntmps184;go_wp2;go_ret;exact ⟨rfl, rfl⟩
 ·have e1 : (op == 1) = false := by rw [zn]; omega
  have e2 : (op == 2) = false := by rw [zn]; omega
  have e3 : (op == 3) = false := by rw [zn]; omega
  have e4 : (op == 4) = false := by rw [zn]; omega
  have e5 : (op == 5) = false := by rw [zn]; omega
  have e6 : (op == 6) = false := by rw [zn]; omega
  have e21 : (op == 21) = false := by rw [zn]; omega
  have l0 : decide (1 <= op) = true := dT (by omega);have u0 : decide (op <= 3) = false := dF (by omega);have l1 : decide (4 <= op) = true := dT (by omega);have u1 : decide (op <= 6) = false := dF (by omega);have l2 : decide (7 <= op) = true := dT (by omega);have u2 : decide (op <= 20) = false := dF (by omega)
  have ea : arI op = -1 := by
   unfold arI; repeat' split
   all_goals omega
  rw [ea];clear ea;go_enter func184, ntmps184;go_wp2;go_ret;exact ⟨rfl, rfl⟩
theorem Args_any (op : Int) (w : World) : Calls prog 173 #[.int .i64 op] w fun e w' => e = .returned (.int .i64 (arI op)) /\ w = w' := by
 rcases (show op = 1 \/ op = 2 \/ op = 3 \/ op = 4 \/ op = 5 \/ op = 6 \/ op = 21 \/ (7 <= op /\ op <= 20) \/ op < 1 \/ 21 < op by omega) with rfl | rfl | rfl | rfl | rfl | rfl | rfl | ⟨h, h2⟩ | h | h
 ·go_enter func173, ntmps173;go_wp2;go_ret;exact ⟨rfl, rfl⟩
 ·go_enter func173, ntmps173;go_wp2;go_ret;exact ⟨rfl, rfl⟩
 ·go_enter func173, ntmps173;go_wp2;go_ret;exact ⟨rfl, rfl⟩
 ·go_enter func173, ntmps173;go_wp2;go_ret;exact ⟨rfl, rfl⟩
 ·go_enter func173, ntmps173;go_wp2;go_ret;exact ⟨rfl, rfl⟩
 ·go_enter func173, ntmps173;go_wp2;go_ret;exact ⟨rfl, rfl⟩
 ·go_enter func173, ntmps173;go_wp2;go_ret;exact ⟨rfl, rfl⟩
 ·have e1 : (op == 1) = false := by rw [zn]; omega
  have e2 : (op == 2) = false := by rw [zn]; omega
  have e3 : (op == 3) = false := by rw [zn]; omega
  have e4 : (op == 4) = false := by rw [zn]; omega
  have e5 : (op == 5) = false := by rw [zn]; omega
  have e6 : (op == 6) = false := by rw [zn]; omega
  have e21 : (op == 21) = false := by rw [zn]; omega
  have l0 : decide (1 <= op) = true := dT (by omega);have u0 : decide (op <= 3) = false := dF (by omega);have l1 : decide (4 <= op) = true := dT (by omega);have u1 : decide (op <= 6) = false := dF (by omega);have l2 : decide (7 <= op) = true := dT (by omega);have u2 : decide (op <= 20) = true := dT (by omega)
  have ea : arI op = 2 := by
   unfold arI; repeat' split
   all_goals omega
  rw [ea];clear ea;go_enter func173, ntmps173;go_wp2;go_ret;exact ⟨rfl, rfl⟩
 ·have e1 : (op == 1) = false := by rw [zn]; omega
  have e2 : (op == 2) = false := by rw [zn]; omega
  have e3 : (op == 3) = false := by rw [zn]; omega
  have e4 : (op == 4) = false := by rw [zn]; omega
  have e5 : (op == 5) = false := by rw [zn]; omega
  have e6 : (op == 6) = false := by rw [zn]; omega
  have e21 : (op == 21) = false := by rw [zn]; omega
  have l0 : decide (1 <= op) = false := dF (by omega);have u0 : decide (op <= 3) = true := dT (by omega);have l1 : decide (4 <= op) = false := dF (by omega);have u1 : decide (op <= 6) = true := dT (by omega);have l2 : decide (7 <= op) = false := dF (by omega);have u2 : decide (op <= 20) = true := dT (by omega)
  have ea : arI op = -1 := by
   unfold arI; repeat' split
   all_goals omega
  rw [ea];clear ea;go_enter func173, ntmps173;go_wp2;go_ret;exact ⟨rfl, rfl⟩
 ·have e1 : (op == 1) = false := by rw [zn]; omega
  have e2 : (op == 2) = false := by rw [zn]; omega
  have e3 : (op == 3) = false := by rw [zn]; omega
  have e4 : (op == 4) = false := by rw [zn]; omega
  have e5 : (op == 5) = false := by rw [zn]; omega
  have e6 : (op == 6) = false := by rw [zn]; omega
  have e21 : (op == 21) = false := by rw [zn]; omega
  have l0 : decide (1 <= op) = true := dT (by omega);have u0 : decide (op <= 3) = false := dF (by omega);have l1 : decide (4 <= op) = true := dT (by omega);have u1 : decide (op <= 6) = false := dF (by omega);have l2 : decide (7 <= op) = true := dT (by omega);have u2 : decide (op <= 20) = false := dF (by omega)
  have ea : arI op = -1 := by
   unfold arI; repeat' split
   all_goals omega
  rw [ea];clear ea;go_enter func173, ntmps173;go_wp2;go_ret;exact ⟨rfl, rfl⟩
theorem str_ne {s : ByteArray} {l : List UInt8} (h : ¬ s = ⟨l.toArray⟩) : (s.toList == l) = false := by
 cases hx : (s.toList == l)
 ·rfl
 ·rw [beq_iff_eq] at hx;exact absurd (by apply ba_ext; rw [mk_list, <- hx, Lib.toList_data]) h
set_option maxRecDepth 20000 in
theorem kw_all (s : ByteArray) (w : World) (fn : FuncId) (h : fn = 112 \/ fn = 99) : Calls prog fn #[.string s] w fun e w' => e = .returned (.bool (kwB s)) /\ w = w' := by
 by_cases hk : kwB s = true
 ·rw [hk];unfold kwB at hk;obtain ⟨l, hl, e⟩ := List.any_eq_true.1 hk
  obtain rfl : s = ⟨l.toArray⟩ := by
   rw [beq_iff_eq] at e;subst e
   cases s; simp
  clear hk e;simp only [kws, List.mem_cons, List.not_mem_nil, or_false] at hl
  rcases hl with rfl | rfl | rfl | rfl | rfl | rfl | rfl | rfl | rfl | rfl | rfl | rfl | rfl | rfl | rfl | rfl | rfl | rfl | rfl | rfl | rfl | rfl <;> rcases h with rfl | rfl
  all_goals
   first
    | (go_enter func112, ntmps112)
    | (go_enter func99, ntmps99)
   go_wp2;go_ret;exact ⟨rfl, rfl⟩
 ·have hk : kwB s = false := by simpa using hk
  rw [hk]
  have m : ∀ l ∈ kws, (s.data.toList == l) = false := fun l hl => by
   cases e : s.data.toList == l
   ·rfl
   ·exact absurd (hk.symm.trans (List.any_eq_true.2 ⟨l, hl, e⟩)) (by decide)
  simp only [kws, List.mem_cons, List.not_mem_nil, or_false, forall_eq_or_imp, forall_eq] at m;have n := m;simp only [<- Lib.toList_data] at n;clear hk
  rcases h with rfl | rfl
  all_goals
   first
    | (go_enter func112, ntmps112)
    | (go_enter func99, ntmps99)
   go_wp2;go_ret;exact ⟨rfl, rfl⟩
theorem keyword_any (s : ByteArray) (w : World) : Calls prog 112 #[.string s] w fun e w' => e = .returned (.bool (kwB s)) /\ w = w' := kw_all s w _ (.inl rfl)
theorem rkeyword_any (s : ByteArray) (w : World) : Calls prog 99 #[.string s] w fun e w' => e = .returned (.bool (kwB s)) /\ w = w' := kw_all s w _ (.inr rfl)
def inpB (s : ByteArray) : Bool := !(inpI s == 0)
set_option maxRecDepth 20000 in
theorem rInput_any (s : ByteArray) (w : World) : Calls prog 177 #[.string s] w fun e w' => e = .returned (.tuple #[.int .i64 (inpI s), .bool (inpB s)]) /\ w = w' := by
 by_cases h0 : s = ⟨#[97, 103, 101]⟩
 ·subst h0;rw [show inpB ⟨#[97, 103, 101]⟩ = true by kernel_rfl, show inpI ⟨#[97, 103, 101]⟩ = 2 by kernel_rfl];go_enter func177, ntmps177;go_wp2
  go_ret2
  exact ⟨rfl, rfl⟩
 by_cases h1 : s = ⟨#[121, 101, 97, 114]⟩
 ·subst h1;rw [show inpB ⟨#[121, 101, 97, 114]⟩ = true by kernel_rfl, show inpI ⟨#[121, 101, 97, 114]⟩ = 2 by kernel_rfl];go_enter func177, ntmps177;go_wp2
  go_ret2
  exact ⟨rfl, rfl⟩
 by_cases h2 : s = ⟨#[99, 104, 105, 108, 100, 114, 101, 110]⟩
 ·subst h2;rw [show inpB ⟨#[99, 104, 105, 108, 100, 114, 101, 110]⟩ = true by kernel_rfl, show inpI ⟨#[99, 104, 105, 108, 100, 114, 101, 110]⟩ = 2 by kernel_rfl];go_enter func177, ntmps177;go_wp2
  go_ret2
  exact ⟨rfl, rfl⟩
 by_cases h3 : s = ⟨#[105, 110, 115, 117, 114, 101, 100]⟩
 ·subst h3;rw [show inpB ⟨#[105, 110, 115, 117, 114, 101, 100]⟩ = true by kernel_rfl, show inpI ⟨#[105, 110, 115, 117, 114, 101, 100]⟩ = 3 by kernel_rfl];go_enter func177, ntmps177;go_wp2
  go_ret2
  exact ⟨rfl, rfl⟩
 by_cases h4 : s = ⟨#[119, 111, 114, 107, 101, 100]⟩
 ·subst h4;rw [show inpB ⟨#[119, 111, 114, 107, 101, 100]⟩ = true by kernel_rfl, show inpI ⟨#[119, 111, 114, 107, 101, 100]⟩ = 3 by kernel_rfl];go_enter func177, ntmps177;go_wp2
  go_ret2
  exact ⟨rfl, rfl⟩
 by_cases h5 : s = ⟨#[118, 111, 108, 117, 110, 116, 97, 114, 121]⟩
 ·subst h5;rw [show inpB ⟨#[118, 111, 108, 117, 110, 116, 97, 114, 121]⟩ = true by kernel_rfl, show inpI ⟨#[118, 111, 108, 117, 110, 116, 97, 114, 121]⟩ = 3 by kernel_rfl];go_enter func177, ntmps177;go_wp2
  go_ret2
  exact ⟨rfl, rfl⟩
 by_cases h6 : s = ⟨#[115, 101, 114, 118, 105, 99, 101]⟩
 ·subst h6;rw [show inpB ⟨#[115, 101, 114, 118, 105, 99, 101]⟩ = true by kernel_rfl, show inpI ⟨#[115, 101, 114, 118, 105, 99, 101]⟩ = 3 by kernel_rfl];go_enter func177, ntmps177;go_wp2
  go_ret2
  exact ⟨rfl, rfl⟩
 by_cases h7 : s = ⟨#[101, 113, 117, 97, 116, 101, 100]⟩
 ·subst h7;rw [show inpB ⟨#[101, 113, 117, 97, 116, 101, 100]⟩ = true by kernel_rfl, show inpI ⟨#[101, 113, 117, 97, 116, 101, 100]⟩ = 3 by kernel_rfl];go_enter func177, ntmps177;go_wp2
  go_ret2
  exact ⟨rfl, rfl⟩
 by_cases h8 : s = ⟨#[114, 97, 105, 115, 105, 110, 103]⟩
 ·subst h8;rw [show inpB ⟨#[114, 97, 105, 115, 105, 110, 103]⟩ = true by kernel_rfl, show inpI ⟨#[114, 97, 105, 115, 105, 110, 103]⟩ = 3 by kernel_rfl];go_enter func177, ntmps177;go_wp2
  go_ret2
  exact ⟨rfl, rfl⟩
 by_cases h9 : s = ⟨#[114, 101, 115, 105, 100, 101, 110, 116]⟩
 ·subst h9;rw [show inpB ⟨#[114, 101, 115, 105, 100, 101, 110, 116]⟩ = true by kernel_rfl, show inpI ⟨#[114, 101, 115, 105, 100, 101, 110, 116]⟩ = 3 by kernel_rfl];go_enter func177, ntmps177;go_wp2
  go_ret2
  exact ⟨rfl, rfl⟩
 by_cases h10 : s = ⟨#[98, 97, 115, 101]⟩
 ·subst h10;rw [show inpB ⟨#[98, 97, 115, 101]⟩ = true by kernel_rfl, show inpI ⟨#[98, 97, 115, 101]⟩ = 4 by kernel_rfl];go_enter func177, ntmps177;go_wp2
  go_ret2
  exact ⟨rfl, rfl⟩
 have n0 : (s.toList == [97, 103, 101]) = false := str_ne h0;have m0 := n0;rw [Lib.toList_data] at m0;have n1 : (s.toList == [121, 101, 97, 114]) = false := str_ne h1;have m1 := n1;rw [Lib.toList_data] at m1;have n2 : (s.toList == [99, 104, 105, 108, 100, 114, 101, 110]) = false := str_ne h2;have m2 := n2;rw [Lib.toList_data] at m2;have n3 : (s.toList == [105, 110, 115, 117, 114, 101, 100]) = false := str_ne h3;have m3 := n3;rw [Lib.toList_data] at m3;have n4 : (s.toList == [119, 111, 114, 107, 101, 100]) = false := str_ne h4;have m4 := n4;rw [Lib.toList_data] at m4;have n5 : (s.toList == [118, 111, 108, 117, 110, 116, 97, 114, 121]) = false := str_ne h5;have m5 := n5;rw [Lib.toList_data] at m5;have n6 : (s.toList == [115, 101, 114, 118, 105, 99, 101]) = false := str_ne h6;have m6 := n6;rw [Lib.toList_data] at m6;have n7 : (s.toList == [101, 113, 117, 97, 116, 101, 100]) = false := str_ne h7;have m7 := n7;rw [Lib.toList_data] at m7;have n8 : (s.toList == [114, 97, 105, 115, 105, 110, 103]) = false := str_ne h8;have m8 := n8;rw [Lib.toList_data] at m8;have n9 : (s.toList == [114, 101, 115, 105, 100, 101, 110, 116]) = false := str_ne h9;have m9 := n9;rw [Lib.toList_data] at m9;have n10 : (s.toList == [98, 97, 115, 101]) = false := str_ne h10;have m10 := n10;rw [Lib.toList_data] at m10;have hz := (by unfold inpI inN inD inM; simp only [List.any_cons, List.any_nil, m0, m1, m2, m3, m4, m5, m6, m7, m8, m9, m10]; rfl : inpI s = 0);have hb : inpB s = false := by unfold inpB; rw [hz]; rfl
 rw [hz, hb];clear hb hz h0 m0 h1 m1 h2 m2 h3 m3 h4 m4 h5 m5 h6 m6 h7 m7 h8 m8 h9 m9 h10 m10;go_enter func177, ntmps177;go_wp2
 go_ret2
 exact ⟨rfl, rfl⟩
theorem isName_any (s : ByteArray) (w : World) (hs : s.size <= 140737488355328) : Calls prog 69 #[.string s] w fun e w' => e = .returned (.bool (namB s)) /\ w = w' := by
 have W := Hj fun w => IsWord_any s w (by unfold maxLen; omega)
 have KW := Hj fun w => keyword_any s w
 have hn : namB s = (wordB s && !kwB s) := rfl;rw [hn];clear hn;obtain ⟨A, hA⟩ : ∃ A, wordB s = A := ⟨_, rfl⟩;obtain ⟨B, hB⟩ : ∃ B, kwB s = B := ⟨_, rfl⟩;rw [hA] at W |-;rw [hB] at KW |-;clear hA hB
 cases A <;> cases B
 all_goals
  go_enter func69, ntmps69
  go_wp2_with (first | (go_at_call 111; refine (W.out _).mono ?_; rintro e w1 ⟨rfl, rfl⟩) | (go_at_call 112; refine (KW.out _).mono ?_; rintro e w1 ⟨rfl, rfl⟩))
  go_ret;exact ⟨rfl, rfl⟩
theorem rIsName_any (s : ByteArray) (w : World) (hs : s.size <= 140737488355328) : Calls prog 51 #[.string s] w fun e w' => e = .returned (.bool (namB s)) /\ w = w' := by
 have W := Hj fun w => rIsWord_any s w (by unfold maxLen; omega)
 have KW := Hj fun w => rkeyword_any s w
 have hn : namB s = (wordB s && !kwB s) := rfl;rw [hn];clear hn;obtain ⟨A, hA⟩ : ∃ A, wordB s = A := ⟨_, rfl⟩;obtain ⟨B, hB⟩ : ∃ B, kwB s = B := ⟨_, rfl⟩;rw [hA] at W |-;rw [hB] at KW |-;clear hA hB
 cases A <;> cases B
 all_goals
  go_enter func51, ntmps51
  go_wp2_with (first | (go_at_call 98; refine (W.out _).mono ?_; rintro e w1 ⟨rfl, rfl⟩) | (go_at_call 99; refine (KW.out _).mono ?_; rintro e w1 ⟨rfl, rfl⟩))
  go_ret;exact ⟨rfl, rfl⟩
theorem ret_b2 {a b : Bool} (h : a = b) : Ending.returned (.bool a) = .returned (.bool b) := by rw [h]
theorem em_eq (s : ByteArray) : s.toList.isEmpty = emS s := by
 unfold emS; rw [Lib.toList_data]; cases s.data.toList <;> rfl
theorem nod_mis {op a b d : Int} {s : ByteArray} {n : Nat} (h : ¬ (n : Int) = arI op) : nodB op a b d s n = false := by
 unfold nodB; rw [beq_eq_false_iff_ne.2 h]; rfl
theorem nod_1 {a b d : Int} {s : ByteArray} {n : Nat} (h : (n : Int) = arI 1) : nodB 1 a b d s n = (fdB a b d && emS s) := by
 unfold nodB; rw [beq_iff_eq.2 h, if_pos rfl]; rfl
theorem nod_2 {a b d : Int} {s : ByteArray} {n : Nat} (h : (n : Int) = arI 2) : nodB 2 a b d s n = (namB s && ((a == 0 && b == 0) && d == 0)) := by
 unfold nodB; rw [beq_iff_eq.2 h, if_neg (by decide), if_pos rfl]; rfl
theorem nod_3 {a b d : Int} {s : ByteArray} {n : Nat} (h : (n : Int) = arI 3) : nodB 3 a b d s n = ((b == 1 && decide (1 <= a) && decide (a <= 45)) && (d == 0 && emS s)) := by
 unfold nodB; rw [beq_iff_eq.2 h, if_neg (by decide), if_neg (by decide), if_pos rfl]; rfl
theorem nod_o {op a b d : Int} {s : ByteArray} {n : Nat} (h : (n : Int) = arI op) (h1 : ¬ op = 1) (h2 : ¬ op = 2) (h3 : ¬ op = 3) : nodB op a b d s n = ((a == 0 && b == 0) && (d == 0 && emS s)) := by
 unfold nodB; rw [beq_iff_eq.2 h, if_neg h1, if_neg h2, if_neg h3]; rfl
theorem node_any (op a b d : Int) (s : ByteArray) (ad : Option Addr) (n cap : Nat) (w : World) (ht : Hid (TabW w)) (hb : I64s op a b d s) (hn : n <= 17592186044416) :
  Calls prog 162 #[.agg #[.int .i64 op, .int .i64 a, .int .i64 b, .int .i64 d, .string s, .slice ad n cap]] w (BRes (nodB op a b d s n) w) := by
 have AR := Hj fun w => arity_any op w
 obtain ⟨V, hV'⟩ : ∃ V, nodB op a b d s n = V := ⟨_, rfl⟩;have hV := Hj hV';rw [hV'];clear hV';obtain ⟨o0, o1, a0, a1, b0, b1, d0, d1, s1⟩ := hb;unfold BRes;by_cases har : (n : Int) = arI op
 ·have HAR := Hj har;rw [<- har] at AR;clear har;by_cases h1 : op = 1
  ·subst h1;rw [nod_1 HAR.out] at hV;have F := Hj fun w ht => FormatDecimal_any a b d w ht a0 a1 b0 b1 d0 d1
   unfold FdRes at F;obtain ⟨T, hT⟩ : ∃ T, fdT a b d = T := ⟨_, rfl⟩;obtain ⟨B, hB⟩ : ∃ B, fdB a b d = B := ⟨_, rfl⟩;rw [hT, hB] at F;rw [hB] at hV;clear hT hB;go_enter func162, ntmps162;go_wp2_with fail;refine wp_region_calm (fun _ w' => w'.cell? { block := w.heap.size, off := 5 } = some (.slice ad n cap) /\ w'.cell? { block := w.heap.size, off := 0 } = some (.int .i64 1)) (fun _ => false) [0, 1, 2, 3, 4, 5, 6] 0 (by kernel_rfl) (by kernel_rfl) ?hst ?hS0 (fun w0 h0 => ?_)
   case hst => exact fun _ _ _ h r => ⟨r.cell h.1, r.cell h.2⟩
   case hS0 => exact ⟨by go_simp, by go_simp⟩
   iterate 5
    refine wcg ?_;apply ei
    ·intro M w hM hS;have hc := hS.1;have hc' := hS.2;unfold calmAt;go_simp;exact ⟨rfl, Rel.refl _⟩
   refine wcg ?_;apply ei
   ·intro M w hM hS;unfold calmAt;go_simp
    with_reducible refine (AR.out _).mono ?_
    rintro e w1 ⟨rfl, rfl⟩;exact ⟨rfl, Rel.refl _⟩
   iterate 1
    refine wcg ?_;apply ei
    ·intro M w hM hS;unfold calmAt;go_simp;exact ⟨rfl, Rel.refl _⟩
   refine wpAnyR_end (by kernel_rfl) (fun w3 h3' => ?_);(try simp only [Act.put, zla, zlb, zlc]);have h3 := h0.trans h3';clear h0 h3';have kq0 := keep6 h3 (b := w.heap.size) (by first | (simp; done) | (simp; omega) | omega);have kz3 := h3.size;(try simp only [zsa, zsc, zsd] at kz3);have H3 := Hj h3;clear h3;go_wp2_with fail;refine (F.out _ (ht.out.rel (rx3210))).mono ?_;rintro e w4 ⟨rfl, h4⟩;have kq1 := keep6 h4 (b := w.heap.size) (by first | (simp; done) | (simp; omega) | omega);have kz4 := h4.size;(try simp only [zsa, zsc, zsd] at kz4);have H4 := Hj h4;clear h4;cases B
   ·have fin : Hid (false = V) := hV.out;go_wp2;go_ret;exact ⟨ret_b2 fin.out, rx43210⟩
   ·have fin : Hid (s.toList.isEmpty = V) := by
     show _ = _
     rw [<- hV.out, em_eq]; rfl
    go_wp2;go_ret;exact ⟨ret_b2 fin.out, rx43210⟩
  ·have e1 : (op == 1) = false := by rw [zn]; exact h1
   by_cases h2 : op = 2
   ·subst h2;rw [nod_2 HAR.out] at hV;have N := Hj fun w => isName_any s w s1
    obtain ⟨B, hB⟩ : ∃ B, namB s = B := ⟨_, rfl⟩;rw [hB] at N hV;clear hB;go_enter func162, ntmps162;go_wp2_with fail;refine wp_region_calm (fun _ w' => w'.cell? { block := w.heap.size, off := 5 } = some (.slice ad n cap) /\ w'.cell? { block := w.heap.size, off := 0 } = some (.int .i64 2)) (fun _ => false) [0, 1, 2, 3, 4, 5, 6] 0 (by kernel_rfl) (by kernel_rfl) ?hst ?hS0 (fun w0 h0 => ?_)
    case hst => exact fun _ _ _ h r => ⟨r.cell h.1, r.cell h.2⟩
    case hS0 => exact ⟨by go_simp, by go_simp⟩
    iterate 5
     refine wcg ?_;apply ei
     ·intro M w hM hS;have hc := hS.1;have hc' := hS.2;unfold calmAt;go_simp;exact ⟨rfl, Rel.refl _⟩
    refine wcg ?_;apply ei
    ·intro M w hM hS;unfold calmAt;go_simp
     with_reducible refine (AR.out _).mono ?_
     rintro e w1 ⟨rfl, rfl⟩;exact ⟨rfl, Rel.refl _⟩
    iterate 1
     refine wcg ?_;apply ei
     ·intro M w hM hS;unfold calmAt;go_simp;exact ⟨rfl, Rel.refl _⟩
    refine wpAnyR_end (by kernel_rfl) (fun w3 h3' => ?_);(try simp only [Act.put, zla, zlb, zlc]);have h3 := h0.trans h3';clear h0 h3';have kq2 := keep6 h3 (b := w.heap.size) (by first | (simp; done) | (simp; omega) | omega);have kz3 := h3.size;(try simp only [zsa, zsc, zsd] at kz3);have H3 := Hj h3;clear h3;go_wp2_with fail;refine (N.out _).mono ?_;rintro e w4 ⟨rfl, rfl⟩;cases B
    ·have fin : Hid (false = V) := hV.out;go_wp2;go_ret;exact ⟨ret_b2 fin.out, rx3210⟩
    ·skip
     by_cases t0 : a = 0
     ·subst t0;by_cases t1 : b = 0
      ·subst t1
       have fin : Hid ((d == 0) = V) := by
        show _ = _
        rw [<- hV.out]; simp [em_eq]
       go_wp2;go_ret;exact ⟨ret_b2 fin.out, rx3210⟩
      ·have f1 : (b == 0) = false := by rw [zn]; exact t1
       have fin : Hid (false = V) := by
        show _ = _
        rw [<- hV.out]; simp [f1]
       clear t1;go_wp2;go_ret;exact ⟨ret_b2 fin.out, rx3210⟩
     ·have f0 : (a == 0) = false := by rw [zn]; exact t0
      have fin : Hid (false = V) := by
       show _ = _
       rw [<- hV.out]; simp [f0]
      clear t0;go_wp2;go_ret;exact ⟨ret_b2 fin.out, rx3210⟩
   ·have e2 : (op == 2) = false := by rw [zn]; exact h2
    by_cases h3 : op = 3
    ·subst h3;rw [nod_3 HAR.out] at hV;go_enter func162, ntmps162;go_wp2_with fail;refine wp_region_calm (fun _ w' => w'.cell? { block := w.heap.size, off := 5 } = some (.slice ad n cap) /\ w'.cell? { block := w.heap.size, off := 0 } = some (.int .i64 3)) (fun _ => false) [0, 1, 2, 3, 4, 5, 6] 0 (by kernel_rfl) (by kernel_rfl) ?hst ?hS0 (fun w0 h0 => ?_)
     case hst => exact fun _ _ _ h r => ⟨r.cell h.1, r.cell h.2⟩
     case hS0 => exact ⟨by go_simp, by go_simp⟩
     iterate 5
      refine wcg ?_;apply ei
      ·intro M w hM hS;have hc := hS.1;have hc' := hS.2;unfold calmAt;go_simp;exact ⟨rfl, Rel.refl _⟩
     refine wcg ?_;apply ei
     ·intro M w hM hS;unfold calmAt;go_simp
      with_reducible refine (AR.out _).mono ?_
      rintro e w1 ⟨rfl, rfl⟩;exact ⟨rfl, Rel.refl _⟩
     iterate 1
      refine wcg ?_;apply ei
      ·intro M w hM hS;unfold calmAt;go_simp;exact ⟨rfl, Rel.refl _⟩
     refine wpAnyR_end (by kernel_rfl) (fun w3 h3' => ?_);(try simp only [Act.put, zla, zlb, zlc]);have h3 := h0.trans h3';clear h0 h3';have kq3 := keep6 h3 (b := w.heap.size) (by first | (simp; done) | (simp; omega) | omega);have kz3 := h3.size;(try simp only [zsa, zsc, zsd] at kz3);have H3 := Hj h3;clear h3;by_cases t0 : b = 1
     ·subst t0;by_cases t1 : 1 <= a
      ·have f1 : decide (1 <= a) = true := decide_eq_true t1;by_cases t2 : a <= 45
       ·have f2 : decide (a <= 45) = true := decide_eq_true t2;by_cases t3 : d = 0
        ·subst t3
         have fin : Hid (s.toList.isEmpty = V) := by
          show _ = _
          rw [<- hV.out]; simp [em_eq, t1, t2]
         go_wp2;go_ret;exact ⟨ret_b2 fin.out, rx3210⟩
        ·have f3 : (d == 0) = false := by rw [zn]; exact t3
         have fin : Hid (false = V) := by
          show _ = _
          rw [<- hV.out]; simp [f3]
         clear t3;go_wp2;go_ret;exact ⟨ret_b2 fin.out, rx3210⟩
       ·have f2 : decide (a <= 45) = false := decide_eq_false t2
        have fin : Hid (false = V) := by
         show _ = _
         rw [<- hV.out]; simp [t2]
        go_wp2;go_ret;exact ⟨ret_b2 fin.out, rx3210⟩
      ·have f1 : decide (1 <= a) = false := decide_eq_false t1
       have fin : Hid (false = V) := by
        show _ = _
        rw [<- hV.out]; simp [t1]
       go_wp2;go_ret;exact ⟨ret_b2 fin.out, rx3210⟩
     ·have f0 : (b == 1) = false := by rw [zn]; exact t0
      have fin : Hid (false = V) := by
       show _ = _
       rw [<- hV.out]; simp [f0]
      clear t0;go_wp2;go_ret;exact ⟨ret_b2 fin.out, rx3210⟩
    ·have e3 : (op == 3) = false := by rw [zn]; exact h3
     rw [nod_o HAR.out h1 h2 h3] at hV;clear h1 h2 h3;go_enter func162, ntmps162;go_wp2_with fail;refine wp_region_calm (fun _ w' => w'.cell? { block := w.heap.size, off := 5 } = some (.slice ad n cap) /\ w'.cell? { block := w.heap.size, off := 0 } = some (.int .i64 op)) (fun _ => false) [0, 1, 2, 3, 4, 5, 6] 0 (by kernel_rfl) (by kernel_rfl) ?hst ?hS0 (fun w0 h0 => ?_)
     case hst => exact fun _ _ _ h r => ⟨r.cell h.1, r.cell h.2⟩
     case hS0 => exact ⟨by go_simp, by go_simp⟩
     iterate 5
      refine wcg ?_;apply ei
      ·intro M w hM hS;have hc := hS.1;have hc' := hS.2;unfold calmAt;go_simp;exact ⟨rfl, Rel.refl _⟩
     refine wcg ?_;apply ei
     ·intro M w hM hS;unfold calmAt;go_simp
      with_reducible refine (AR.out _).mono ?_
      rintro e w1 ⟨rfl, rfl⟩;exact ⟨rfl, Rel.refl _⟩
     iterate 1
      refine wcg ?_;apply ei
      ·intro M w hM hS;unfold calmAt;go_simp;exact ⟨rfl, Rel.refl _⟩
     refine wpAnyR_end (by kernel_rfl) (fun w3 h3' => ?_);(try simp only [Act.put, zla, zlb, zlc]);have h3 := h0.trans h3';clear h0 h3';have kq4 := keep6 h3 (b := w.heap.size) (by first | (simp; done) | (simp; omega) | omega);have kz3 := h3.size;(try simp only [zsa, zsc, zsd] at kz3);have H3 := Hj h3;clear h3;by_cases t0 : a = 0
     ·subst t0;by_cases t1 : b = 0
      ·subst t1;by_cases t2 : d = 0
       ·subst t2
        have fin : Hid (s.toList.isEmpty = V) := by
         show _ = _
         rw [<- hV.out]; simp [em_eq]
        go_wp2;go_ret;exact ⟨ret_b2 fin.out, rx3210⟩
       ·have f2 : (d == 0) = false := by rw [zn]; exact t2
        have fin : Hid (false = V) := by
         show _ = _
         rw [<- hV.out]; simp [f2]
        clear t2;go_wp2;go_ret;exact ⟨ret_b2 fin.out, rx3210⟩
      ·have f1 : (b == 0) = false := by rw [zn]; exact t1
       have fin : Hid (false = V) := by
        show _ = _
        rw [<- hV.out]; simp [f1]
       clear t1;go_wp2;go_ret;exact ⟨ret_b2 fin.out, rx3210⟩
     ·have f0 : (a == 0) = false := by rw [zn]; exact t0
      have fin : Hid (false = V) := by
       show _ = _
       rw [<- hV.out]; simp [f0]
      clear t0;go_wp2;go_ret;exact ⟨ret_b2 fin.out, rx3210⟩
 ·have hA : ((n : Int) != arI op) = true := by rw [bne_iff_ne]; exact har
  have fin : Hid (false = V) := by
   show _ = _
   rw [<- hV.out, nod_mis har]
  obtain ⟨A, hAA⟩ : ∃ A, arI op = A := ⟨_, rfl⟩;rw [hAA] at hA AR;clear har hAA;go_enter func162, ntmps162;go_wp2_with fail;refine wp_region_calm (fun _ w' => w'.cell? { block := w.heap.size, off := 5 } = some (.slice ad n cap) /\ w'.cell? { block := w.heap.size, off := 0 } = some (.int .i64 op)) (fun _ => false) [0, 1, 2, 3, 4, 5, 6] 0 (by kernel_rfl) (by kernel_rfl) ?hst ?hS0 (fun w0 h0 => ?_)
  case hst => exact fun _ _ _ h r => ⟨r.cell h.1, r.cell h.2⟩
  case hS0 => exact ⟨by go_simp, by go_simp⟩
  iterate 5
   refine wcg ?_;apply ei
   ·intro M w hM hS;have hc := hS.1;have hc' := hS.2;unfold calmAt;go_simp;exact ⟨rfl, Rel.refl _⟩
  refine wcg ?_;apply ei
  ·intro M w hM hS;unfold calmAt;go_simp
   with_reducible refine (AR.out _).mono ?_
   rintro e w1 ⟨rfl, rfl⟩;exact ⟨rfl, Rel.refl _⟩
  iterate 1
   refine wcg ?_;apply ei
   ·intro M w hM hS;unfold calmAt;go_simp;exact ⟨rfl, Rel.refl _⟩
  refine wpAnyR_end (by kernel_rfl) (fun w3 h3' => ?_);(try simp only [Act.put, zla, zlb, zlc]);have h3 := h0.trans h3';clear h0 h3';have kq5 := keep6 h3 (b := w.heap.size) (by first | (simp; done) | (simp; omega) | omega);have kz3 := h3.size;(try simp only [zsa, zsc, zsd] at kz3);have H3 := Hj h3;clear h3;go_wp2;go_ret;exact ⟨ret_b2 fin.out, rx3210⟩
def FormOk (t : Ex) : Prop := ∀ (x : Value) (w : World), ExKids t w x -> Hid (TabW w) -> Calls prog 127 #[.agg #[.int .i64 t.op, .int .i64 t.va, .int .i64 t.vb, .int .i64 t.dm, .string t.nm, x]] w (BRes t.form w)
theorem form1_of (t : Ex) (h : FormOk t) (x : Value) (w : World) (hx : ExKids t w x) (ht : Hid (TabW w)) :
  Calls prog 164 #[.agg #[.int .i64 t.op, .int .i64 t.va, .int .i64 t.vb, .int .i64 t.dm, .string t.nm, x]] w (BRes (!t.form) w) := by
 obtain ⟨xa, xc, rfl⟩ := kids_slice hx;have C := Hj fun w' (r : Rel w w') => h _ w' (kids_rel hx r) (Hj (ht.out.rel r))
 unfold BRes at C |-;clear h hx;go_enter func164, ntmps164;go_wp2_with fail;refine (C.out _ (rx0)).mono ?_;rintro e w1 ⟨rfl, h1⟩;have kz1 := h1.size;(try simp only [zsa, zsc, zsd] at kz1);have H1 := Hj h1;clear h1;go_wp2;go_ret;exact ⟨ret_b2 (by simp), rx10⟩
def KidsAt (w : World) (n : Nat) (kid : Nat -> Ex) (ad : Option Addr) : Prop := 0 < n -> ∃ g off, ad = some ⟨g, off, none⟩ /\ g < w.heap.size /\ ∀ i, i < n -> ∃ xi, Six w g (off + i * 6) (kid i).op (kid i).va (kid i).vb (kid i).dm (kid i).nm xi /\ ExKids (kid i) w xi
theorem indexF_of (n : Nat) (kid : Nat -> Ex) (h : Hid (∀ k, FormOk (kid k))) (ad : Option Addr) (cap : Nat) (w : World) (hk : Hid (KidsAt w n kid ad)) (hn : n <= 17592186044416) (ht : Hid (TabW w)) :
  Calls prog 185 #[.slice ad n cap, .func (.func 164) #[] #[]] w fun e w' => ∃ r : Int, e = .returned (.int .i64 r) /\ decide (0 <= r) = (!alK (fun i => (kid i).form) n) /\ Rel w w' := by
 go_enter func185, ntmps185;go_wp2_with fail
 go_loopw [8] (fun i wx => ∃ k : Nat, k <= n /\ i = .int .i64 k /\ Hid (alK (fun i => (kid i).form) k = true) /\ Hid (Rel w wx)) (fun i _ => n - (intOf i).toNat)
 case atStart => exact ⟨0, by omega, rfl, rfl, Rel.refl _⟩
 case round =>
  obtain ⟨k, hkn, rfl, hA, hR⟩ := hrel;by_cases hlt : k < n
  ·obtain ⟨g, off, rfl, hg, hc⟩ := hk.out (by omega);obtain ⟨xi, hs, hx⟩ := hc k hlt;obtain ⟨xa, xc, rfl⟩ := kids_slice hx;obtain ⟨c0, c1, c2, c3, c4, c5⟩ := six_rel hs hR.out hg;have C := Hj fun w' (r : Rel w w') => form1_of _ (h.out k) _ w' (kids_rel hx r) (Hj (ht.out.rel r))
   clear hs hc hx;go_wp2_with fail;refine (C.out _ hR.out).mono ?_;unfold BRes;rintro e w1 ⟨rfl, h1⟩;have kz1 := h1.size;(try simp only [zsa, zsc, zsd] at kz1);have H1 := Hj h1;clear h1
   cases hf : (kid k).form
   ·have fin : Hid (decide (0 <= (k : Int)) = !alK (fun i => (kid i).form) n) := by
     show _ = _
     rw [alK_no hlt hf]; simp
    go_wp2;go_ret;exact ⟨_, rfl, fin.out, hR.out.trans H1.out⟩
   ·have fin : Hid (alK (fun i => (kid i).form) (k + 1) = true) := by
     show _ = _
     simp only [alK]; rw [hA.out, hf]; rfl
    go_wp2
    go_roundw
    case rel => exact ⟨k + 1, by omega, by go_num, fin, hR.out.trans H1.out⟩
    case measure => simp [intOf]; omega
  ·have : k = n := by omega
   subst this;go_wp2;go_ret;exact ⟨-1, rfl, by rw [hA.out]; rfl, hR.out⟩
theorem contains_of (n : Nat) (kid : Nat -> Ex) (h : Hid (∀ k, FormOk (kid k))) (ad : Option Addr) (cap : Nat) (w : World) (hk : Hid (KidsAt w n kid ad)) (hn : n <= 17592186044416) (ht : Hid (TabW w)) :
  Calls prog 163 #[.slice ad n cap, .func (.func 164) #[] #[]] w (BRes (!alK (fun i => (kid i).form) n) w) := by
 have C := Hj fun w' (r : Rel w w') => indexF_of n kid h ad cap w' (Hj (fun h0 => by
  obtain ⟨g, off, e, hg, hc⟩ := hk.out h0
  exact ⟨g, off, e, Nat.lt_of_lt_of_le hg r.size, fun i hi => by
   obtain ⟨xi, hs, hx⟩ := hc i hi
   exact ⟨xi, six_rel hs r hg, kids_rel hx r⟩⟩)) hn (Hj (ht.out.rel r))
 unfold BRes;go_enter func163, ntmps163;go_wp2_with fail;refine (C.out _ (Rel.refl _)).mono ?_;rintro e w1 ⟨r, rfl, hr, h1⟩;have HR := Hj hr;clear hr;go_wp2;go_ret;exact ⟨ret_b2 HR.out, h1⟩
theorem form_all (t : Ex) : FormOk t := by
 induction t with
 | no => intro x w h; exact h.elim
 | mk op a b d s n kid ih =>
  intro x w h ht;obtain ⟨hb, hn, ad, cap, rfl, hk⟩ := h;have HK : Hid (KidsAt w n kid ad) := hk;have IH := Hj ih;rw [form_mk];simp only [Ex.op, Ex.va, Ex.vb, Ex.dm, Ex.nm];clear hk ih;have N := Hj fun w' ht => node_any op a b d s ad n cap w' ht hb hn
  have C := Hj fun w' (r : Rel w w') => contains_of n kid IH ad cap w' (Hj (fun h0 => by
   obtain ⟨g, off, e, hg, hc⟩ := HK.out h0
   exact ⟨g, off, e, Nat.lt_of_lt_of_le hg r.size, fun i hi => by
    obtain ⟨xi, hs, hx⟩ := hc i hi
    exact ⟨xi, six_rel hs r hg, kids_rel hx r⟩⟩)) hn (Hj (ht.out.rel r))
  unfold BRes at N C |-;obtain ⟨A, hA⟩ : ∃ A, alK (fun i => (kid i).form) n = A := ⟨_, rfl⟩;obtain ⟨B, hB⟩ : ∃ B, nodB op a b d s n = B := ⟨_, rfl⟩;rw [hA] at C |-;rw [hB] at N |-;clear hA hB hb;cases B
  ·go_enter func127, ntmps127;go_wp2_with fail;refine (N.out _ (Hj (ht.out.rel (rx0)))).mono ?_;rintro e w1 ⟨rfl, h1⟩;have kq0 := keep6 h1 (b := w.heap.size) (by first | (simp; done) | (simp; omega) | omega);have kz1 := h1.size;(try simp only [zsa, zsc, zsd] at kz1);have H1 := Hj h1;clear h1;go_wp2;go_ret;exact ⟨rfl, rx10⟩
  ·go_enter func127, ntmps127;go_wp2_with fail;refine (N.out _ (Hj (ht.out.rel (rx0)))).mono ?_;rintro e w1 ⟨rfl, h1⟩;have kq1 := keep6 h1 (b := w.heap.size) (by first | (simp; done) | (simp; omega) | omega);have kz1 := h1.size;(try simp only [zsa, zsc, zsd] at kz1);have H1 := Hj h1;clear h1;go_wp2_with fail;refine (C.out _ (rx10)).mono ?_;rintro e w2 ⟨rfl, h2⟩;have kz2 := h2.size;(try simp only [zsa, zsc, zsd] at kz2);have H2 := Hj h2;clear h2;go_wp2;go_ret;exact ⟨ret_b2 (by simp), rx210⟩
theorem ValidExpr_any (t : Ex) (x : Value) (w : World) (h : ExKids t w x) (hz : t.size <= 1000000000000) (ht : Hid (TabW w)) :
  Calls prog 86 #[.agg #[.int .i64 t.op, .int .i64 t.va, .int .i64 t.vb, .int .i64 t.dm, .string t.nm, x]] w (BRes t.valid w) := by
 obtain ⟨xa, xc, rfl⟩ := kids_slice h;have D := Hj fun w' (r : Rel w w') => Depth_any t _ w' (kids_rel h r) hz
 have S := Hj fun w' (r : Rel w w') => Size_any t _ w' (kids_rel h r) hz
 have F := Hj fun w' (r : Rel w w') => form_all t _ w' (kids_rel h r) (Hj (ht.out.rel r))
 have hv : t.valid = (decide (t.depth <= 10) && (decide (t.size <= 60) && t.form)) := rfl;have hd := depth_bd t;rw [hv];unfold IntRes at D S;unfold BRes at F |-;obtain ⟨dp, hdp⟩ : ∃ dp, t.depth = dp := ⟨_, rfl⟩;obtain ⟨sz, hsz⟩ : ∃ sz, t.size = sz := ⟨_, rfl⟩;obtain ⟨fo, hfo⟩ : ∃ fo, t.form = fo := ⟨_, rfl⟩;rw [hdp] at D hd |-;rw [hsz] at S hd hz |-;rw [hfo] at F |-;clear h hv hdp hsz hfo;by_cases h1 : dp <= 10
 ·have b1 : decide (dp <= 10) = true := decide_eq_true h1;rw [b1];by_cases h2 : sz <= 60
  ·have b2 : decide (sz <= 60) = true := decide_eq_true h2;rw [b2];go_enter func86, ntmps86;go_wp2_with fail;refine (D.out _ (rx0)).mono ?_;rintro e w1 ⟨rfl, h1⟩;have kq0 := keep6 h1 (b := w.heap.size) (by first | (simp; done) | (simp; omega) | omega);have kz1 := h1.size;(try simp only [zsa, zsc, zsd] at kz1);have H1 := Hj h1;clear h1;go_wp2_with fail;refine (S.out _ (rx10)).mono ?_;rintro e w2 ⟨rfl, h2⟩;have kq1 := keep6 h2 (b := w.heap.size) (by first | (simp; done) | (simp; omega) | omega);have kz2 := h2.size;(try simp only [zsa, zsc, zsd] at kz2);have H2 := Hj h2;clear h2;go_wp2_with fail;refine (F.out _ (rx210)).mono ?_;rintro e w3 ⟨rfl, h3⟩;have kq2 := keep6 h3 (b := w.heap.size) (by first | (simp; done) | (simp; omega) | omega);have kz3 := h3.size;(try simp only [zsa, zsc, zsd] at kz3);have H3 := Hj h3;clear h3;go_wp2;go_ret;exact ⟨rfl, rx3210⟩
  ·have b2 : decide (sz <= 60) = false := decide_eq_false h2;rw [b2];go_enter func86, ntmps86;go_wp2_with fail;refine (D.out _ (rx0)).mono ?_;rintro e w1 ⟨rfl, h1⟩;have kq3 := keep6 h1 (b := w.heap.size) (by first | (simp; done) | (simp; omega) | omega);have kz1 := h1.size;(try simp only [zsa, zsc, zsd] at kz1);have H1 := Hj h1;clear h1;go_wp2_with fail;refine (S.out _ (rx10)).mono ?_;rintro e w2 ⟨rfl, h2⟩;have kq4 := keep6 h2 (b := w.heap.size) (by first | (simp; done) | (simp; omega) | omega);have kz2 := h2.size;(try simp only [zsa, zsc, zsd] at kz2);have H2 := Hj h2;clear h2;go_wp2;go_ret;exact ⟨rfl, rx210⟩
 ·have b1 : decide (dp <= 10) = false := decide_eq_false h1;rw [b1];go_enter func86, ntmps86;go_wp2_with fail;refine (D.out _ (rx0)).mono ?_;rintro e w1 ⟨rfl, h1⟩;have kq5 := keep6 h1 (b := w.heap.size) (by first | (simp; done) | (simp; omega) | omega);have kz1 := h1.size;(try simp only [zsa, zsc, zsd] at kz1);have H1 := Hj h1;clear h1;go_wp2;go_ret;exact ⟨rfl, rx10⟩
end Go.Proofs.YthmlhheceihcbaaGreatDoor

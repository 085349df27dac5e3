/- Lemmas, each as it is printed; no conditions but those printed. -/
import Derived.Test.YthmlhheceihcbaaGreatDoorKB21
namespace Go.Proofs.YthmlhheceihcbaaGreatDoor
set_option maxHeartbeats 16000000
open Go.RowKit Cal Str Tok Frac Txt Tree Go.Proofs.Tryz
attribute [local go_sem] calmUpon
set_option linter.unusedVariables false
set_option linter.unusedSimpArgs false
structure SX (b : Nat) (la : Option Addr) (ln : Nat) (ea : Option Addr) (ke : Nat) (w0 : World) (A : Int) (W : World) : Prop where
 ex : ∃ lc a l, Src W b la ln lc a l /\ a <= A
 R : Ro b w0 W
 hb : b < w0.heap.size
 nu : Nums w0 b la ln
 en : ∃ nm dm, EnvB w0 b ke nm dm ea
 kl : ke <= 1000
section
variable {b ln ke g n : Nat} {la ea : Option Addr} {A B : Int} {w0 wa W X : World}
theorem SX.rel (h : SX b la ln ea ke w0 A W) (r : Rel W X) : SX b la ln ea ke w0 A X :=
 have ⟨lc, a, l, h1, h2⟩ := h.ex
 ⟨⟨lc, a, l, h1.rel r, h2⟩, h.R.trans (Ro.of r), h.hb, h.nu, h.en, h.kl⟩
theorem SX.al (h : SX b la ln ea ke w0 A W) (o : Obj) : SX b la ln ea ke w0 A (W.alloc o) := h.rel ((Rel.refl _).alloc o)
theorem SX.re (h : SX b la ln ea ke w0 A W) : SX b la ln ea ke W A W :=
 have ⟨nm, dm, e⟩ := h.en
 ⟨h.ex, Ro.refl _ _, Nat.lt_of_lt_of_le h.hb h.R.size, h.nu.ro h.R, ⟨nm, dm, e.ro h.R⟩, h.kl⟩
theorem SX.tr (h : SX b la ln ea ke w0 A W) (k : SX b la ln ea ke wa B w0) : SX b la ln ea ke wa A W := ⟨h.ex, k.R.trans h.R, k.hb, k.nu, k.en, k.kl⟩
theorem SX.up (h : SX b la ln ea ke w0 A W) (hB : A <= B) : SX b la ln ea ke w0 B W :=
 have ⟨lc, a, l, h1, h2⟩ := h.ex
 { h with ex := ⟨lc, a, l, h1, Int.le_trans h2 hB⟩ }
theorem SX.put (h : SX b la ln ea ke w0 A W) (hg : w0.heap.size <= g) (i : Nat) (u : Value) : SX b la ln ea ke w0 A (W.setCell ⟨g, i, none⟩ u) :=
 have ⟨lc, a, l, h1, h2⟩ := h.ex
 have R := h.R.setNew (p := ⟨g, i, none⟩) hg u
 ⟨⟨lc, a, l, h1.other (by have := h.hb; omega) (h.nu.ro R), h2⟩, R, h.hb, h.nu, h.en, h.kl⟩
theorem SX.grown {row : Option Nat} (h : SX b la ln ea ke w0 A W) (hg : W.grownBy X row) (hrow : ∀ q, row = some q -> w0.heap.size <= q) : SX b la ln ea ke w0 A X :=
 have ⟨lc, a, l, h1, h2⟩ := h.ex
 have R := h.R.grown hg hrow
 ⟨⟨lc, a, l, h1.grown h.nu R hg (fun e => by have := hrow _ e.symm; have := h.hb; omega), h2⟩, R, h.hb, h.nu, h.en, h.kl⟩
end
theorem res2 {fn : Func} {a : Act} {t : Tmp} {W : World} {g : Nat} {u v : Value} (h : fn.results = #[.cell t 54]) (ht : a.tmps.getD t undef = .pointer (some ⟨g, 0, none⟩)) (c0 : W.cell? ⟨g, 0, none⟩ = some u) (c1 : W.cell? ⟨g, 1, none⟩ = some v) : (results fn a.tmps).run prog W = .ok (.agg #[u, v]) W := by
 rw [Array.getD_eq_getD_getElem?] at ht;simp [results, h, ht, go_sem, c0, c1]
section
variable {b ln ke : Nat} {la ea : Option Addr} {A : Int} {w0 W : World}
theorem s_next {k : Int} (h : SX b la ln ea ke w0 A W) (hA : A <= 3000000000000000000) (k1 : 1 <= k) (k2 : k <= 4000000000000000000) :
  Calls prog 143 #[.pointer (some ⟨b, 0, none⟩), .int .i64 k] W fun e w' => ∃ v : Int, e = .returned (.int .i64 v) /\ 0 <= v /\ v < k /\ SX b la ln ea ke w0 (A + 1) w' := by
 obtain ⟨lc, a, l, hS, ha⟩ := h.ex;have c0 := hS.c0;have c1 := hS.c1;have a0 := hS.at0;have hln := hS.nums.le;have wk : IntKind.i64.wrap (a + 1) = a + 1 := IntWalk.i64_in _ ⟨by omega, by omega⟩;have fin : Hid (∀ X, Rel W X -> Src X b la ln lc a l /\ SX b la ln ea ke w0 (A + 1) (X.setCell ⟨b, 1, none⟩ (.int .i64 (a + 1)))) := fun X r => ⟨hS.rel r, ⟨lc, a + 1, l, (hS.rel r).setAt _ (by omega), by omega⟩, (h.R.trans (Ro.of r)).set 1 _, h.hb, h.nu, h.en, h.kl⟩
 have nu := Hj hS.nums;clear hS h;by_cases hlt : a < ln
 ·obtain ⟨g, off, zs, rfl, hg, hgb, hc⟩ := nu.out.at' (by omega);obtain ⟨j, rfl⟩ := Int.eq_ofNat_of_zero_le a0;obtain ⟨ce, e0, e1⟩ := hc j (by omega);have hj : j < ln := by omega
  have bl : decide ((j : Int) < ln) = true := decide_eq_true hlt;obtain ⟨z, hz⟩ : ∃ z, zs j = z := ⟨_, rfl⟩;rw [hz] at ce e0 e1;have P := Hj fun w => pick_any z k w e0 e1 k1 k2
  have z0 := Int.emod_nonneg z (show k ≠ 0 by omega);have z1 := Int.emod_lt_of_pos z (show 0 < k by omega);clear hc hz;go_enter func143, ntmps143;go_wp2_with fail;refine wrd (fun w1 h1 => ?_);have d0 := h1.cell c0;have d1 := h1.cell c1;have de := h1.cell ce;clear c0 c1 ce;go_wp2_with fail;refine wrd (fun w2 h2 => ?_);obtain ⟨S, F⟩ := fin.out w2 (h1.trans h2);have b1 := S.c1;have f1 := S.f1;clear d0 d1 de h1 h2 S;go_wp2_with fail;refine (P.out _).mono ?_;rintro e w6 ⟨rfl, rfl⟩;go_wp2;go_ret;exact ⟨_, rfl, z0, z1, F⟩
 ·have bl : decide (a < (ln : Int)) = false := decide_eq_false hlt;have P := Hj fun w => pick_any 0 k w (by decide) (by decide) k1 k2
  have z0 : (0 : Int) % k = 0 := Int.zero_emod k;rw [z0] at P;go_enter func143, ntmps143;go_wp2_with fail;refine wrd (fun w1 h1 => ?_);obtain ⟨S, F⟩ := fin.out w1 h1;have b1 := S.c1;have f1 := S.f1;clear c0 c1 h1 S;go_wp2_with fail;refine (P.out _).mono ?_;rintro e w6 ⟨rfl, rfl⟩;go_wp2;go_ret;exact ⟨_, rfl, by decide, by omega, F⟩
def t7 : List Int := [1, 1, 1, 10, 4, 1000, 10000]
theorem s_number (h : SX b la ln ea ke w0 A W) (hA : A <= 2999999999999999999) :
  Calls prog 146 #[.pointer (some ⟨b, 0, none⟩)] W fun e w' => ∃ N D : Int, e = .returned (.agg #[.int .i64 N, .int .i64 D]) /\ I64 N /\ I64 D /\ SX b la ln ea ke w0 (A + 2) w' := by
 go_enter func146, ntmps146;go_wp2_with fail;refine al_c fun X BX RX _ => ?_
 have hb := Nat.lt_of_lt_of_le h.hb h.R.size;refine (s_next (h.rel RX).re (by omega) (by decide) (by decide)).mono ?_;rintro e w1 ⟨n, rfl, n0, n1, S1⟩;have B1 := BX.ro S1.R (by omega);have s1 := S1.R.size;have sx := RX.size;have S1 := S1.tr (h.rel RX);clear BX RX;go_wp2_with fail;refine al_c fun Y BY RY _ => ?_
 refine (s_next (S1.rel RY).re (by omega) (by decide) (by decide)).mono ?_;rintro e w2 ⟨v, rfl, v0, v1, S2⟩
 have hv : ∃ c, t7[v.toNat]? = some c /\ 1 <= c /\ c <= 10000 := by
  rcases (show v = 0 \/ v = 1 \/ v = 2 \/ v = 3 \/ v = 4 \/ v = 5 \/ v = 6 by omega) with rfl | rfl | rfl | rfl | rfl | rfl | rfl <;> exact ⟨_, rfl, by decide, by decide⟩
 obtain ⟨c, hc, c0, c1⟩ := hv;obtain ⟨j, rfl⟩ := Int.eq_ofNat_of_zero_le v0;have hb1 : b < w1.heap.size := by omega
 have hj : j < 7 := by omega
 have ct := (BY.ro S2.R (by omega)).c (j := j) (u := .int .i64 c) (by
  show (t7.map fun z => Value.int .i64 z)[j]? = _
  rw [List.getElem?_map]; simp at hc; rw [hc]; rfl)
 have B2 := (B1.rel RY).ro S2.R (by omega);have S2 := S2.tr (S1.rel RY);have C4 := Hj fun w => rmake_any n c w (by omega) (by omega) (by omega) (by omega)
 unfold FrRes at C4;obtain ⟨⟨m0, m1⟩, m2, m3⟩ := mk_bd n c;generalize mkN n c = N at *;generalize mkD n c = D at *;generalize mkE n c = E at *;clear BY RY B1 S1 hc;go_wp2_with fail;refine (C4.out _).mono ?_;rintro e w3 ⟨rfl, h3⟩;have B3 := B2.rel h3;have S3 := S2.rel h3;have k := B3.cs;have kf := B3.f;have kl := B3.lt;clear B2 S2;refine gw ?_;have q := h.R.size;refine bodyPost_ret (res2 rfl rfl (by go_simp) (by go_simp)) rfl ⟨N, D, rfl, ⟨by omega, by omega⟩, ⟨by omega, by omega⟩, ?_⟩;exact (((S3.put q 0 _).put q 1 _).al _).up (by omega)
end
theorem ti_str : tz prog 9 = some (some (.string ByteArray.empty), 1, 16) := by kernel_rfl
def lfT (op a b d : Int) (s : ByteArray) : Ex := .mk op a b d s 0 (fun _ => .no)
def MX (b : Nat) (la : Option Addr) (ln : Nat) (ea : Option Addr) (ke : Nat) (A F : Int) (w : World) (e : Ending) (w' : World) : Prop :=
 ∃ (t : Ex) (xa : Option Addr) (xc : Nat), e = .returned (.agg #[.int .i64 t.op, .int .i64 t.va, .int .i64 t.vb, .int .i64 t.dm, .string t.nm, .slice xa t.cnt xc]) /\ t.size <= F /\ ExKidsB (fun q => w.heap.size <= q) t w' (.slice xa t.cnt xc) /\ SX b la ln ea ke w A w'
section
variable {b ln ke : Nat} {la ea : Option Addr} {A A' F : Int} {w0 w W : World} {T : TypeId} {l : List Value} {t : Ex} {xa : Option Addr} {xc : Nat}
theorem s_left (h : SX b la ln ea ke w0 A W) : ∃ z, W.cell? ⟨b, 2, none⟩ = some (.int .i64 z) /\ W.frozen? ⟨b, 2, none⟩ = false /\ b < W.heap.size /\ I64 z /\ ∀ y, I64 y -> SX b la ln ea ke w0 A (W.setCell ⟨b, 2, none⟩ (.int .i64 y)) := by
 obtain ⟨lc, a, z, h1, h2⟩ := h.ex;exact ⟨z, h1.c2, h1.f2, h1.lt, ⟨h1.l0, h1.l1⟩, fun y hy => ⟨⟨lc, a, y, h1.setLeft y hy.1 hy.2, h2⟩, h.R.set 2 _, h.hb, h.nu, h.en, h.kl⟩⟩
theorem tx_ret {fn : Func} {a : Act} {tm : Tmp} (t : Ex) (S : SX b la ln ea ke w A' W) (B : Blk W w.heap.size T l) (hK : ExKidsB (fun q => w.heap.size < q) t W (.slice xa t.cnt xc)) (hA : A' <= A := by omega) (hz : t.size <= F := by omega) (hl : l.length = 6 := by rfl) (h : fn.results = #[.cell tm 59] := by rfl) (ht : a.tmps.getD tm undef = .pointer (some ⟨w.heap.size, 0, none⟩) := by rfl) (hd : a.defers = [] := by rfl) :
  bodyPost prog fn (MX b la ln ea ke A F w) .ret a ((((((W.setCell ⟨w.heap.size, 0, none⟩ (.int .i64 t.op)).setCell ⟨w.heap.size, 1, none⟩ (.int .i64 t.va)).setCell ⟨w.heap.size, 2, none⟩ (.int .i64 t.vb)).setCell ⟨w.heap.size, 3, none⟩ (.int .i64 t.dm)).setCell ⟨w.heap.size, 4, none⟩ (.string t.nm)).setCell ⟨w.heap.size, 5, none⟩ (.slice xa t.cnt xc)) := by
 have h0 := Nat.le_refl w.heap.size;have Q := ((((((Ro.refl w.heap.size W).set 0 (.int .i64 t.op)).set 1 (.int .i64 t.va)).set 2 (.int .i64 t.vb)).set 3 (.int .i64 t.dm)).set 4 (.string t.nm)).set 5 (.slice xa t.cnt xc);exact bodyPost_ret (res6 h ht (six_at _ B hl)) hd ⟨t, xa, xc, rfl, hz, kidsB_keep Q.size (fun q hq hp => ⟨Q.block q hq (by omega), by omega⟩) hK, ((((((S.up hA).put h0 0 _).put h0 1 _).put h0 2 _).put h0 3 _).put h0 4 _).put h0 5 _⟩
theorem lf_kids {P : Nat -> Prop} {op a b d : Int} {s : ByteArray} (ho : I64 op) (ha : I64 a) (hb : I64 b) (hd : I64 d) (hs : s.size <= 140737488355328) : ExKidsB P (lfT op a b d s) W (.slice none (lfT op a b d s).cnt 0) := ⟨⟨ho.1, ho.2, ha.1, ha.2, hb.1, hb.2, hd.1, hd.2, hs⟩, by omega, none, 0, rfl, fun h0 => absurd h0 (Nat.lt_irrefl 0)⟩
theorem i64c {z : Int} (h : -9223372036854775808 <= z /\ z <= 9223372036854775807 := by decide) : I64 z := h
theorem lf_ret {fn : Func} {a : Act} {tm : Tmp} (op x y d : Int) (s : ByteArray) (S : SX b la ln ea ke w A' W) (B : Blk W w.heap.size T l) (ho : I64 op) (hx : I64 x) (hy : I64 y) (hd' : I64 d) (hs : s.size <= 140737488355328) (hA : A' <= A := by omega) (hl : l.length = 6 := by rfl) (h : fn.results = #[.cell tm 59] := by rfl) (ht : a.tmps.getD tm undef = .pointer (some ⟨w.heap.size, 0, none⟩) := by rfl) (hd : a.defers = [] := by rfl) :
  bodyPost prog fn (MX b la ln ea ke A 1 w) .ret a ((((((W.setCell ⟨w.heap.size, 0, none⟩ (.int .i64 op)).setCell ⟨w.heap.size, 1, none⟩ (.int .i64 x)).setCell ⟨w.heap.size, 2, none⟩ (.int .i64 y)).setCell ⟨w.heap.size, 3, none⟩ (.int .i64 d)).setCell ⟨w.heap.size, 4, none⟩ (.string s)).setCell ⟨w.heap.size, 5, none⟩ (.slice none 0 0)) :=
 tx_ret (lfT op x y d s) S B (lf_kids ho hx hy hd' hs) hA (by unfold lfT; rw [size_mk]; simp [smK]) hl h ht hd
end
theorem nam_at : ∀ k, k < 11 -> ∃ s : ByteArray, namTab[k]? = some (.string s) /\ s.size <= 20 := by
 intro k hk
 rcases (show k = 0 \/ k = 1 \/ k = 2 \/ k = 3 \/ k = 4 \/ k = 5 \/ k = 6 \/ k = 7 \/ k = 8 \/ k = 9 \/ k = 10 by omega) with rfl | rfl | rfl | rfl | rfl | rfl | rfl | rfl | rfl | rfl | rfl <;> exact ⟨_, rfl, by decide⟩
structure NmS (w0 : World) (l : List ByteArray) (va : Option Addr) (vc : Nat) (W : World) : Prop where
 r : Rel w0 W
 o : W.ownsRow w0.heap.size 9 1 (.slice va l.length vc) l.length (strL l)
 z : ∀ s ∈ l, s.size <= 140737488355328
theorem NmS.rel {w0 W X : World} {l : List ByteArray} {va : Option Addr} {vc : Nat} (h : NmS w0 l va vc W) (r : Rel W X) : NmS w0 l va vc X := ⟨h.r.trans r, own_rel' h.o r, h.z⟩
theorem NmS.app {w0 W Z : World} {l : List ByteArray} {va : Option Addr} {vc g2 c2 : Nat} {s : ByteArray} (h : NmS w0 l va vc W) (hs : s.size <= 140737488355328) (own : Z.ownsRow w0.heap.size 9 1 (.slice (some ⟨g2, 0, none⟩) (l.length + 1) c2) (l.length + 1) (strL l ++ [.string s])) (grow : W.grownBy Z (Value.slice va l.length vc).ownBlock) : NmS w0 (l ++ [s]) (some ⟨g2, 0, none⟩) c2 Z :=
 ⟨Below.grown h.r grow h.r.size (fun q hq => (h.o.lt q hq).1), by rw [strL_snoc, List.length_append]; exact own, fun x hx => by rcases List.mem_append.1 hx with e | e; exact h.z x e; simp at e; subst e; exact hs⟩
theorem NmS.low {w0 w1 W : World} {l : List ByteArray} {va : Option Addr} {vc : Nat} (h : NmS w1 l va vc W) (r : Rel w0 w1) : NmS w0 l va vc W := ⟨r.trans h.r, own_up h.o r.size, h.z⟩
set_option maxRecDepth 20000 in
theorem s_inputs (dim : Int) (w : World) : Calls prog 145 #[.int .i64 dim] w fun e w' => ∃ l va vc, e = .returned (.slice va l.length vc) /\ l.length <= 11 /\ NmS w l va vc w' := by
 go_enter func145, ntmps145;go_wp2_with fail;refine (Names_any _).mono ?_;rintro e w1 ⟨rfl, hw1⟩
 have hN : Hid (∀ k, k < 11 -> ∃ s : ByteArray, w1.cell? ⟨w.heap.size, k, none⟩ = some (.string s) /\ s.size <= 20) := fun k hk => by
  obtain ⟨s, h1, h2⟩ := nam_at k hk;exact ⟨s, by rw [hw1]; simpa using h1, h2⟩
 have r1 : Rel w w1 := by rw [hw1]; exact (Rel.refl _).alloc _
 clear hw1;go_wp2_with fail
 go_loopw [4, 5] (fun v i wx => ∃ (k : Nat) (l : List ByteArray) (va : Option Addr) (vc : Nat), v = .slice va l.length vc /\ k <= 11 /\ i = .int .i64 k /\ l.length <= k /\ NmS w1 l va vc wx) (fun _ i _ => 11 - (intOf i).toNat)
 case atStart => exact ⟨0, [], none, 0, rfl, by omega, rfl, by simp, Rel.refl _, World.ownsRow_nil _ _ _ _, fun s hs => by cases hs⟩
 case round =>
  obtain ⟨k, l, va, vc, rfl, hk, rfl, hl, hM⟩ := hrel;by_cases hlt : k < 11
  ·obtain ⟨s, q0, q1⟩ := hN.out k hlt;have c0 := hM.r.cell q0;have I := Hj fun w => rInput_any s w
   generalize inpB s = B at I;generalize inpI s = D at I;clear q0
   cases ed : (D == dim)
   all_goals
    go_wp2_with fail;refine (I.out _).mono ?_;rintro e w2 ⟨rfl, rfl⟩
   ·go_wp2
    go_roundw
    case rel => exact ⟨k + 1, l, va, vc, rfl, by omega, by go_num, by omega, hM⟩
    case measure => simp [intOf]; omega
   ·go_wp2_with (at_builtin; refine wl_app ti_str (hM.rel ((Rel.refl _).alloc _)).o rfl (by omega) hM.r.size ?_)
    intro g2 c2 w8 own grow hat;have M8 := (hM.rel ((Rel.refl _).alloc _)).app (by omega) own grow;clear own grow hat;go_wp2
    go_roundw
    case rel => exact ⟨k + 1, l ++ [s], some ⟨g2, 0, none⟩, c2, by rw [List.length_append]; rfl, by omega, by go_num, by simp; omega, M8⟩
    case measure => simp [intOf]; omega
  ·have : k = 11 := by omega
   subst this;go_wp2;go_ret;exact ⟨l, va, vc, rfl, hl, hM.low r1⟩
set_option maxRecDepth 20000 in
theorem s_leafN {b ln ke ec : Nat} {la ea : Option Addr} {A : Int} {w : World} {dim : Int} (h : SX b la ln ea ke w A w) (hA : A <= 2999999999999990000) (hd : I64 dim) (h1 : ¬ dim = 1) :
  Calls prog 109 #[.pointer (some ⟨b, 0, none⟩), .int .i64 dim, .slice ea ke ec] w (MX b la ln ea ke (A + 4) 1 w) := by
 have e1 : (dim == 1) = false := by simpa using h1
 obtain ⟨z, c2, f2, hlt, hz, HL⟩ := s_left h;obtain ⟨L, hL⟩ : ∃ L, wrap64 (z - 1) = L := ⟨_, rfl⟩;have S0 := HL L (by rw [<- hL]; unfold wrap64; constructor <;> omega);clear HL h1;go_enter func109, ntmps109;go_wp2_with fail;rw [hL];refine al_c fun X BX RX hX => ?_
 rw [World.size_setCell] at BX hX;have S1 := S0.rel RX;have hb := h.hb;have KEY : Hid (∀ Y A', SX b la ln ea ke X A' Y -> SX b la ln ea ke w A' Y /\ Blk Y w.heap.size 59 zX) := fun Y A' s => ⟨s.tr S1, Blk.ro BX s.R (by omega)⟩
 have S1 := S1.re;have hXw : w.heap.size < X.heap.size := by omega
 clear hL hz c2 f2 S0 BX RX hX;refine (s_inputs dim X).mono ?_;rintro e w1 ⟨l, va, vc, rfl, hl, hM⟩;obtain ⟨nm, dm, hE⟩ := S1.en;have hke := h.kl;go_wp2_with fail
 go_loopw [8, 9] (fun v i wx => ∃ (k : Nat) (l : List ByteArray) (va : Option Addr) (vc : Nat), v = .slice va l.length vc /\ k <= ke /\ i = .int .i64 k /\ l.length <= k + 11 /\ NmS X l va vc wx) (fun _ i _ => ke - (intOf i).toNat)
 case atStart => exact ⟨0, l, va, vc, rfl, by omega, rfl, by omega, hM⟩
 case round =>
  obtain ⟨k, l, va, vc, rfl, hk, rfl, hl, hM⟩ := hrel;by_cases hlt' : k < ke
  ·obtain ⟨g, off, rfl, hg, hgb, hc⟩ := (hE.ro (Ro.of hM.r)).at' (by omega);obtain ⟨q0, q1, q2, -, -⟩ := hc k hlt';clear hc
   cases ed : (dm k == dim)
   ·go_wp2
    go_roundw
    case rel => exact ⟨k + 1, l, va, vc, rfl, by omega, by go_num, by omega, hM⟩
    case measure => simp [intOf]; omega
   ·go_wp2_with (at_builtin; refine wl_app ti_str (hM.rel ((Rel.refl _).alloc _)).o rfl (by omega) hM.r.size ?_)
    intro g2 c2 w8 own grow hat;have M8 := (hM.rel ((Rel.refl _).alloc _)).app q2 own grow;clear own grow hat q0 q1;go_wp2
    go_roundw
    case rel => exact ⟨k + 1, l ++ [nm k], some ⟨g2, 0, none⟩, c2, by rw [List.length_append]; rfl, by omega, by go_num, by simp; omega, M8⟩
    case measure => simp [intOf]; omega
  ·have : k = ke := by omega
   subst this;have S2 := S1.rel hM.r;have n3 : IntKind.i64.wrap ((l.length : Int) + 3) = (l.length : Int) + 3 := IntWalk.i64_in _ ⟨by omega, by omega⟩;go_wp2_with fail;refine (s_next S2.re (by omega) (k := (l.length : Int) + 3) (by omega) (by omega)).mono ?_;rintro e w4 ⟨v, rfl, v0, v1, S4⟩;obtain ⟨j, rfl⟩ := Int.eq_ofNat_of_zero_le v0;obtain ⟨T4, B4⟩ := KEY.out _ _ (S4.tr S2);by_cases hj : j < l.length
   ·obtain ⟨g, cap, hv, hgb, hgl, hc1, hc2, hcs⟩ := own_some hM.o (by omega);simp only [Value.slice.injEq] at hv;obtain ⟨rfl, -, rfl⟩ := hv;obtain ⟨t, ht⟩ : ∃ t, l[j]? = some t := ⟨_, List.getElem?_eq_getElem (by omega)⟩;have ct : w4.cell? ⟨g, j, none⟩ = some (.string t) := S4.R.cell hgl (by omega) (hcs j _ (by unfold strL; rw [List.getElem?_map, ht]; rfl));have bj : decide ((j : Int) < (l.length : Int)) = true := dT (by omega);have kk := B4.cs;have kf := B4.f;have kl := B4.lt;clear hcs;refine gw ?_;exact lf_ret 2 0 0 0 t T4 B4 i64c i64c i64c i64c (hM.z t (List.mem_of_getElem? ht))
   ·have bj : decide ((j : Int) < (l.length : Int)) = false := dF (by omega);have ho : (dim = 4 /\ j = l.length) \/ (dim = 4 /\ ¬ j = l.length) \/ ¬ dim = 4 := by omega
    rcases ho with ⟨rfl, ej⟩ | ⟨rfl, ej⟩ | e4
    ·have ej' : ((j : Int) == (l.length : Int)) = true := by simp; omega
     go_wp2_with fail;refine (s_next T4.re (by omega) (by decide) (by decide)).mono ?_;rintro e w5 ⟨u, rfl, u0, u1, S5⟩;have B5 := B4.ro S5.R (by omega);have u3 : IntKind.i64.wrap (1 + u) = 1 + u := IntWalk.i64_in _ ⟨by omega, by omega⟩;have kk := B5.cs;have kf := B5.f;have kl := B5.lt;refine gw ?_;exact lf_ret 3 (1 + u) 1 0 _ (S5.tr T4) B5 i64c ⟨by omega, by omega⟩ i64c i64c (by decide)
    ·have ej' : ((j : Int) == (l.length : Int)) = false := by simp; omega
     go_wp2_with fail;refine (s_number T4.re (by omega)).mono ?_;rintro e w5 ⟨N, D, rfl, hN, hD, S5⟩;have B5 := B4.ro S5.R (by omega);have kk := B5.cs;have kf := B5.f;have kl := B5.lt;refine gw ?_;exact lf_ret 1 N D 4 _ (S5.tr T4) B5 i64c hN hD i64c (by decide)
    ·have e4' : (dim == 4) = false := by simpa using e4
     go_wp2_with fail;refine (s_number T4.re (by omega)).mono ?_;rintro e w5 ⟨N, D, rfl, hN, hD, S5⟩;have B5 := B4.ro S5.R (by omega);have kk := B5.cs;have kf := B5.f;have kl := B5.lt;refine gw ?_;exact lf_ret 1 N D dim _ (S5.tr T4) B5 i64c hN hD hd (by decide)
abbrev TxR (base : Nat) (ra : Option Addr) (G : Int) (W : World) (L : List (Ex × Value)) : Prop := ∀ p ∈ L, TxB (fun q => (base <= q /\ True) /\ OffB ra q) W p /\ p.1.size <= G
theorem smL {L : List (Ex × Value)} {G : Int} (h : ∀ p ∈ L, p.1.size <= G) (op : Int) : (Ex.mk op 0 0 0 ⟨#[]⟩ L.length (kidL L)).size <= 1 + L.length * G := by
 rw [size_mk]
 have := smK_mul (f := fun i => (kidL L i).size) (B := G) (n := L.length) (fun i hi => by
  show (kidL L i).size <= G
  rw [kidL_at (List.getElem?_eq_getElem hi)]; exact h _ (List.getElem_mem hi))
 omega
theorem kids_of {base g cap : Nat} {W : World} {T : TypeId} {G op : Int} {L : List (Ex × Value)} {P : Nat -> Prop} (ho : I64 op) (hL : L.length <= 1000) (h0 : 0 < L.length) (hO : W.ownsRow base T 6 (.slice (some ⟨g, 0, none⟩) L.length cap) L.length (celL L)) (hT : TxR base (some ⟨g, 0, none⟩) G W L) (hP : ∀ q, base <= q -> P q) :
  ExKidsB P (.mk op 0 0 0 ⟨#[]⟩ L.length (kidL L)) W (.slice (some ⟨g, 0, none⟩) L.length cap) := by
 obtain ⟨hgb, hgl⟩ := hO.lt g rfl;refine row_kids ⟨ho.1, ho.2, by decide, by decide, by decide, by decide, by decide, by decide, by decide⟩ hL (fun j u hu => ?_) hgl (hP g hgb) (fun i p hp => kidsB_keep (Nat.le_refl _) (fun q _ hq => ⟨rfl, hP q hq.1.1⟩) (hT p (List.mem_of_getElem? hp)).1.1);have h2 := hO.cells (g := g) rfl j u hu
 have hadd : (⟨g, 0, none⟩ : Addr).add j = ⟨g, j, none⟩ := by unfold Addr.add; split <;> simp_all
 rwa [hadd] at h2
theorem tx_retA {b ln ke : Nat} {la ea : Option Addr} {A A' F : Int} {w W : World} {T : TypeId} {l : List Value} {xa : Option Addr} {xc : Nat} {fn : Func} {a : Act} {tm : Tmp} {o : Obj} (t : Ex) (S : SX b la ln ea ke w A' W) (B : Blk W w.heap.size T l) (hK : ExKidsB (fun q => w.heap.size < q) t (W.alloc o) (.slice xa t.cnt xc)) (hA : A' <= A := by omega) (hz : t.size <= F := by omega) (hl : l.length = 6 := by rfl) (h : fn.results = #[.cell tm 59] := by rfl) (ht : a.tmps.getD tm undef = .pointer (some ⟨w.heap.size, 0, none⟩) := by rfl) (hd : a.defers = [] := by rfl) :
  bodyPost prog fn (MX b la ln ea ke A F w) .ret a (((((((W.setCell ⟨w.heap.size, 0, none⟩ (.int .i64 t.op)).setCell ⟨w.heap.size, 1, none⟩ (.int .i64 t.va)).setCell ⟨w.heap.size, 2, none⟩ (.int .i64 t.vb)).setCell ⟨w.heap.size, 3, none⟩ (.int .i64 t.dm)).setCell ⟨w.heap.size, 4, none⟩ (.string t.nm)).setCell ⟨w.heap.size, 5, none⟩ (.slice xa t.cnt xc)).alloc o) := by
 have hlt := B.lt;have := tx_ret (F := F) (A := A) (fn := fn) (a := a) t (S.al o) (B.alloc o) hK hA hz hl h ht hd
 repeat rw [World.setCell_alloc_past _ _ _ _ (by simpa using hlt)] at this
 exact this
theorem ti_ex : tz prog 59 = some (some (.agg #[.int .i64 0, .int .i64 0, .int .i64 0, .int .i64 0, .string ByteArray.empty, .slice none 0 0]), 6, 72) := by kernel_rfl
theorem two_kids {P : Nat -> Prop} {W Z : World} {T : TypeId} {op : Int} {t u : Ex} {xt xu : Value} (ho : I64 op) (ht : ExKidsB P t W xt) (hu : ExKidsB P u W xu) (B : Blk Z W.heap.size T (cel (t, xt) ++ cel (u, xu))) (r : Rel W Z) (hP : P W.heap.size) : ExKidsB P (.mk op 0 0 0 ⟨#[]⟩ 2 (kidL [(t, xt), (u, xu)])) Z (.slice (some ⟨W.heap.size, 0, none⟩) 2 2) := by
 refine row_kids (L := [(t, xt), (u, xu)]) ⟨ho.1, ho.2, by decide, by decide, by decide, by decide, by decide, by decide, by decide⟩ (by simp) (fun j v hv => B.c (by simpa [celL] using hv)) B.lt hP (fun i p hp => ?_);have key : ∀ {t x}, ExKidsB P t W x -> ExKidsB P t Z x := fun h => kidsB_keep (Below.size r) (fun q hq hp => ⟨Below.block r q hq, hp⟩) h
 match i with
 | 0 => simp at hp; subst hp; exact key ht
 | 1 => simp at hp; subst hp; exact key hu
 | i + 2 => simp at hp
set_option maxRecDepth 20000 in
theorem s_leafB {b ln ke ec : Nat} {la ea : Option Addr} {A : Int} {w : World} (h : SX b la ln ea ke w A w) (hA : A <= 2999999999999980000) :
  Calls prog 109 #[.pointer (some ⟨b, 0, none⟩), .int .i64 1, .slice ea ke ec] w (MX b la ln ea ke (A + 10) 3 w) := by
 obtain ⟨z, c2, f2, hlt, hz, HL⟩ := s_left h;obtain ⟨L, hL⟩ : ∃ L, wrap64 (z - 1) = L := ⟨_, rfl⟩;have S0 := HL L (by rw [<- hL]; unfold wrap64; constructor <;> omega);have hb := h.hb;clear HL;go_enter func109, ntmps109;go_wp2_with fail;rw [hL];refine al_c fun X BX RX hX => ?_
 rw [World.size_setCell] at BX hX;have BX : Blk X w.heap.size 59 zX := BX;have S1 := S0.rel RX;clear hL hz c2 f2 S0 RX;refine (s_next S1.re (by omega) (by decide) (by decide)).mono ?_;rintro e w1 ⟨v, rfl, v0, v1, S2⟩;obtain ⟨d, hd⟩ : ∃ d, 2 + v = d := ⟨_, rfl⟩;have v3 : IntKind.i64.wrap (2 + v) = d := by rw [<- hd]; exact IntWalk.i64_in _ ⟨by omega, by omega⟩
 have B2 := BX.ro S2.R (by omega);have S2 := S2.tr S1;go_wp2_with fail;refine (s_next S2.re (by omega) (by decide) (by decide)).mono ?_;rintro e w2 ⟨y, rfl, y0, y1, S3⟩;obtain ⟨op, hop⟩ : ∃ op, 11 + y = op := ⟨_, rfl⟩;have y3 : IntKind.i64.wrap (11 + y) = op := by rw [<- hop]; exact IntWalk.i64_in _ ⟨by omega, by omega⟩
 have B3 := B2.ro S3.R (by omega);have S3 := S3.tr S2;go_wp2_with fail;refine (s_leafN S3.re (by omega) (dim := d) ⟨by omega, by omega⟩ (by omega)).mono ?_;unfold MX;rintro e w3 ⟨t, ta, tc, rfl, tz, tk, S4⟩;have B4 := B3.ro S4.R (by omega);go_wp2_with fail;refine (s_leafN S4.re (by omega) (dim := d) ⟨by omega, by omega⟩ (by omega)).mono ?_;unfold MX;rintro e w4 ⟨u, ua, uc, rfl, uz, uk, S5⟩;have B5 := B4.ro S5.R (by omega);have hs := S3.R.size;have hs4 := S4.R.size;have tk := kidsB_keep (Q := fun q => w.heap.size < q) S5.R.size (fun q hq hp => ⟨S5.R.block q hq (by omega), by have := B3.lt; omega⟩) tk;have uk := kidsB_keep (Q := fun q => w.heap.size < q) (Nat.le_refl _) (fun q hq hp => ⟨rfl, by have := B4.lt; omega⟩) uk;have S5 := (S5.tr S4).tr S3;have kk := B5.cs;have kf := B5.f;have kl := B5.lt;refine gw ?_;exact tx_retA (.mk op 0 0 0 ⟨#[]⟩ 2 (kidL [(t, .slice ta t.cnt tc), (u, .slice ua u.cnt uc)])) S5 B5 (two_kids ⟨by omega, by omega⟩ tk uk (Blk.new _ _ _) ((Rel.refl _).alloc _) B5.lt) (by omega) (smL (L := [(t, .slice ta t.cnt tc), (u, .slice ua u.cnt uc)]) (G := 1) (fun p hp => by simp at hp; rcases hp with rfl | rfl; exact tz; exact uz) op)
theorem s_leaf {b ln ke ec : Nat} {la ea : Option Addr} {A : Int} {w : World} {dim : Int} (h : SX b la ln ea ke w A w) (hA : A <= 2999999999999980000) (hd : I64 dim) :
  Calls prog 109 #[.pointer (some ⟨b, 0, none⟩), .int .i64 dim, .slice ea ke ec] w (MX b la ln ea ke (A + 10) 3 w) := by
 by_cases h1 : dim = 1
 ·subst h1; exact s_leafB h hA
 ·refine (s_leafN h (by omega) hd h1).mono ?_;rintro e w' ⟨t, xa, xc, h1, h2, h3, h4⟩;exact ⟨t, xa, xc, h1, by omega, h3, h4.up (by omega)⟩
structure NdS (b : Nat) (la : Option Addr) (ln : Nat) (ea : Option Addr) (ke : Nat) (op G : Int) (w : World) (A : Int) (L : List (Ex × Value)) (ra : Option Addr) (rc : Nat) (W : World) : Prop where
 S : SX b la ln ea ke w A W
 B : Blk W w.heap.size 59 zX
 E : Blk W (w.heap.size + 1) 59 [.int .i64 op, .int .i64 0, .int .i64 0, .int .i64 0, .string ⟨#[]⟩, .slice ra L.length rc]
 O : W.ownsRow (w.heap.size + 2) 59 6 (.slice ra L.length rc) L.length (celL L)
 T : TxR (w.heap.size + 2) ra G W L
section
variable {b ln ke rc g2 c2 H : Nat} {la ea ra : Option Addr} {op G A B : Int} {w W X Z : World} {L : List (Ex × Value)} {p : Ex × Value}
theorem NdS.go (h : NdS b la ln ea ke op G w A L ra rc W) (k : SX b la ln ea ke W B X) : NdS b la ln ea ke op G w B L ra rc X := by
 have hb := h.S.hb;exact ⟨k.tr h.S, h.B.ro k.R (by omega), h.E.ro k.R (by omega), own_rox h.O k.R (by omega), fun p hp => ⟨(h.T p hp).1.ro k.R (fun q hq => by omega), (h.T p hp).2⟩⟩
theorem NdS.e8 (h : NdS b la ln ea ke op G w A L ra rc W) (grow : W.grownBy Z (Value.slice ra L.length rc).ownBlock) : Blk Z (w.heap.size + 1) 59 [.int .i64 op, .int .i64 0, .int .i64 0, .int .i64 0, .string ⟨#[]⟩, .slice ra L.length rc] := h.E.grown grow (fun e => by have := (h.O.lt _ e.symm).1; omega)
theorem NdS.app (h : NdS b la ln ea ke op G w A L ra rc W) (hp : TxB (fun q => (w.heap.size + 2 <= q /\ True) /\ OffB ra q) W p) (hz : p.1.size <= G) (own : Z.ownsRow (w.heap.size + 2) 59 6 (.slice (some ⟨g2, 0, none⟩) (L.length + 1) c2) (L.length + 1) (celL L ++ cel p)) (grow : W.grownBy Z (Value.slice ra L.length rc).ownBlock) (hat : (Value.slice ra L.length rc).ownBlock = some g2 \/ g2 = H) (hH : W.heap.size <= H) :
  NdS b la ln ea ke op G w A (L ++ [p]) (some ⟨g2, 0, none⟩) c2 (Z.setCell ⟨w.heap.size + 1, 5, none⟩ (.slice (some ⟨g2, 0, none⟩) (L.length + 1) c2)) := by
 have hrow : ∀ q, (Value.slice ra L.length rc).ownBlock = some q -> w.heap.size + 2 <= q := fun q hq => (h.O.lt q hq).1
 have R : Ro (w.heap.size + 1) Z (Z.setCell ⟨w.heap.size + 1, 5, none⟩ (.slice (some ⟨g2, 0, none⟩) (L.length + 1) c2)) := (Ro.refl _ _).set 5 _;have key : ∀ p, TxB (fun q => (w.heap.size + 2 <= q /\ True) /\ OffB ra q) W p -> TxB (fun q => (w.heap.size + 2 <= q /\ True) /\ OffB (some ⟨g2, 0, none⟩) q) _ p := fun p hp => (hp.grown grow hat hH).ro R (fun q hq => by omega)
 refine ⟨(h.S.grown grow (fun q hq => by have := hrow q hq; omega)).put (by omega) _ _, (h.B.grown grow (fun e => by have := hrow _ e.symm; omega)).ro R (by omega), ?_, ?_, fun p' hp' => ?_⟩
 ·rw [List.length_append]; exact (h.e8 grow).set 5 _
 ·rw [celL_snoc, List.length_append]; exact own_set own (by omega) _ _
 ·rcases List.mem_append.1 hp' with e | e
  ·exact ⟨key _ (h.T p' e).1, (h.T p' e).2⟩
  ·simp at e; subst e; exact ⟨key _ hp, hz⟩
end
set_option maxRecDepth 20000 in
theorem s_node {b ln ke ec dg dc M : Nat} {la ea : Option Addr} {A K G op d : Int} {w : World} (h : SX b la ln ea ke w A w) (hM : 1 <= M /\ M <= 3) (ho : I64 op) (hd : 0 <= d /\ d <= 9) (hG : 1 <= G /\ G <= 200000) (hK : 0 <= K /\ K <= 1000000000) (hA : A + 3 * K <= 2999999999999980000) (hdg : dg < w.heap.size) (hdb : dg ≠ b) (hds : ∀ i, i < M -> ∃ z, w.cell? ⟨dg, i, none⟩ = some (.int .i64 z) /\ I64 z)
  (IH : Hid (∀ dim A W, I64 dim -> SX b la ln ea ke W A W -> A + K <= 2999999999999980000 -> Calls prog 108 #[.pointer (some ⟨b, 0, none⟩), .int .i64 dim, .int .i64 (d + 1), .slice ea ke ec] W (MX b la ln ea ke (A + K) G W))) :
  Calls prog 144 #[.pointer (some ⟨b, 0, none⟩), .int .i64 op, .int .i64 d, .slice ea ke ec, .slice (some ⟨dg, 0, none⟩) M dc] w (MX b la ln ea ke (A + 3 * K) (1 + 3 * G) w) := by
 have HD := Hj hds;have d3 : IntKind.i64.wrap (d + 1) = d + 1 := IntWalk.i64_in _ ⟨by omega, by omega⟩;clear hds;go_enter func144, ntmps144;go_wp2_with fail
 go_loopw [12, 13] (fun i rw wx => ∃ (L : List (Ex × Value)) (ra : Option Addr) (rc : Nat) (Ax : Int), L.length <= M /\ i = .int .i64 L.length /\ Ax <= A + L.length * K /\ NdS b la ln ea ke op G w Ax L ra rc wx) (fun i _ _ => M - (intOf i).toNat)
 case atStart =>
  have r := (Rel.refl w).alloc (.cells #[.int .i64 0, .int .i64 0, .int .i64 0, .int .i64 0, .string ⟨#[]⟩, .slice none 0 0] 59);exact ⟨[], none, 0, A, by simp, rfl, by simp, (h.al _).al _, (Blk.new w _ _).alloc _, by have := Blk.new (w.alloc (.cells #[.int .i64 0, .int .i64 0, .int .i64 0, .int .i64 0, .string ⟨#[]⟩, .slice none 0 0] 59)) 59 #[.int .i64 op, .int .i64 0, .int .i64 0, .int .i64 0, .string ⟨#[]⟩, .slice none 0 0]; rwa [World.size_alloc] at this, World.ownsRow_nil _ _ _ _, fun p hp => by cases hp⟩
 case round =>
  obtain ⟨L, ra, rc, Ax, hL, rfl, hAx, N⟩ := hrel;have e5 := N.E.c (j := 5) rfl;have ef := N.E.f 5;have el := N.E.lt;have hb := h.hb;have hr := N.S.R.size;by_cases hlt : L.length < M
  ·obtain ⟨D, cd, hD⟩ := HD.out _ hlt;have cd := N.S.R.cell hdg hdb cd;have lk : (L.length : Int) * K <= 2 * K := Int.mul_le_mul_of_nonneg_right (by omega) hK.1;have lk1 : ((L.length + 1 : Nat) : Int) * K = L.length * K + K := by rw [Int.natCast_add, Int.add_mul]; simp
   go_wp2_with fail;refine (IH.out D Ax _ hD N.S.re (by omega)).mono ?_;unfold MX;rintro e w5 ⟨t, xa, xc, rfl, tz, tk, S5⟩;have N5 := N.go S5;have s5 := S5.R.size;have TB : TxB (fun q => (w.heap.size + 2 <= q /\ True) /\ OffB ra q) w5 (t, .slice xa t.cnt xc) := ⟨kidsB_keep (Nat.le_refl _) (fun q _ hq => ⟨rfl, ⟨by omega, trivial⟩, offB_own N.O hq⟩) tk, by show t.size <= _; omega⟩;have N6 := N5.go (N5.S.re.al (.cells #[.int .i64 t.op, .int .i64 t.va, .int .i64 t.vb, .int .i64 t.dm, .string t.nm, .slice xa t.cnt xc] 59));have TB6 := TB.rel ((Rel.refl w5).alloc (.cells #[.int .i64 t.op, .int .i64 t.va, .int .i64 t.vb, .int .i64 t.dm, .string t.nm, .slice xa t.cnt xc] 59));clear e5 ef cd tk TB N N5;have e5 := N6.E.c (j := 5) rfl
   go_wp2_with (at_builtin; refine wl_app ti_ex N6.O rfl (by omega) (by omega) ?_)
   intro g2 c2 w8 own grow hat;have N8 := N6.app TB6 tz own grow hat (by simp);have E8 := N6.e8 grow;have k0 := E8.c (j := 5) rfl;have k1 := E8.f 5;have k2 := E8.lt;clear own grow hat e5 TB6 E8;go_wp2
   go_roundw
   case rel => exact ⟨L ++ [(t, .slice xa t.cnt xc)], some ⟨g2, 0, none⟩, c2, Ax + K, by rw [List.length_append]; exact hlt, by rw [List.length_append]; go_num, by rw [List.length_append]; show _ <= A + ((L.length + 1 : Nat) : Int) * K; omega, N8⟩
   case measure => simp [intOf]; omega
  ·have hLM : L.length = M := by omega
   have lk : (L.length : Int) * K <= 3 * K := Int.mul_le_mul_of_nonneg_right (by omega) hK.1;have lg : (L.length : Int) * G <= 3 * G := Int.mul_le_mul_of_nonneg_right (by omega) (by omega);subst hLM;obtain ⟨g, cap, hv, hgb, hgl⟩ := World.ownsRow.form N.O (by omega);simp only [Value.slice.injEq] at hv;obtain ⟨rfl, -, rfl⟩ := hv;have ek := N.E.cs;have bk := N.B.cs;have bf := N.B.f;have bl := N.B.lt;have sz := smL (fun p hp => (N.T p hp).2) op;refine gw ?_;exact tx_ret (.mk op 0 0 0 ⟨#[]⟩ L.length (kidL L)) N.S N.B (kids_of ho (by omega) (by omega) N.O N.T (fun q hq => by omega))
def ExOk (b : Nat) (la : Option Addr) (ln : Nat) (ea : Option Addr) (ke ec : Nat) (d K G : Int) : Prop := ∀ dim A W, I64 dim -> SX b la ln ea ke W A W -> A + K <= 2999999999999980000 -> Calls prog 108 #[.pointer (some ⟨b, 0, none⟩), .int .i64 dim, .int .i64 d, .slice ea ke ec] W (MX b la ln ea ke (A + K) G W)
section
variable {b ln ke ec dg n : Nat} {la ea : Option Addr} {A A1 K G F d dim op : Int} {w W1 : World} {Q : Ending -> World -> Prop} {c : Array Value} {l : List Int} {T : TypeId}
theorem x_leaf (S1 : SX b la ln ea ke w A1 W1) (B1 : Blk W1 w.heap.size 59 zX) (hd : I64 dim) (hA : A1 <= 2999999999999980000)
  (h : ∀ (t : Ex) xa xc X, t.size <= 3 -> ExKidsB (fun q => w.heap.size < q) t X (.slice xa t.cnt xc) -> SX b la ln ea ke w (A1 + 10) X -> Blk X w.heap.size 59 zX -> Q (.returned (.agg #[.int .i64 t.op, .int .i64 t.va, .int .i64 t.vb, .int .i64 t.dm, .string t.nm, .slice xa t.cnt xc])) X) :
  Calls prog 109 #[.pointer (some ⟨b, 0, none⟩), .int .i64 dim, .slice ea ke ec] W1 Q := by
 have hb := S1.hb;refine (s_leaf S1.re hA hd).mono ?_;rintro e X ⟨t, xa, xc, rfl, tz, tk, S⟩;exact h t xa xc X tz (kidsB_keep (Nat.le_refl _) (fun q _ hp => ⟨rfl, Nat.lt_of_lt_of_le B1.lt hp⟩) tk) (S.tr S1) (B1.ro S.R (by omega))
theorem x_node (S1 : SX b la ln ea ke w A1 W1) (B1 : Blk W1 w.heap.size 59 zX) (IH : Hid (ExOk b la ln ea ke ec (d + 1) K G)) (hd : 0 <= d /\ d <= 9) (hG : 1 <= G /\ G <= 200000) (hK : 0 <= K /\ K <= 1000000000) (hA : A1 + 3 * K <= 2999999999999980000)
  (h : ∀ (t : Ex) xa xc X, t.size <= 1 + 3 * G -> ExKidsB (fun q => w.heap.size < q) t X (.slice xa t.cnt xc) -> SX b la ln ea ke w (A1 + 3 * K) X -> Blk X w.heap.size 59 zX -> Q (.returned (.agg #[.int .i64 t.op, .int .i64 t.va, .int .i64 t.vb, .int .i64 t.dm, .string t.nm, .slice xa t.cnt xc])) X)
  (ho : I64 op := by first | exact i64c | exact ⟨by omega, by omega⟩) (hc : c.toList = l.map (Value.int .i64) := by rfl) (hl : ∀ z ∈ l, I64 z := by simp only [List.mem_cons, List.not_mem_nil, or_false, forall_eq_or_imp, forall_eq]; (repeat' apply And.intro) <;> first | exact i64c | assumption | omega) (hn : n = l.length := by rfl) (hl3 : 1 <= l.length /\ l.length <= 3 := by simp) (hdg : dg = W1.heap.size := by first | rfl | simp) :
  Calls prog 144 #[.pointer (some ⟨b, 0, none⟩), .int .i64 op, .int .i64 d, .slice ea ke ec, .slice (some ⟨dg, 0, none⟩) n n] (W1.alloc (.cells c T)) Q := by
 subst hn hdg;have hb := S1.hb;have hr := S1.R.size;refine al_c fun Y BY RY hY => ?_
 have S2 := S1.rel RY;have B2 := B1.rel RY;rw [hc] at BY;refine (s_node S2.re hl3 ho hd hG hK hA BY.lt (by omega) (fun i hi => ⟨l[i], BY.c (by rw [List.getElem?_map, List.getElem?_eq_getElem hi]; rfl), hl _ (List.getElem_mem hi)⟩) IH).mono ?_;rintro e X ⟨t, xa, xc, rfl, tz, tk, S⟩;exact h t xa xc X tz (kidsB_keep (Nat.le_refl _) (fun q _ hp => ⟨rfl, Nat.lt_of_lt_of_le B2.lt hp⟩) tk) (S.tr S2) (B2.ro S.R (by omega))
set_option maxRecDepth 20000 in
theorem s_expr0 (h : SX b la ln ea ke w A w) (hA : A <= 2999999999999980000) (hd : I64 dim) (hq : 6 <= d \/ (d < 6 /\ ∃ z, w.cell? ⟨b, 2, none⟩ = some (.int .i64 z) /\ z <= 0)) :
  Calls prog 108 #[.pointer (some ⟨b, 0, none⟩), .int .i64 dim, .int .i64 d, .slice ea ke ec] w (MX b la ln ea ke (A + 10) 3 w) := by
 have hlt := h.hb
 have e1 : (decide (6 <= d) = true) \/ (decide (6 <= d) = false /\ ∃ z, w.cell? ⟨b, 2, none⟩ = some (.int .i64 z) /\ decide (z <= 0) = true) := by
  rcases hq with h1 | ⟨h1, z, h2, h3⟩
  ·exact .inl (by simp [h1])
  ·exact .inr ⟨by simp; omega, z, h2, by simp [h3]⟩
 rcases e1 with e1 | ⟨e1, z, c2, e2⟩
 all_goals
  go_enter func108, ntmps108;go_wp2_with fail;refine al_c fun X BX RX hX => ?_
  refine x_leaf (h.rel RX) BX hd hA (fun t xa xc Y tz tk S9 B9 => ?_);have kk := B9.cs;have kf := B9.f;have kl := B9.lt;refine gw ?_;exact tx_ret t S9 B9 tk
set_option maxRecDepth 20000 in
theorem s_exprS (IH : Hid (ExOk b la ln ea ke ec (d + 1) K G)) (hd : 1 <= d /\ d <= 5) (hG : 3 <= G /\ G <= 200000) (hK : 0 <= K /\ K <= 1000000000) : ExOk b la ln ea ke ec d (3 * K + 20) (1 + 3 * G) := by
  intro dim A w hdim h hA;obtain ⟨z, c2, f2, hlt, hz, HL⟩ := s_left h;by_cases hz0 : z <= 0
  · refine (s_expr0 h (by omega) hdim (.inr ⟨by omega, z, c2, hz0⟩)).mono ?_;rintro e X ⟨t, xa, xc, h1, h2, h3, h4⟩;exact ⟨t, xa, xc, h1, by omega, h3, h4.up (by omega)⟩
  have e1 : decide (6 <= d) = false := by simp; omega
  have e2 : decide (z <= 0) = false := by simp; omega
  obtain ⟨L, hL⟩ : ∃ L, wrap64 (z - 2) = L := ⟨_, rfl⟩;have S0 := HL L (by rw [<- hL]; unfold wrap64; constructor <;> omega);have hb := h.hb;have hd' : 0 <= d /\ d <= 9 := by omega
  have hm0 := hdim.1;have hm1 := hdim.2;have hG' : 1 <= G /\ G <= 200000 := by omega
  clear HL hz0;go_enter func108, ntmps108;go_wp2_with fail;rw [hL];refine al_c fun X BX RX hX => ?_
  rw [World.size_setCell] at BX;have BX : Blk X w.heap.size 59 zX := BX;have S1 := S0.rel RX;clear hL hz c2 f2 S0 RX e1 e2 hX;refine (s_next S1.re (by omega) (by decide) (by decide)).mono ?_;rintro e w1 ⟨k, rfl, k0, k1, S2⟩;have B1 := BX.ro S2.R (by omega);have S1 := S2.tr S1;clear S2 BX h;have hk : k = 0 \/ k = 1 \/ k = 2 \/ k = 3 \/ k = 4 \/ k = 5 \/ k = 6 \/ k = 7 \/ k = 8 \/ k = 9 \/ k = 10 \/ k = 11 \/ k = 12 \/ k = 13 := by omega
  by_cases h1 : dim = 1
  · subst h1
    rcases hk with rfl | rfl | rfl | rfl | rfl | rfl | rfl | rfl | rfl | rfl | rfl | rfl | rfl | rfl
    all_goals
      go_wp2_with fail
      first
        | refine x_leaf S1 B1 hdim (by omega) (fun t xa xc Y tz tk S9 B9 => ?_)
        | refine x_node (l := [_]) S1 B1 IH hd' hG' hK (by omega) (fun t xa xc Y tz tk S9 B9 => ?_)
        | refine x_node (l := [_, _]) S1 B1 IH hd' hG' hK (by omega) (fun t xa xc Y tz tk S9 B9 => ?_)
        | refine x_node (l := [_, _, _]) S1 B1 IH hd' hG' hK (by omega) (fun t xa xc Y tz tk S9 B9 => ?_)
        | (refine (s_next (k := 3) S1.re (by omega) (by decide) (by decide)).mono ?_
           rintro e w2 ⟨v, rfl, v0, v1, S2⟩;have B1 := B1.ro S2.R (by omega);have S1 := S2.tr S1;obtain ⟨D, hD⟩ : ∃ D, 2 + v = D := ⟨_, rfl⟩;have v3 : IntKind.i64.wrap (2 + v) = D := by rw [<- hD]; exact IntWalk.i64_in _ ⟨by omega, by omega⟩
           have hdD : I64 D := ⟨by omega, by omega⟩;go_wp2_with fail;refine (s_next (k := 6) S1.re (by omega) (by decide) (by decide)).mono ?_;rintro e w3 ⟨y, rfl, y0, y1, S2⟩;have B1 := B1.ro S2.R (by omega);have S1 := S2.tr S1;obtain ⟨op, hop⟩ : ∃ op, 11 + y = op := ⟨_, rfl⟩;have y3 : IntKind.i64.wrap (11 + y) = op := by rw [<- hop]; exact IntWalk.i64_in _ ⟨by omega, by omega⟩
           go_wp2_with fail
           refine x_node (l := [_, _]) S1 B1 IH hd' hG' hK (by omega) (fun t xa xc Y tz tk S9 B9 => ?_))
      have kk := B9.cs;have kf := B9.f;have kl := B9.lt;refine gw ?_;exact tx_ret t S9 B9 tk
  · have e1 : (dim == 1) = false := by simpa using h1
    cases e4 : (dim == 2)
    all_goals
      rcases hk with rfl | rfl | rfl | rfl | rfl | rfl | rfl | rfl | rfl | rfl | rfl | rfl | rfl | rfl
      all_goals
        go_wp2_with fail
        first
          | refine x_leaf S1 B1 hdim (by omega) (fun t xa xc Y tz tk S9 B9 => ?_)
          | refine x_node (l := [_]) S1 B1 IH hd' hG' hK (by omega) (fun t xa xc Y tz tk S9 B9 => ?_)
          | refine x_node (l := [_, _]) S1 B1 IH hd' hG' hK (by omega) (fun t xa xc Y tz tk S9 B9 => ?_)
          | refine x_node (l := [_, _]) (S1.al _) (B1.alloc _) IH hd' hG' hK (by omega) (fun t xa xc Y tz tk S9 B9 => ?_)
          | refine x_node (l := [_, _, _]) S1 B1 IH hd' hG' hK (by omega) (fun t xa xc Y tz tk S9 B9 => ?_)
          | (refine (s_next (k := 3) S1.re (by omega) (by decide) (by decide)).mono ?_
             rintro e w2 ⟨v, rfl, v0, v1, S2⟩;have B1 := B1.ro S2.R (by omega);have S1 := S2.tr S1;obtain ⟨D, hD⟩ : ∃ D, 2 + v = D := ⟨_, rfl⟩;have v3 : IntKind.i64.wrap (2 + v) = D := by rw [<- hD]; exact IntWalk.i64_in _ ⟨by omega, by omega⟩
             have hdD : I64 D := ⟨by omega, by omega⟩;go_wp2_with fail
             refine x_node (l := [_, _]) S1 B1 IH hd' hG' hK (by omega) (fun t xa xc Y tz tk S9 B9 => ?_))
        have kk := B9.cs;have kf := B9.f;have kl := B9.lt;refine gw ?_;exact tx_ret t S9 B9 tk
end
theorem nums_of {w : World} {b n : Nat} {a0 : Option Addr} {cap : Nat} (h : IntsIn w (.slice a0 n cap) n) (hb : w.heap.size <= b) : Nums w b a0 n := by
 obtain ⟨a1, c1, e, hn, hc⟩ := h;obtain ⟨rfl, -, -⟩ := by simpa using e
 refine ⟨hn, fun h0 => ?_⟩;obtain ⟨g, off, zs, rfl, hg, hz⟩ := hc h0;exact ⟨g, off, fun j => zs.getD j 0, rfl, hg, by omega, hz⟩
def ExprX (w : World) (e : Ending) (w' : World) : Prop := ∃ (t : Ex) (xa : Option Addr) (xc : Nat), e = .returned (.agg #[.int .i64 t.op, .int .i64 t.va, .int .i64 t.vb, .int .i64 t.dm, .string t.nm, .slice xa t.cnt xc]) /\ (∀ P : Nat -> Prop, (∀ q, w.heap.size <= q -> P q) -> TxB P w' (t, .slice xa t.cnt xc)) /\ Rel w w'
theorem s_expr1 {b ln ke ec : Nat} {la ea : Option Addr} : ExOk b la ln ea ke ec 1 4850 850 := by
 have h6 : ExOk b la ln ea ke ec 6 10 3 := fun dim A W hd h hA => s_expr0 h (by omega) hd (.inl (by decide))
 have h5 := s_exprS (d := 5) (Hj h6) (by decide) (by decide) (by decide);have h4 := s_exprS (d := 4) (Hj h5) (by decide) (by decide) (by decide);have h3 := s_exprS (d := 3) (Hj h4) (by decide) (by decide) (by decide);have h2 := s_exprS (d := 2) (Hj h3) (by decide) (by decide) (by decide);exact s_exprS (d := 1) (Hj h2) (by decide) (by decide) (by decide)
theorem ex_ret {fn : Func} {a : Act} {tm : Tmp} {w X W : World} {T : TypeId} {l : List Value} {xa : Option Addr} {xc : Nat} (t : Ex) (r : Rel w W) (B : Blk W w.heap.size T l) (hl : l.length = 6) (hz : t.size <= 1000000) (hX : w.heap.size < X.heap.size) (hK : ExKidsB (fun q => X.heap.size <= q) t W (.slice xa t.cnt xc)) (h : fn.results = #[.cell tm 59] := by rfl) (ht : a.tmps.getD tm undef = .pointer (some ⟨w.heap.size, 0, none⟩) := by rfl) (hd : a.defers = [] := by rfl) :
  bodyPost prog fn (ExprX w) .ret a ((((((W.setCell ⟨w.heap.size, 0, none⟩ (.int .i64 t.op)).setCell ⟨w.heap.size, 1, none⟩ (.int .i64 t.va)).setCell ⟨w.heap.size, 2, none⟩ (.int .i64 t.vb)).setCell ⟨w.heap.size, 3, none⟩ (.int .i64 t.dm)).setCell ⟨w.heap.size, 4, none⟩ (.string t.nm)).setCell ⟨w.heap.size, 5, none⟩ (.slice xa t.cnt xc)) := by
 have Q := ((((((Ro.refl w.heap.size W).set 0 (.int .i64 t.op)).set 1 (.int .i64 t.va)).set 2 (.int .i64 t.vb)).set 3 (.int .i64 t.dm)).set 4 (.string t.nm)).set 5 (.slice xa t.cnt xc);exact bodyPost_ret (res6 h ht (six_at _ B hl)) hd ⟨t, xa, xc, rfl, fun P hP => ⟨kidsB_keep Q.size (fun q hq hp => ⟨Q.block q hq (by omega), hP q (by omega)⟩) hK, by show t.size <= _; omega⟩, Ro.rel r Q (Nat.le_refl _)⟩
set_option maxRecDepth 20000 in
theorem s_Expr {v : Value} {n ke ec : Nat} {dim : Int} {ea : Option Addr} {nm : Nat -> ByteArray} {dm : Nat -> Int} (w : World) (hI : IntsIn w v n) (hE : EnvB w (w.heap.size + 1) ke nm dm ea) (hk : ke <= 1000) (hd : I64 dim) : Calls prog 64 #[v, .int .i64 dim, .slice ea ke ec] w (ExprX w) := by
 obtain ⟨ad, cap, rfl, -⟩ := id hI;have HI := Hj (nums_of (b := w.heap.size + 1) hI (by omega));have HE := Hj hE;clear hI hE;go_enter func64, ntmps64;go_wp2_with fail;refine al_c fun X BX RX hX => ?_
 rw [World.size_alloc] at BX hX;have R0 := ((Rel.refl w).alloc (.cells #[.int .i64 0, .int .i64 0, .int .i64 0, .int .i64 0, .string ⟨#[]⟩, .slice none 0 0] 59)).trans RX;have B0 : Blk X w.heap.size 59 zX := (Blk.new w _ _).rel RX;have S0 : SX (w.heap.size + 1) ad n ea ke X 0 X := ⟨⟨cap, 0, 24, ⟨by omega, BX.c (j := 0) rfl, BX.c (j := 1) rfl, BX.c (j := 2) rfl, BX.f 1, BX.f 2, HI.out.ro (Ro.of R0), by decide, by decide, by decide⟩, Int.le_refl _⟩, Ro.refl _ _, by omega, HI.out.ro (Ro.of R0), ⟨nm, dm, HE.out.ro (Ro.of R0)⟩, hk⟩;have hXw : w.heap.size + 1 < X.heap.size := by omega
 clear RX BX hX;refine (s_expr1 dim 0 X hd S0 (by decide)).mono ?_;unfold MX;rintro e w1 ⟨t, xa, xc, rfl, tz, tk, S1⟩;have B1 := B0.ro S1.R (by omega);have R1 := Ro.rel R0 S1.R (by omega);have s1 := S1.R.size;clear B0 S0 R0;go_wp2_with fail;refine al_c fun Y BY RY hY => ?_
 have tkY := kidsB_keep (Q := fun q => X.heap.size <= q) (Below.size RY) (fun q hq hp => ⟨Below.block RY q hq, hp⟩) tk;refine (rValidExpr_any t _ Y (kidsB_to tkY) (by omega)).mono ?_;unfold BRes;generalize t.valid = V;rintro e w2 ⟨rfl, h2⟩;have S2 := (S1.rel RY).rel h2;have B2 := (B1.rel RY).rel h2;have R2 := (R1.trans RY).trans h2;have BY2 := BY.rel h2;have tk2 := kidsB_keep (Q := fun q => X.heap.size <= q) (Below.size h2) (fun q hq hp => ⟨Below.block h2 q hq, hp⟩) tkY;have s2 := R2.size;clear tk tkY BY S1 B1 R1;cases V
 ·obtain ⟨z, c2, f2, hlt, hz, HL⟩ := s_left S2;have S3 := (HL 0 i64c).re;have R3 := R2.setCell (p := ⟨w.heap.size + 1, 2, none⟩) (by simp) (.int .i64 0);have B3 := B2.other (show w.heap.size ≠ w.heap.size + 1 by omega) 2 (.int .i64 0);clear HL BY2 tk2 S2 B2;go_wp2_with fail;refine (s_leaf S3 (by omega) hd).mono ?_;unfold MX;rintro e w4 ⟨t, xa, xc, rfl, tz, tk, S4⟩;have B4 := B3.ro S4.R (by omega);have s3 := RY.size;have s4 := h2.size;have tk4 := kidsB_keep (Q := fun q => X.heap.size <= q) (Nat.le_refl _) (fun q hq hp => ⟨rfl, by simp at hp; omega⟩) tk;have kk := B4.cs;have kf := B4.f;have kl := B4.lt;refine gw ?_;exact ex_ret (X := X) t (Ro.rel R3 S4.R (by omega)) B4 rfl (by omega) (by omega) tk4
 ·have k1 := BY2.cs;have kk := B2.cs;have kf := B2.f;have kl := B2.lt;refine gw ?_;exact ex_ret (X := X) t R2 B2 rfl (by omega) (by omega) tk2
end Go.Proofs.YthmlhheceihcbaaGreatDoor

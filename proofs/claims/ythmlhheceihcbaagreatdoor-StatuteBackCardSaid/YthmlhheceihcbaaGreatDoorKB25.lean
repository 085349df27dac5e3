/- Lemmas, each as it is printed; no conditions but those printed. -/
import Derived.Test.YthmlhheceihcbaaGreatDoorKB11
import Derived.Test.YthmlhheceihcbaaGreatDoorKB23
namespace Go.Proofs.YthmlhheceihcbaaGreatDoor
set_option maxHeartbeats 16000000
open Go.RowKit Cal Str Tok Frac Txt Tree Go.Proofs.Tryz
attribute [local go_sem] calmUpon
set_option linter.unusedVariables false
set_option linter.unusedSimpArgs false
theorem ints_fn {w : World} {v : Value} {n : Nat} (h : IntsIn w v n) : ∃ (a0 : Option Addr) (cap : Nat), v = .slice a0 n cap /\ n <= 17592186044416 /\ (0 < n -> ∃ b off, a0 = some ⟨b, off, none⟩ /\ b < w.heap.size /\ ∃ zs : Nat -> Int, ∀ j, j < n -> w.cell? ⟨b, off + j, none⟩ = some (.int .i64 (zs j)) /\ I64 (zs j)) := by
 obtain ⟨a0, cap, rfl, hn, hc⟩ := h;refine ⟨a0, cap, rfl, hn, fun h0 => ?_⟩;obtain ⟨b, off, zs, e, hb, hz⟩ := hc h0;exact ⟨b, off, e, hb, fun j => zs.getD j 0, hz⟩
theorem str3 (a b c : Int) (W : World) (g : Nat) (h0 : W.cell? ⟨g, 0, none⟩ = some (.int .u8 a)) (h1 : W.cell? ⟨g, 0 + 1, none⟩ = some (.int .u8 b)) (h2 : W.cell? ⟨g, 0 + 2, none⟩ = some (.int .u8 c)) :
  Sem.run prog (convert 96 9 (.slice (some ⟨g, 0, none⟩) 3 3)) W = .ok (.string (strOfNums [a, b, c])) W :=
 run_convert_bytes_arg W 96 5 underlying96 underlying5 g 0 3 3 [a, b, c] rfl (fun i hi => by
  have : i = 0 \/ i = 1 \/ i = 2 := by omega
  rcases this with rfl | rfl | rfl
  ·exact h0
  ·exact h1
  ·exact h2) 9 underlying9
def lnm (k : Nat) : ByteArray := strOfNums [112 + k, 95, 48]
theorem lnm_z {k : Nat} : (lnm k).size <= 1000 := by unfold lnm strOfNums; simp [ByteArray.size]
theorem s_letName (k : Nat) (hk : k < 5) (w : World) : Calls prog 63 #[.int .i64 k] w fun e w' => e = .returned (.string (lnm k)) /\ Rel w w' := by
 have s := fun (c : Int) => str3 c 95 48 (w.alloc (.cells #[.int .u8 c, .int .u8 95, .int .u8 48] 5)) w.heap.size (by simp) (by simp) (by simp)
 have s0 := s 112;have s1 := s 113;have s2 := s 114;have s3 := s 115;have s4 := s 116;clear s
 rcases (show k = 0 \/ k = 1 \/ k = 2 \/ k = 3 \/ k = 4 by omega) with rfl | rfl | rfl | rfl | rfl
 all_goals
  go_enter func63, ntmps63;go_wp2;go_ret;exact ⟨rfl, (Rel.refl _).alloc _⟩
theorem al_q {P : Program} {c : Code} {a : Act} {Q : Exit -> Act -> World -> Prop} {w : World} {v : Array Value} {T : TypeId} (h : ∀ X, Blk X w.heap.size T v.toList -> Rel w X -> X.heap.size = w.heap.size + 1 -> c.wp P Q a X) : c.wp P Q a (w.alloc (.cells v T)) := h _ (Blk.new w T v) ((Rel.refl w).alloc _) (World.size_alloc ..)
theorem al_r {P : Program} {md : Region.Mode} {ops : Array Oper} {Q : Exit -> Act -> World -> Prop} {S : Array Bool -> World -> Prop} {T : Nat -> Bool} {f : Nat} {M L : Array Bool} {a : Act} {w : World} {v : Array Value} {Ty : TypeId} (h : ∀ X, Blk X w.heap.size Ty v.toList -> Rel w X -> X.heap.size = w.heap.size + 1 -> wpAnyR P md ops Q S T f M L a X) : wpAnyR P md ops Q S T f M L a (w.alloc (.cells v Ty)) := h _ (Blk.new w Ty v) ((Rel.refl w).alloc _) (World.size_alloc ..)
theorem ClS.turn {b BO N : Nat} {w0 W Z : World} {m : VerM} {x y z : Int} (h : ClS b w0 W BO N m) (r : Ro BO W Z) (o : Blk Z BO 48 (verC { m with frm := x, mode := y, unit := z })) (hx : I64 x) (hy : I64 y) (hz : I64 z) : ClS b w0 Z BO N { m with frm := x, mode := y, unit := z } := by
 have h1 := h.hb;have h2 := h.lt;have hq : ∀ q, BO < q /\ OffV m q -> q ≠ BO := fun q hq => by omega
 have ro : Ro b w0 Z := ⟨r.os.trans h.ro.os, r.tape.trans h.ro.tape, r.output.trans h.ro.output, Nat.le_trans h.ro.size r.size, fun k hk hb => (r.block k (Nat.lt_of_lt_of_le hk h.ro.size) (by omega)).trans (h.ro.block k hk hb)⟩
 exact ⟨ro, h1, h2, o, own_rox h.c r (by omega), own_rox h.s r (by omega), own_rox h.l r (by omega), own_rox h.g r (by omega), own_rox h.r r (by omega), h.ap, h.n, hx, hy, hz, h.b0, h.b1,
  fun p hp => ⟨(h.b2 p hp).1, (h.b2 p hp).2.ro r hq⟩, fun p hp => ⟨(h.b3 p hp).1, (h.b3 p hp).2.1.ro r hq, (h.b3 p hp).2.2.ro r hq⟩, fun p hp => ⟨(h.b4 p hp).1, (h.b4 p hp).2.ro r hq⟩⟩
theorem offB_ne {ad : Option Addr} {q k c : Nat} (h : OffB ad q) : some q ≠ (Value.slice ad k c).ownBlock := fun e => by
 obtain ⟨a, ha, e2⟩ := own_block e.symm;exact h a ha e2.symm
structure OS (w : World) (r : RawV) (wa : World) (BO N : Nat) (m : VerM) (W : World) : Prop where
 C : ClS (w.heap.size + 1) wa W BO N m
 V : Blk W w.heap.size 72 r.vals
 R : Blk W (w.heap.size + 1) 48 (verC zeroM)
 rel : Rel w W
section
variable {w wa W X Z w8 w9 : World} {r : RawV} {BO N N' i g2 c2 H : Nat} {m m' : VerM} {u : Value} {row : Option Nat}
theorem OS.up (h : OS w r wa BO N m W) : w.heap.size + 2 <= BO := by have := h.C.hb; have := h.C.lt; omega
theorem OS.on (h : OS w r wa BO N m W) (x : Rel W X) : OS w r wa BO N m X := ⟨h.C.on x, h.V.rel x, h.R.rel x, h.rel.trans x⟩
theorem OS.al (h : OS w r wa BO N m W) (o : Obj) : OS w r wa BO N m (W.alloc o) := h.on ((Rel.refl _).alloc _)
theorem OS.ap (h : OS w r wa BO N m W) (hg : W.grownBy w8 row) (hrow : ∀ q, row = some q -> BO + 1 <= q) (x : Rel w8 w9) (C' : ClS (w.heap.size + 1) wa (w9.setCell ⟨BO, i, none⟩ u) BO N' m') : OS w r wa BO N' m' (w9.setCell ⟨BO, i, none⟩ u) := by
 have h1 := h.up;exact ⟨C', ((h.V.grown hg (fun e => by have := hrow _ e.symm; omega)).rel x).other (by omega) i u, ((h.R.grown hg (fun e => by have := hrow _ e.symm; omega)).rel x).other (by omega) i u, ((show Rel w w8 from Below.grown h.rel hg h.rel.size (fun q hq => by have := hrow q hq; have := h.C.o.lt; have := h.rel.size; omega)).trans x).setCell (p := ⟨BO, i, none⟩) (by show _ <= BO; omega) u⟩
theorem OS.new {F M U : Int} (hV : Blk W w.heap.size 72 r.vals) (hR : Blk W (w.heap.size + 1) 48 (verC zeroM)) (x : Rel w wa) (y : Rel wa W) (hb : w.heap.size + 1 < wa.heap.size) (hB : wa.heap.size <= BO) (B : Blk W BO 48 (verC zeroM)) (hF : I64 F) (hM : I64 M) (hU : I64 U) :
  OS w r wa BO 0 { zeroM with frm := F, mode := M, unit := U } ((((((((W.setCell ⟨BO, 0, none⟩ (.int .i64 F)).setCell ⟨BO, 1, none⟩ (.int .i64 M)).setCell ⟨BO, 2, none⟩ (.int .i64 U)).setCell ⟨BO, 3, none⟩ (.slice none 0 0)).setCell ⟨BO, 4, none⟩ (.slice none 0 0)).setCell ⟨BO, 5, none⟩ (.slice none 0 0)).setCell ⟨BO, 6, none⟩ (.slice none 0 0)).setCell ⟨BO, 7, none⟩ (.slice none 0 0)) := by
 have Q := ((((((((Ro.refl BO W).set 0 (.int .i64 F)).set 1 (.int .i64 M)).set 2 (.int .i64 U)).set 3 (.slice none 0 0)).set 4 (.slice none 0 0)).set 5 (.slice none 0 0)).set 6 (.slice none 0 0)).set 7 (.slice none 0 0);exact ⟨(ClS.new (b := w.heap.size + 1) (Ro.of y) hb hB B).turn Q ((((((((B.set 0 _).set 1 _).set 2 _).set 3 _).set 4 _).set 5 _).set 6 _).set 7 _) hF hM hU, hV.ro Q (by omega), hR.ro Q (by omega), Ro.rel (x.trans y) Q (by omega)⟩
end
end Go.Proofs.YthmlhheceihcbaaGreatDoor
namespace Go.Proofs.YthmlhheceihcbaaGreatDoor
set_option maxHeartbeats 16000000
open Go.RowKit Cal Str Tok Frac Txt Tree Go.Proofs.Tryz
set_option linter.unusedVariables false
set_option linter.unusedSimpArgs false
theorem kidsB_and {P Q : Nat -> Prop} {w : World} {t : Ex} : ∀ {x : Value}, ExKidsB P t w x -> ExKidsB Q t w x -> ExKidsB (fun q => P q /\ Q q) t w x := by
 induction t with
 | no => intro x h; exact h.elim
 | mk op a b d s n kid ih =>
  intro x h k;obtain ⟨h1, h2, ad, cap, rfl, h3⟩ := h;obtain ⟨-, -, ad', cap', e, k3⟩ := k;simp only [Value.slice.injEq] at e;obtain ⟨rfl, -, -⟩ := e;refine ⟨h1, h2, ad, cap, rfl, fun h0 => ?_⟩;obtain ⟨g, off, rfl, hg, hp, hc⟩ := h3 h0;obtain ⟨g', off', e, -, kp, kc⟩ := k3 h0;simp only [Option.some.injEq, Addr.mk.injEq] at e;obtain ⟨rfl, rfl, -⟩ := e;refine ⟨g, off, rfl, hg, ⟨hp, kp⟩, fun i hi => ?_⟩;obtain ⟨xi, h6, hx⟩ := hc i hi;obtain ⟨xj, k6, kx⟩ := kc i hi;have e : xi = xj := by have := h6.c5.symm.trans k6.c5; simpa using this
  subst e;exact ⟨xi, h6, ih i hx kx⟩
theorem TxB.and {P Q : Nat -> Prop} {w : World} {p : Ex × Value} (h : TxB P w p) (k : TxB Q w p) : TxB (fun q => P q /\ Q q) w p := ⟨kidsB_and h.1 k.1, h.2⟩
theorem apart_sy {x y : Option Addr} (h : Apart x y) : Apart y x := fun a b ha hb e => h b a hb ha e.symm
theorem ti_bd : tz prog 121 = some (some (.agg #[.string ByteArray.empty, .int .i64 0]), 2, 24) := by kernel_rfl
theorem st6_q {P : Program} {c : Code} {a : Act} {Q : Exit -> Act -> World -> Prop} {w W : World} {T : TypeId} {l : List Value} {g i : Nat} {u0 u1 u2 u3 u4 u5 : Value} (B : Blk W g T l) (r : Rel w W) (hg : w.heap.size <= g)
  (h : ∀ X, Blk X g T ((((((l.set i u0).set (i + 1) u1).set (i + 2) u2).set (i + 3) u3).set (i + 4) u4).set (i + 5) u5) -> Rel w X -> Ro g W X -> c.wp P Q a X) : c.wp P Q a ((((((W.setCell ⟨g, i, none⟩ u0).setCell ⟨g, i + 1, none⟩ u1).setCell ⟨g, i + 2, none⟩ u2).setCell ⟨g, i + 3, none⟩ u3).setCell ⟨g, i + 4, none⟩ u4).setCell ⟨g, i + 5, none⟩ u5) :=
 h _ ((((((B.set _ _).set _ _).set _ _).set _ _).set _ _).set _ _) ((((((r.setCell (p := ⟨g, i, none⟩) hg _).setCell (p := ⟨g, i + 1, none⟩) hg _).setCell (p := ⟨g, i + 2, none⟩) hg _).setCell (p := ⟨g, i + 3, none⟩) hg _).setCell (p := ⟨g, i + 4, none⟩) hg _).setCell (p := ⟨g, i + 5, none⟩) hg _) (Ro.p6 i)
structure EnvS (BO : Nat) (m : VerM) (L : List (ByteArray × Int)) (ea : Option Addr) (ec : Nat) (W : World) : Prop where
 O : W.ownsRow (BO + 1) 121 2 (.slice ea L.length ec) L.length (bndL L)
 ok : ∀ p ∈ L, BndOk p
 ap : ∀ i, i < 5 -> Apart (adr m i) ea
def LeO (ea : Option Addr) (m : VerM) (W : World) : Prop := ∀ p ∈ m.le, TxB (fun q => OffB ea q) W p.2
section
variable {w wa w0 W X w8 w9 : World} {r : RawV} {b BO N i g2 c2 H ec k rc : Nat} {m m' : VerM} {u : Value} {ea ra : Option Addr} {L : List (ByteArray × Int)} {p : ByteArray × Int} {x : ByteArray × (Ex × Value)}
theorem EnvS.on (h : EnvS BO m L ea ec W) (x : Rel W X) : EnvS BO m L ea ec X := ⟨own_rel' h.O x, h.ok, h.ap⟩
theorem EnvS.row (h : EnvS BO m L ea ec W) (a : Nat) (hg : W.grownBy w8 (Value.slice ra k rc).ownBlock) (hat : (Value.slice ra k rc).ownBlock = some g2 \/ g2 = H) (hH : W.heap.size <= H) (x : Rel w8 w9) (hra : adr m a = ra := by rfl) (h1 : adr m' a = some ⟨g2, 0, none⟩ := by rfl) (h2 : ∀ i, i < 5 -> i ≠ a -> adr m' i = adr m i := by intro i hi hne; rcases (show i = 0 \/ i = 1 \/ i = 2 \/ i = 3 \/ i = 4 by omega) with rfl | rfl | rfl | rfl | rfl <;> first | rfl | exact absurd rfl hne) (ha : a < 5 := by decide) : EnvS BO m' L ea ec (w9.setCell ⟨BO, i, none⟩ u) := by
 subst hra;refine ⟨own_app h.O (h.ap a ha) hg x (by omega) i u, h.ok, fun j hj => ?_⟩;by_cases e : j = a
 ·subst e; rw [h1]; exact apart_new (h.ap j hj) hat (fun b hb => Nat.lt_of_lt_of_le (own_lt h.O b hb).2 hH)
 ·rw [h2 j hj e]; exact h.ap j hj
theorem EnvS.env (h : EnvS BO m L ea ec W) (hl : L.length <= 1000) : EnvB W (W.heap.size + 1) L.length (nmO L) (dmO L) ea := ⟨by omega, fun h0 => by
 obtain ⟨g, off, e, hg, hc⟩ := own_env h.O rfl h.ok h0
 exact ⟨g, off, e, hg, by omega, hc⟩⟩
theorem EnvS.push (e : EnvS BO m L ea ec W) (C : ClS b w0 W BO N m) (hp : BndOk p) (own : w8.ownsRow (BO + 1) 121 2 (.slice (some ⟨g2, 0, none⟩) (L.length + 1) c2) (L.length + 1) (bndL L ++ [.string p.1, .int .i64 p.2])) (hat : (Value.slice ea L.length ec).ownBlock = some g2 \/ g2 = H) (hH : W.heap.size <= H) : EnvS BO m (L ++ [p]) (some ⟨g2, 0, none⟩) c2 w8 :=
 ⟨by rw [bndL_snoc, List.length_append]; exact own, fun x hx => by rcases List.mem_append.1 hx with e1 | e1; exact e.ok x e1; simp at e1; subst e1; exact hp, fun i hi => apart_sy (apart_new (apart_sy (e.ap i hi)) hat (fun b hb => Nat.lt_of_lt_of_le (C.adr_lt i b hb).2 hH))⟩
theorem LeO.push (h : LeO ea m W) (grow : W.grownBy w8 (Value.slice ea k rc).ownBlock) (hat : (Value.slice ea k rc).ownBlock = some g2 \/ g2 = H) (hH : W.heap.size <= H) : LeO (some ⟨g2, 0, none⟩) m w8 := fun p hp => (h p hp).keep grow.size (fun q hq ho => ⟨offB_grown grow hq ho, offB_next hat (by omega) ho⟩)
theorem LeO.app (h : LeO ea m W) (C : ClS b w0 W BO N m) (hx : TxB (fun q => OffB ea q /\ (BO < q /\ OffV m q)) W x.2) (grow : W.grownBy w8 (Value.slice m.la m.le.length m.lc).ownBlock) (y : Rel w8 w9) {la' : Option Addr} {lc' : Nat} : LeO ea { m with le := m.le ++ [x], la := la', lc := lc' } (w9.setCell ⟨BO, i, none⟩ u) := by
 have key : ∀ p, TxB (fun q => OffB ea q /\ (BO < q /\ OffV m q)) W p -> TxB (fun q => OffB ea q) (w9.setCell ⟨BO, i, none⟩ u) p := fun p hp =>
  (((hp.keep grow.size (fun q hq ho => ⟨offB_grown grow hq (ho.2.2 2 (by decide)), ho⟩)).rel y).other (fun q hq => by omega) i u).mono (fun q hq => hq.1)
 intro p hp
 rcases List.mem_append.1 hp with e | e
 ·exact key _ ((h p e).and (C.b2 p e).2)
 ·simp at e; subst e; exact key _ hx
theorem OS.envG (h : OS w r wa BO N m W) (e : EnvS BO m L ea ec W) (t : LeO ea m W) (hgr : m.gr = []) (hre : m.re = []) (grow : W.grownBy w8 (Value.slice ea L.length ec).ownBlock) : OS w r wa BO N m w8 := by
 have hrow : ∀ q, (Value.slice ea L.length ec).ownBlock = some q -> BO + 1 <= q := fun q hq => (e.O.lt q hq).1
 have h1 := h.up;have C := h.C;have h2 := C.lt;have ap : ∀ i, i < 5 -> Apart ea (adr m i) := fun i hi => apart_sy (e.ap i hi)
 refine ⟨⟨Ro.grown C.ro grow (fun q hq => by have := hrow q hq; omega), C.hb, C.lt, C.o.grown grow (fun e => by have := hrow _ e.symm; omega), own_grown C.c grow (apart_row (ap 0 (by decide))), own_grown C.s grow (apart_row (ap 1 (by decide))), own_grown C.l grow (apart_row (ap 2 (by decide))), own_grown C.g grow (apart_row (ap 3 (by decide))), own_grown C.r grow (apart_row (ap 4 (by decide))), C.ap, C.n, C.i0, C.i1, C.i2, C.b0, C.b1,
  fun p hp => ⟨(C.b2 p hp).1, ((C.b2 p hp).2.and (t p hp)).keep grow.size (fun q hq ho => ⟨offB_grown grow hq ho.2, ho.1⟩)⟩, fun p hp => (by rw [hgr] at hp; cases hp), fun p hp => (by rw [hre] at hp; cases hp)⟩, h.V.grown grow (fun e => by have := hrow _ e.symm; omega), h.R.grown grow (fun e => by have := hrow _ e.symm; omega), Below.grown h.rel grow h.rel.size (fun q hq => by have := hrow q hq; have := h.C.o.lt; have := h.rel.size; omega)⟩
end
end Go.Proofs.YthmlhheceihcbaaGreatDoor
namespace Go.Proofs.YthmlhheceihcbaaGreatDoor
set_option maxHeartbeats 16000000
open Go.RowKit Cal Str Tok Frac Txt Tree Go.Proofs.Tryz
attribute [local go_sem] calmUpon
set_option linter.unusedVariables false
set_option linter.unusedSimpArgs false
theorem own_apx {W Z : World} {g base d n ec : Nat} {T : TypeId} {ea : Option Addr} {vs : List Value} (h : W.ownsRow base T d (.slice ea n ec) n vs) (r : Ro g W Z) (hA : Apart (some ⟨g, 0, none⟩) ea) : Z.ownsRow base T d (.slice ea n ec) n vs := own_grown h r.grownBy (apart_row (k := 0) (rc := 0) hA)
section
variable {w wa w0 W Z : World} {r : RawV} {b BO N g : Nat} {m m' : VerM}
theorem OS.in (h : OS w r wa BO N m W) (q : Ro g W Z) (hg : BO + 1 <= g) (C : ClS (w.heap.size + 1) wa Z BO N m') : OS w r wa BO N m' Z := by
 have h1 := h.up;exact ⟨C, h.V.ro q (by omega), h.R.ro q (by omega), Ro.rel h.rel q (by omega)⟩
theorem ClS.ro' (h : ClS b w0 W BO N m) (q : Ro g W Z) (hg : BO + 1 <= g) : Ro b w0 Z := by
 have h2 := h.lt;exact ⟨q.os.trans h.ro.os, q.tape.trans h.ro.tape, q.output.trans h.ro.output, Nat.le_trans h.ro.size q.size, fun k hk hb => (q.block k (Nat.lt_of_lt_of_le hk h.ro.size) (by omega)).trans (h.ro.block k hk hb)⟩
theorem ClS.inC (h : ClS b w0 W BO N m) (q : Ro g W Z) (e : m.ca = some ⟨g, 0, none⟩) {L : List (Int × Int)} (hl : L.length = m.cr.length) (own : Z.ownsRow (BO + 1) 51 2 (.slice (some ⟨g, 0, none⟩) m.cr.length m.cc) m.cr.length (L.flatMap crC)) (hb : ∀ p ∈ L, I64 p.1 /\ I64 p.2) : ClS b w0 Z BO N { m with cr := L } := by
 have hg : BO + 1 <= g := (own.lt g rfl).1;have n := h.n;have ap : ∀ j, j < 5 -> 0 ≠ j -> Apart (some ⟨g, 0, none⟩) (adr m j) := fun j hj hne => e ▸ h.ap 0 j (by decide) hj hne
 have off : ∀ k, BO < k /\ OffV m k -> k ≠ g := fun k hk => hk.2 0 (by decide) _ e
 have own' : Z.ownsRow (BO + 1) 51 2 (.slice m.ca L.length m.cc) L.length (L.flatMap crC) := by rw [hl, e]; exact own
 exact ⟨h.ro' q hg, h.hb, h.lt, by unfold verC; dsimp only; rw [hl]; exact h.o.ro q (by omega), own', own_apx h.s q (ap 1 (by decide) (by decide)), own_apx h.l q (ap 2 (by decide) (by decide)), own_apx h.g q (ap 3 (by decide) (by decide)), own_apx h.r q (ap 4 (by decide) (by decide)), h.ap, by dsimp only; omega, h.i0, h.i1, h.i2, hb, h.b1, fun p hp => ⟨(h.b2 p hp).1, (h.b2 p hp).2.ro q off⟩, fun p hp => ⟨(h.b3 p hp).1, (h.b3 p hp).2.1.ro q off, (h.b3 p hp).2.2.ro q off⟩, fun p hp => ⟨(h.b4 p hp).1, (h.b4 p hp).2.ro q off⟩⟩
theorem ClS.inS (h : ClS b w0 W BO N m) (q : Ro g W Z) (e : m.sa = some ⟨g, 0, none⟩) {L : List (Int × Int × Int)} (hl : L.length = m.se.length) (own : Z.ownsRow (BO + 1) 56 3 (.slice (some ⟨g, 0, none⟩) m.se.length m.sc) m.se.length (L.flatMap seC)) (hb : ∀ p ∈ L, I64 p.1 /\ I64 p.2.1 /\ I64 p.2.2) : ClS b w0 Z BO N { m with se := L } := by
 have hg : BO + 1 <= g := (own.lt g rfl).1;have n := h.n;have ap : ∀ j, j < 5 -> 1 ≠ j -> Apart (some ⟨g, 0, none⟩) (adr m j) := fun j hj hne => e ▸ h.ap 1 j (by decide) hj hne
 have off : ∀ k, BO < k /\ OffV m k -> k ≠ g := fun k hk => hk.2 1 (by decide) _ e
 have own' : Z.ownsRow (BO + 1) 56 3 (.slice m.sa L.length m.sc) L.length (L.flatMap seC) := by rw [hl, e]; exact own
 exact ⟨h.ro' q hg, h.hb, h.lt, by unfold verC; dsimp only; rw [hl]; exact h.o.ro q (by omega), own_apx h.c q (ap 0 (by decide) (by decide)), own', own_apx h.l q (ap 2 (by decide) (by decide)), own_apx h.g q (ap 3 (by decide) (by decide)), own_apx h.r q (ap 4 (by decide) (by decide)), h.ap, by dsimp only; omega, h.i0, h.i1, h.i2, h.b0, hb, fun p hp => ⟨(h.b2 p hp).1, (h.b2 p hp).2.ro q off⟩, fun p hp => ⟨(h.b3 p hp).1, (h.b3 p hp).2.1.ro q off, (h.b3 p hp).2.2.ro q off⟩, fun p hp => ⟨(h.b4 p hp).1, (h.b4 p hp).2.ro q off⟩⟩
theorem ClS.inL (h : ClS b w0 W BO N m) (q : Ro g W Z) (e : m.la = some ⟨g, 0, none⟩) {L : List (ByteArray × (Ex × Value))} (hl : L.length = m.le.length) (own : Z.ownsRow (BO + 1) 61 7 (.slice (some ⟨g, 0, none⟩) m.le.length m.lc) m.le.length (L.flatMap leC)) (hb : ∀ p ∈ L, LeB (fun q => BO < q /\ OffV m q) W p) : ClS b w0 Z BO N { m with le := L } := by
 have hg : BO + 1 <= g := (own.lt g rfl).1;have n := h.n;have ap : ∀ j, j < 5 -> 2 ≠ j -> Apart (some ⟨g, 0, none⟩) (adr m j) := fun j hj hne => e ▸ h.ap 2 j (by decide) hj hne
 have off : ∀ k, BO < k /\ OffV m k -> k ≠ g := fun k hk => hk.2 2 (by decide) _ e
 have own' : Z.ownsRow (BO + 1) 61 7 (.slice m.la L.length m.lc) L.length (L.flatMap leC) := by rw [hl, e]; exact own
 exact ⟨h.ro' q hg, h.hb, h.lt, by unfold verC; dsimp only; rw [hl]; exact h.o.ro q (by omega), own_apx h.c q (ap 0 (by decide) (by decide)), own_apx h.s q (ap 1 (by decide) (by decide)), own', own_apx h.g q (ap 3 (by decide) (by decide)), own_apx h.r q (ap 4 (by decide) (by decide)), h.ap, by dsimp only; omega, h.i0, h.i1, h.i2, h.b0, h.b1, fun p hp => ⟨(hb p hp).1, (hb p hp).2.ro q off⟩, fun p hp => ⟨(h.b3 p hp).1, (h.b3 p hp).2.1.ro q off, (h.b3 p hp).2.2.ro q off⟩, fun p hp => ⟨(h.b4 p hp).1, (h.b4 p hp).2.ro q off⟩⟩
theorem ClS.inG (h : ClS b w0 W BO N m) (q : Ro g W Z) (e : m.ga = some ⟨g, 0, none⟩) {L : List (Int × (Ex × Value) × (Ex × Value))} (hl : L.length = m.gr.length) (own : Z.ownsRow (BO + 1) 64 13 (.slice (some ⟨g, 0, none⟩) m.gr.length m.gc) m.gr.length (L.flatMap grC)) (hb : ∀ p ∈ L, GrB (fun q => BO < q /\ OffV m q) W p) : ClS b w0 Z BO N { m with gr := L } := by
 have hg : BO + 1 <= g := (own.lt g rfl).1;have n := h.n;have ap : ∀ j, j < 5 -> 3 ≠ j -> Apart (some ⟨g, 0, none⟩) (adr m j) := fun j hj hne => e ▸ h.ap 3 j (by decide) hj hne
 have off : ∀ k, BO < k /\ OffV m k -> k ≠ g := fun k hk => hk.2 3 (by decide) _ e
 have own' : Z.ownsRow (BO + 1) 64 13 (.slice m.ga L.length m.gc) L.length (L.flatMap grC) := by rw [hl, e]; exact own
 exact ⟨h.ro' q hg, h.hb, h.lt, by unfold verC; dsimp only; rw [hl]; exact h.o.ro q (by omega), own_apx h.c q (ap 0 (by decide) (by decide)), own_apx h.s q (ap 1 (by decide) (by decide)), own_apx h.l q (ap 2 (by decide) (by decide)), own', own_apx h.r q (ap 4 (by decide) (by decide)), h.ap, by dsimp only; omega, h.i0, h.i1, h.i2, h.b0, h.b1, fun p hp => ⟨(h.b2 p hp).1, (h.b2 p hp).2.ro q off⟩, fun p hp => ⟨(hb p hp).1, (hb p hp).2.1.ro q off, (hb p hp).2.2.ro q off⟩, fun p hp => ⟨(h.b4 p hp).1, (h.b4 p hp).2.ro q off⟩⟩
end
def TwX (w : World) (r : RawV) (wa : World) (BO N : Nat) (e : Ending) (W : World) : Prop := (∃ v, e = .returned v) /\ ∃ m', OS w r wa BO N m' W
set_option maxRecDepth 20000 in
theorem s_tw0 {w wa W : World} {r : RawV} {BO N : Nat} {m : VerM} (h : OS w r wa BO N m W) : Calls prog 65 #[.pointer (some ⟨BO, 0, none⟩), .int .i64 0] W (TwX w r wa BO N) := by
 unfold TwX;obtain ⟨frm, mode, unit, cr, se, le, gr, re, ca, sa, la, ga, ra, cc, sc, lc, gc, rc⟩ := m;have o := h.C.o.c (j := 6) rfl;have ol := h.C.o.lt
 rcases gr with _ | ⟨p, t⟩
 ·go_enter func65, ntmps65;go_wp2;exact Go.Great.bodyPost_end0 rfl rfl ⟨⟨_, rfl⟩, _, h⟩
 ·obtain ⟨g, cap, hv, hgb, hgl⟩ := World.ownsRow.form h.C.g (by simp);simp only [Value.slice.injEq] at hv;obtain ⟨rfl, -, rfl⟩ := hv;have hp := h.C.b3 p (by simp);obtain ⟨pb, ⟨pt, px⟩, pu⟩ := p;obtain ⟨xa, xc, hx⟩ := kids_slice (kidsB_to hp.2.1.1);dsimp only at hx;subst hx;have x1 : W.cell? ⟨g, 1, none⟩ = some (.int .i64 pt.op) := h.C.g.cellAt 1 (by first | (simp; done) | (simp; omega));have x2 : W.cell? ⟨g, 2, none⟩ = some (.int .i64 pt.va) := h.C.g.cellAt 2 (by first | (simp; done) | (simp; omega));have x3 : W.cell? ⟨g, 3, none⟩ = some (.int .i64 pt.vb) := h.C.g.cellAt 3 (by first | (simp; done) | (simp; omega));have x4 : W.cell? ⟨g, 4, none⟩ = some (.int .i64 pt.dm) := h.C.g.cellAt 4 (by first | (simp; done) | (simp; omega));have x5 : W.cell? ⟨g, 5, none⟩ = some (.string pt.nm) := h.C.g.cellAt 5 (by first | (simp; done) | (simp; omega));have x6 : W.cell? ⟨g, 6, none⟩ = some (.slice xa pt.cnt xc) := h.C.g.cellAt 6 (by first | (simp; done) | (simp; omega));go_enter func65, ntmps65;go_wp2_with fail;refine wrp 13 1 13 (fun w0 h0 => ?_);refine ao 13 (fun w1 h1 K' hK' => ?_);have S1 := h.on (h0.trans h1);have y7 : ∃ u, w1.cell? ⟨g, 7, none⟩ = some u := ⟨_, S1.C.g.cellAt 7 (by first | (simp; done) | (simp; omega))⟩;obtain ⟨u7, y7⟩ := y7;have z7 := S1.C.g.frozenAt 7;have y8 : ∃ u, w1.cell? ⟨g, 8, none⟩ = some u := ⟨_, S1.C.g.cellAt 8 (by first | (simp; done) | (simp; omega))⟩;obtain ⟨u8, y8⟩ := y8;have z8 := S1.C.g.frozenAt 8;have y9 : ∃ u, w1.cell? ⟨g, 9, none⟩ = some u := ⟨_, S1.C.g.cellAt 9 (by first | (simp; done) | (simp; omega))⟩;obtain ⟨u9, y9⟩ := y9;have z9 := S1.C.g.frozenAt 9;have y10 : ∃ u, w1.cell? ⟨g, 10, none⟩ = some u := ⟨_, S1.C.g.cellAt 10 (by first | (simp; done) | (simp; omega))⟩;obtain ⟨u10, y10⟩ := y10;have z10 := S1.C.g.frozenAt 10;have y11 : ∃ u, w1.cell? ⟨g, 11, none⟩ = some u := ⟨_, S1.C.g.cellAt 11 (by first | (simp; done) | (simp; omega))⟩;obtain ⟨u11, y11⟩ := y11;have z11 := S1.C.g.frozenAt 11;have y12 : ∃ u, w1.cell? ⟨g, 12, none⟩ = some u := ⟨_, S1.C.g.cellAt 12 (by first | (simp; done) | (simp; omega))⟩;obtain ⟨u12, y12⟩ := y12;have z12 := S1.C.g.frozenAt 12;have gl := (S1.C.g.lt g rfl).2;go_simp;refine hK'.out _ _ mkd ?_;clear hK' K';refine ae (fun Z h2 => ?_);(try simp only [Act.put, zlaK, zlbK, zlcK]);go_wp2;have hp' := S1.C.b3 (pb, (pt, .slice xa pt.cnt xc), pu) (by simp)
  have C := S1.C.inG (g := g) (L := (pb, (pt, .slice xa pt.cnt xc), (pt, .slice xa pt.cnt xc)) :: t) (((((((Ro.refl g w1).set 7 (.int .i64 pt.op)).set 8 (.int .i64 pt.va)).set 9 (.int .i64 pt.vb)).set 10 (.int .i64 pt.dm)).set 11 (.string pt.nm)).set 12 (.slice xa pt.cnt xc)) rfl rfl ((((((S1.C.g.stored 7 (.int .i64 pt.op)).1.stored 8 (.int .i64 pt.va)).1.stored 9 (.int .i64 pt.vb)).1.stored 10 (.int .i64 pt.dm)).1.stored 11 (.string pt.nm)).1.stored 12 (.slice xa pt.cnt xc)).1 (fun x hx => by
   rcases List.mem_cons.1 hx with rfl | hx
   ·exact ⟨hp'.1, hp'.2.1, hp'.2.1⟩
   ·exact S1.C.b3 x (by simp [hx]))
  exact Go.Great.bodyPost_end0 rfl rfl ⟨⟨_, rfl⟩, _, (S1.in (((((((Ro.refl g w1).set 7 (.int .i64 pt.op)).set 8 (.int .i64 pt.va)).set 9 (.int .i64 pt.vb)).set 10 (.int .i64 pt.dm)).set 11 (.string pt.nm)).set 12 (.slice xa pt.cnt xc)) hgb C).on h2⟩
set_option maxRecDepth 20000 in
theorem s_tw1 {w wa W : World} {r : RawV} {BO N : Nat} {m : VerM} (h : OS w r wa BO N m W) : Calls prog 65 #[.pointer (some ⟨BO, 0, none⟩), .int .i64 1] W (TwX w r wa BO N) := by
 unfold TwX;obtain ⟨frm, mode, unit, cr, se, le, gr, re, ca, sa, la, ga, ra, cc, sc, lc, gc, rc⟩ := m;have o := h.C.o.c (j := 6) rfl;have ol := h.C.o.lt
 rcases gr with _ | ⟨p, _ | ⟨q, t⟩⟩
 ·go_enter func65, ntmps65;go_wp2;exact Go.Great.bodyPost_end0 rfl rfl ⟨⟨_, rfl⟩, _, h⟩
 ·go_enter func65, ntmps65;go_wp2;exact Go.Great.bodyPost_end0 rfl rfl ⟨⟨_, rfl⟩, _, h⟩
 ·obtain ⟨g, cap, hv, hgb, hgl⟩ := World.ownsRow.form h.C.g (by simp);simp only [Value.slice.injEq] at hv;obtain ⟨rfl, -, rfl⟩ := hv;have hp := h.C.b3 p (by simp);have hq := h.C.b3 q (by simp);have i0 : (1 : Int) < (t.length : Int) + 1 + 1 := by omega
  have i2 : (0 : Int) < (t.length : Int) + 1 + 1 := by omega
  have i1 : 1 < t.length + 1 + 1 := by omega
  have x0 : W.cell? ⟨g, 0, none⟩ = some (.int .i64 p.1) := h.C.g.cellAt 0 (by first | (simp; done) | (simp; omega));go_enter func65, ntmps65;go_wp2_with fail;refine wrp 13 1 13 (fun w0 h0 => ?_);refine ao 13 (fun w1 h1 K' hK' => ?_);have S1 := h.on (h0.trans h1);have y13 : ∃ u, w1.cell? ⟨g, 13, none⟩ = some u := ⟨_, S1.C.g.cellAt 13 (by first | (simp; done) | (simp; omega))⟩;obtain ⟨u13, y13⟩ := y13;have z13 := S1.C.g.frozenAt 13;have gl := (S1.C.g.lt g rfl).2;go_simp;refine hK'.out _ _ mkd ?_;clear hK' K';refine ae (fun Z h2 => ?_);(try simp only [Act.put, zlaK, zlbK, zlcK]);go_wp2;have hp' := S1.C.b3 p (by simp);have hq' := S1.C.b3 q (by simp)
  have C := S1.C.inG (g := g) (L := p :: (p.1, q.2.1, q.2.2) :: t) ((Ro.refl g w1).set 13 (.int .i64 p.1)) rfl rfl (S1.C.g.stored 13 (.int .i64 p.1)).1 (fun x hx => by
   rcases List.mem_cons.1 hx with rfl | hx
   ·exact hp'
   ·rcases List.mem_cons.1 hx with rfl | hx
    ·exact ⟨hp'.1, hq'.2.1, hq'.2.2⟩
    ·exact S1.C.b3 x (by simp [hx]))
  exact Go.Great.bodyPost_end0 rfl rfl ⟨⟨_, rfl⟩, _, (S1.in ((Ro.refl g w1).set 13 (.int .i64 p.1)) hgb C).on h2⟩
set_option maxRecDepth 20000 in
theorem s_tw2 {w wa W : World} {r : RawV} {BO N : Nat} {m : VerM} (h : OS w r wa BO N m W) : Calls prog 65 #[.pointer (some ⟨BO, 0, none⟩), .int .i64 2] W (TwX w r wa BO N) := by
 unfold TwX;obtain ⟨frm, mode, unit, cr, se, le, gr, re, ca, sa, la, ga, ra, cc, sc, lc, gc, rc⟩ := m;have o := h.C.o.c (j := 5) rfl;have ol := h.C.o.lt
 rcases le with _ | ⟨p, _ | ⟨q, t⟩⟩
 ·go_enter func65, ntmps65;go_wp2;exact Go.Great.bodyPost_end0 rfl rfl ⟨⟨_, rfl⟩, _, h⟩
 ·go_enter func65, ntmps65;go_wp2;exact Go.Great.bodyPost_end0 rfl rfl ⟨⟨_, rfl⟩, _, h⟩
 ·obtain ⟨g, cap, hv, hgb, hgl⟩ := World.ownsRow.form h.C.l (by simp);simp only [Value.slice.injEq] at hv;obtain ⟨rfl, -, rfl⟩ := hv;have hp := h.C.b2 p (by simp);have hq := h.C.b2 q (by simp);have i0 : (1 : Int) < (t.length : Int) + 1 + 1 := by omega
  have i2 : (0 : Int) < (t.length : Int) + 1 + 1 := by omega
  have i1 : 1 < t.length + 1 + 1 := by omega
  have x0 : W.cell? ⟨g, 0, none⟩ = some (.string p.1) := h.C.l.cellAt 0 (by first | (simp; done) | (simp; omega));go_enter func65, ntmps65;go_wp2_with fail;refine wrp 13 1 13 (fun w0 h0 => ?_);refine ao 13 (fun w1 h1 K' hK' => ?_);have S1 := h.on (h0.trans h1);have y7 : ∃ u, w1.cell? ⟨g, 7, none⟩ = some u := ⟨_, S1.C.l.cellAt 7 (by first | (simp; done) | (simp; omega))⟩;obtain ⟨u7, y7⟩ := y7;have z7 := S1.C.l.frozenAt 7;have gl := (S1.C.l.lt g rfl).2;go_simp;refine hK'.out _ _ mkd ?_;clear hK' K';refine ae (fun Z h2 => ?_);(try simp only [Act.put, zlaK, zlbK, zlcK]);go_wp2;have hp' := S1.C.b2 p (by simp);have hq' := S1.C.b2 q (by simp)
  have C := S1.C.inL (g := g) (L := p :: (p.1, q.2) :: t) ((Ro.refl g w1).set 7 (.string p.1)) rfl rfl (S1.C.l.stored 7 (.string p.1)).1 (fun x hx => by
   rcases List.mem_cons.1 hx with rfl | hx
   ·exact hp'
   ·rcases List.mem_cons.1 hx with rfl | hx
    ·exact ⟨hp'.1, hq'.2⟩
    ·exact S1.C.b2 x (by simp [hx]))
  exact Go.Great.bodyPost_end0 rfl rfl ⟨⟨_, rfl⟩, _, (S1.in ((Ro.refl g w1).set 7 (.string p.1)) hgb C).on h2⟩
set_option maxRecDepth 20000 in
theorem s_tw3 {w wa W : World} {r : RawV} {BO N : Nat} {m : VerM} (h : OS w r wa BO N m W) : Calls prog 65 #[.pointer (some ⟨BO, 0, none⟩), .int .i64 3] W (TwX w r wa BO N) := by
 unfold TwX;obtain ⟨frm, mode, unit, cr, se, le, gr, re, ca, sa, la, ga, ra, cc, sc, lc, gc, rc⟩ := m;have o := h.C.o.c (j := 5) rfl;have ol := h.C.o.lt
 rcases le with _ | ⟨p, t⟩
 ·go_enter func65, ntmps65;go_wp2;exact Go.Great.bodyPost_end0 rfl rfl ⟨⟨_, rfl⟩, _, h⟩
 ·obtain ⟨g, cap, hv, hgb, hgl⟩ := World.ownsRow.form h.C.l (by simp);simp only [Value.slice.injEq] at hv;obtain ⟨rfl, -, rfl⟩ := hv;have hp := h.C.b2 p (by simp);have S1 := h;have y1 : ∃ u, W.cell? ⟨g, 1, none⟩ = some u := ⟨_, S1.C.l.cellAt 1 (by first | (simp; done) | (simp; omega))⟩;obtain ⟨u1, y1⟩ := y1;have z1 := S1.C.l.frozenAt 1;have y2 : ∃ u, W.cell? ⟨g, 2, none⟩ = some u := ⟨_, S1.C.l.cellAt 2 (by first | (simp; done) | (simp; omega))⟩;obtain ⟨u2, y2⟩ := y2;have z2 := S1.C.l.frozenAt 2;have y3 : ∃ u, W.cell? ⟨g, 3, none⟩ = some u := ⟨_, S1.C.l.cellAt 3 (by first | (simp; done) | (simp; omega))⟩;obtain ⟨u3, y3⟩ := y3;have z3 := S1.C.l.frozenAt 3;have y4 : ∃ u, W.cell? ⟨g, 4, none⟩ = some u := ⟨_, S1.C.l.cellAt 4 (by first | (simp; done) | (simp; omega))⟩;obtain ⟨u4, y4⟩ := y4;have z4 := S1.C.l.frozenAt 4;have y5 : ∃ u, W.cell? ⟨g, 5, none⟩ = some u := ⟨_, S1.C.l.cellAt 5 (by first | (simp; done) | (simp; omega))⟩;obtain ⟨u5, y5⟩ := y5;have z5 := S1.C.l.frozenAt 5;have y6 : ∃ u, W.cell? ⟨g, 6, none⟩ = some u := ⟨_, S1.C.l.cellAt 6 (by first | (simp; done) | (simp; omega))⟩;obtain ⟨u6, y6⟩ := y6;have z6 := S1.C.l.frozenAt 6;have gl := (S1.C.l.lt g rfl).2;go_enter func65, ntmps65;go_wp2;have hp' := S1.C.b2 p (by simp)
  have C := S1.C.inL (g := g) (L := (p.1, (lfT 2 0 0 0 ⟨#[108, 97, 116, 101, 114]⟩, .slice none 0 0)) :: t) (((((((Ro.refl g W).set 1 (.int .i64 2)).set 2 (.int .i64 0)).set 3 (.int .i64 0)).set 4 (.int .i64 0)).set 5 (.string ⟨#[108, 97, 116, 101, 114]⟩)).set 6 (.slice none 0 0)) rfl rfl ((((((S1.C.l.stored 1 (.int .i64 2)).1.stored 2 (.int .i64 0)).1.stored 3 (.int .i64 0)).1.stored 4 (.int .i64 0)).1.stored 5 (.string ⟨#[108, 97, 116, 101, 114]⟩)).1.stored 6 (.slice none 0 0)).1 (fun x hx => by
   rcases List.mem_cons.1 hx with rfl | hx
   ·exact ⟨hp'.1, lf_kids i64c i64c i64c i64c (by decide), by show (lfT 2 0 0 0 ⟨#[108, 97, 116, 101, 114]⟩).size <= _; unfold lfT; rw [size_mk]; simp [smK]⟩
   ·exact S1.C.b2 x (by simp [hx]))
  exact Go.Great.bodyPost_end0 rfl rfl ⟨⟨_, rfl⟩, _, S1.in (((((((Ro.refl g W).set 1 (.int .i64 2)).set 2 (.int .i64 0)).set 3 (.int .i64 0)).set 4 (.int .i64 0)).set 5 (.string ⟨#[108, 97, 116, 101, 114]⟩)).set 6 (.slice none 0 0)) hgb C⟩
set_option maxRecDepth 20000 in
theorem s_tw4 {w wa W : World} {r : RawV} {BO N : Nat} {m : VerM} (h : OS w r wa BO N m W) : Calls prog 65 #[.pointer (some ⟨BO, 0, none⟩), .int .i64 4] W (TwX w r wa BO N) := by
 unfold TwX;obtain ⟨frm, mode, unit, cr, se, le, gr, re, ca, sa, la, ga, ra, cc, sc, lc, gc, rc⟩ := m;have o := h.C.o.c (j := 4) rfl;have ol := h.C.o.lt
 rcases se with _ | ⟨p, _ | ⟨q, t⟩⟩
 ·go_enter func65, ntmps65;go_wp2;exact Go.Great.bodyPost_end0 rfl rfl ⟨⟨_, rfl⟩, _, h⟩
 ·go_enter func65, ntmps65;go_wp2;exact Go.Great.bodyPost_end0 rfl rfl ⟨⟨_, rfl⟩, _, h⟩
 ·obtain ⟨g, cap, hv, hgb, hgl⟩ := World.ownsRow.form h.C.s (by simp);simp only [Value.slice.injEq] at hv;obtain ⟨rfl, -, rfl⟩ := hv;have hp := h.C.b1 p (by simp);have hq := h.C.b1 q (by simp);have i0 : (1 : Int) < (t.length : Int) + 1 + 1 := by omega
  have i2 : (0 : Int) < (t.length : Int) + 1 + 1 := by omega
  have i1 : 1 < t.length + 1 + 1 := by omega
  have x0 : W.cell? ⟨g, 0, none⟩ = some (.int .i64 p.1) := h.C.s.cellAt 0 (by first | (simp; done) | (simp; omega));go_enter func65, ntmps65;go_wp2_with fail;refine wrp 13 1 13 (fun w0 h0 => ?_);refine ao 13 (fun w1 h1 K' hK' => ?_);have S1 := h.on (h0.trans h1);have y3 : ∃ u, w1.cell? ⟨g, 3, none⟩ = some u := ⟨_, S1.C.s.cellAt 3 (by first | (simp; done) | (simp; omega))⟩;obtain ⟨u3, y3⟩ := y3;have z3 := S1.C.s.frozenAt 3;have gl := (S1.C.s.lt g rfl).2;go_simp;refine hK'.out _ _ mkd ?_;clear hK' K';refine ae (fun Z h2 => ?_);(try simp only [Act.put, zlaK, zlbK, zlcK]);go_wp2;have hp' := S1.C.b1 p (by simp);have hq' := S1.C.b1 q (by simp)
  have C := S1.C.inS (g := g) (L := p :: (p.1, q.2) :: t) ((Ro.refl g w1).set 3 (.int .i64 p.1)) rfl rfl (S1.C.s.stored 3 (.int .i64 p.1)).1 (fun x hx => by
   rcases List.mem_cons.1 hx with rfl | hx
   ·exact hp'
   ·rcases List.mem_cons.1 hx with rfl | hx
    ·exact ⟨hp'.1, hq'.2⟩
    ·exact S1.C.b1 x (by simp [hx]))
  exact Go.Great.bodyPost_end0 rfl rfl ⟨⟨_, rfl⟩, _, (S1.in ((Ro.refl g w1).set 3 (.int .i64 p.1)) hgb C).on h2⟩
set_option maxRecDepth 20000 in
theorem s_tw5 {w wa W : World} {r : RawV} {BO N : Nat} {m : VerM} (h : OS w r wa BO N m W) : Calls prog 65 #[.pointer (some ⟨BO, 0, none⟩), .int .i64 5] W (TwX w r wa BO N) := by
 unfold TwX;obtain ⟨frm, mode, unit, cr, se, le, gr, re, ca, sa, la, ga, ra, cc, sc, lc, gc, rc⟩ := m;have o := h.C.o.c (j := 3) rfl;have ol := h.C.o.lt
 rcases cr with _ | ⟨p, _ | ⟨q, t⟩⟩
 ·go_enter func65, ntmps65;go_wp2;exact Go.Great.bodyPost_end0 rfl rfl ⟨⟨_, rfl⟩, _, h⟩
 ·go_enter func65, ntmps65;go_wp2;exact Go.Great.bodyPost_end0 rfl rfl ⟨⟨_, rfl⟩, _, h⟩
 ·obtain ⟨g, cap, hv, hgb, hgl⟩ := World.ownsRow.form h.C.c (by simp);simp only [Value.slice.injEq] at hv;obtain ⟨rfl, -, rfl⟩ := hv;have hp := h.C.b0 p (by simp);have hq := h.C.b0 q (by simp);have i0 : (1 : Int) < (t.length : Int) + 1 + 1 := by omega
  have i2 : (0 : Int) < (t.length : Int) + 1 + 1 := by omega
  have i1 : 1 < t.length + 1 + 1 := by omega
  have x0 : W.cell? ⟨g, 0, none⟩ = some (.int .i64 p.1) := h.C.c.cellAt 0 (by first | (simp; done) | (simp; omega));go_enter func65, ntmps65;go_wp2_with fail;refine wrp 13 1 13 (fun w0 h0 => ?_);refine ao 13 (fun w1 h1 K' hK' => ?_);have S1 := h.on (h0.trans h1);have y2 : ∃ u, w1.cell? ⟨g, 2, none⟩ = some u := ⟨_, S1.C.c.cellAt 2 (by first | (simp; done) | (simp; omega))⟩;obtain ⟨u2, y2⟩ := y2;have z2 := S1.C.c.frozenAt 2;have gl := (S1.C.c.lt g rfl).2;go_simp;refine hK'.out _ _ mkd ?_;clear hK' K';refine ae (fun Z h2 => ?_);(try simp only [Act.put, zlaK, zlbK, zlcK]);go_wp2;have hp' := S1.C.b0 p (by simp);have hq' := S1.C.b0 q (by simp)
  have C := S1.C.inC (g := g) (L := p :: (p.1, q.2) :: t) ((Ro.refl g w1).set 2 (.int .i64 p.1)) rfl rfl (S1.C.c.stored 2 (.int .i64 p.1)).1 (fun x hx => by
   rcases List.mem_cons.1 hx with rfl | hx
   ·exact hp'
   ·rcases List.mem_cons.1 hx with rfl | hx
    ·exact ⟨hp'.1, hq'.2⟩
    ·exact S1.C.b0 x (by simp [hx]))
  exact Go.Great.bodyPost_end0 rfl rfl ⟨⟨_, rfl⟩, _, (S1.in ((Ro.refl g w1).set 2 (.int .i64 p.1)) hgb C).on h2⟩
set_option maxRecDepth 20000 in
theorem s_tw6 {w wa W : World} {r : RawV} {BO N : Nat} {m : VerM} (h : OS w r wa BO N m W) : Calls prog 65 #[.pointer (some ⟨BO, 0, none⟩), .int .i64 6] W (TwX w r wa BO N) := by
 unfold TwX;obtain ⟨frm, mode, unit, cr, se, le, gr, re, ca, sa, la, ga, ra, cc, sc, lc, gc, rc⟩ := m;have o := h.C.o.c (j := 5) rfl;have ol := h.C.o.lt
 rcases le with _ | ⟨p, t⟩
 ·go_enter func65, ntmps65;go_wp2;exact Go.Great.bodyPost_end0 rfl rfl ⟨⟨_, rfl⟩, _, h⟩
 ·obtain ⟨g, cap, hv, hgb, hgl⟩ := World.ownsRow.form h.C.l (by simp);simp only [Value.slice.injEq] at hv;obtain ⟨rfl, -, rfl⟩ := hv;have hp := h.C.b2 p (by simp);have S1 := h;have y0 : ∃ u, W.cell? ⟨g, 0, none⟩ = some u := ⟨_, S1.C.l.cellAt 0 (by first | (simp; done) | (simp; omega))⟩;obtain ⟨u0, y0⟩ := y0;have z0 := S1.C.l.frozenAt 0;have gl := (S1.C.l.lt g rfl).2;go_enter func65, ntmps65;go_wp2;have hp' := S1.C.b2 p (by simp)
  have C := S1.C.inL (g := g) (L := (⟨#[97, 103, 101]⟩, p.2) :: t) ((Ro.refl g W).set 0 (.string ⟨#[97, 103, 101]⟩)) rfl rfl (S1.C.l.stored 0 (.string ⟨#[97, 103, 101]⟩)).1 (fun x hx => by
   rcases List.mem_cons.1 hx with rfl | hx
   ·exact ⟨by show (3 : Nat) <= _; decide, hp'.2⟩
   ·exact S1.C.b2 x (by simp [hx]))
  exact Go.Great.bodyPost_end0 rfl rfl ⟨⟨_, rfl⟩, _, S1.in ((Ro.refl g W).set 0 (.string ⟨#[97, 103, 101]⟩)) hgb C⟩
theorem s_twist {w wa W : World} {r : RawV} {BO N : Nat} {m : VerM} {n : Int} (h : OS w r wa BO N m W) (h0 : 0 <= n) (h1 : n < 7) : Calls prog 65 #[.pointer (some ⟨BO, 0, none⟩), .int .i64 n] W (TwX w r wa BO N) := by
 rcases (show n = 0 \/ n = 1 \/ n = 2 \/ n = 3 \/ n = 4 \/ n = 5 \/ n = 6 by omega) with rfl | rfl | rfl | rfl | rfl | rfl | rfl
 ·exact s_tw0 h
 ·exact s_tw1 h
 ·exact s_tw2 h
 ·exact s_tw3 h
 ·exact s_tw4 h
 ·exact s_tw5 h
 ·exact s_tw6 h
end Go.Proofs.YthmlhheceihcbaaGreatDoor

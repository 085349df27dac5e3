/- Lemmas, each as it is printed; no conditions but those printed. -/
import Derived.Test.YthmlhheceihcbaaGreatDoorKB10
import Derived.Test.YthmlhheceihcbaaGreatDoorKB34
namespace Go.Proofs.YthmlhheceihcbaaGreatDoor
set_option maxHeartbeats 16000000
open Go.RowKit Cal Str Tok Frac Txt Tree Go.Proofs.Tryz
attribute [local go_sem] calmUpon
set_option linter.unusedVariables false
set_option linter.unusedSimpArgs false
abbrev eX (t : Ex) (xa : Option Addr) (xc : Nat) : List Value := [.int .i64 t.op, .int .i64 t.va, .int .i64 t.vb, .int .i64 t.dm, .string t.nm, .slice xa t.cnt xc]
theorem kidsB_ro {P : Nat -> Prop} {t : Ex} {w w' : World} {x : Value} {b : Nat} (h : ExKidsB P t w x) (r : Ro b w w') (hb : ∀ q, P q -> q ≠ b) : ExKidsB P t w' x := kidsB_keep r.size (fun g hg hp => ⟨r.block g hg (hb g hp), hp⟩) h
theorem kidsB_rl {P : Nat -> Prop} {t : Ex} {w w' : World} {x : Value} (h : ExKidsB P t w x) (r : Rel w w') : ExKidsB P t w' x := kidsB_keep (Below.size r) (fun g hg hp => ⟨Below.block r g hg, hp⟩) h
theorem kidsB_mono {P Q : Nat -> Prop} {t : Ex} {w : World} {x : Value} (h : ExKidsB P t w x) (hq : ∀ q, q < w.heap.size -> P q -> Q q) : ExKidsB Q t w x := kidsB_keep (Nat.le_refl _) (fun g hg hp => ⟨rfl, hq g hg hp⟩) h
theorem pair_tree {P : Nat -> Prop} {W : World} {op : Int} {t u : Ex} {x y : Value} {T : TypeId} {g : Nat} (hg : g = W.heap.size) (hP : P g) (hop : 0 <= op /\ op <= 100) (ht : ExKidsB P t W x) (hu : ExKidsB P u W y) :
  ExKidsB P (trB op t u) (W.alloc (.cells #[.int .i64 t.op, .int .i64 t.va, .int .i64 t.vb, .int .i64 t.dm, .string t.nm, x, .int .i64 u.op, .int .i64 u.va, .int .i64 u.vb, .int .i64 u.dm, .string u.nm, y] T)) (.slice (some ⟨g, 0, none⟩) 2 2) := by
 subst hg;have r : Rel W (W.alloc (.cells #[.int .i64 t.op, .int .i64 t.va, .int .i64 t.vb, .int .i64 t.dm, .string t.nm, x, .int .i64 u.op, .int .i64 u.va, .int .i64 u.vb, .int .i64 u.dm, .string u.nm, y] T)) := (Rel.refl _).alloc _;refine ⟨⟨by omega, by omega, by decide, by decide, by decide, by decide, by decide, by decide, by decide⟩, by omega, _, _, rfl, fun _ => ⟨W.heap.size, 0, rfl, by simp, hP, fun i hi => ?_⟩⟩
 rcases (show i = 0 \/ i = 1 by omega) with rfl | rfl
 ·exact ⟨x, ⟨by simp, by simp, by simp, by simp, by simp, by simp⟩, kidsB_rl ht r⟩
 ·exact ⟨y, ⟨by simp, by simp, by simp, by simp, by simp, by simp⟩, kidsB_rl hu r⟩
theorem one_at {P : Nat -> Prop} {X : World} {op : Int} {t : Ex} {T : TypeId} {g : Nat} {xa : Option Addr} {xc : Nat} (B : Blk X g T (eX t xa xc)) (hP : P g) (hop : 0 <= op /\ op <= 100) (ht : ExKidsB P t X (.slice xa t.cnt xc)) : ExKidsB P (trU op t) X (.slice (some ⟨g, 0, none⟩) 1 1) := by
 refine ⟨⟨by omega, by omega, by decide, by decide, by decide, by decide, by decide, by decide, by decide⟩, by omega, _, _, rfl, fun _ => ⟨g, 0, rfl, B.lt, hP, fun i hi => ?_⟩⟩;obtain rfl : i = 0 := by omega
 exact ⟨_, ⟨B.c rfl, B.c rfl, B.c rfl, B.c rfl, B.c rfl, B.c rfl⟩, ht⟩
theorem one_tree {P : Nat -> Prop} {W : World} {op : Int} {t : Ex} {xa : Option Addr} {xc : Nat} {T : TypeId} {g : Nat} (hg : g = W.heap.size) (hP : P g) (hop : 0 <= op /\ op <= 100) (ht : ExKidsB P t W (.slice xa t.cnt xc)) :
  ExKidsB P (trU op t) (W.alloc (.cells #[.int .i64 t.op, .int .i64 t.va, .int .i64 t.vb, .int .i64 t.dm, .string t.nm, .slice xa t.cnt xc] T)) (.slice (some ⟨g, 0, none⟩) 1 1) := by
 subst hg;exact one_at (Blk.new _ _ _) hP hop (kidsB_rl ht ((Rel.refl _).alloc _))
theorem three_tree {P : Nat -> Prop} {W : World} {t u v : Ex} {x y z : Value} {T : TypeId} {g : Nat} (hg : g = W.heap.size) (hP : P g) (ht : ExKidsB P t W x) (hu : ExKidsB P u W y) (hv : ExKidsB P v W z) :
  ExKidsB P (trI t u v) (W.alloc (.cells #[.int .i64 t.op, .int .i64 t.va, .int .i64 t.vb, .int .i64 t.dm, .string t.nm, x, .int .i64 u.op, .int .i64 u.va, .int .i64 u.vb, .int .i64 u.dm, .string u.nm, y, .int .i64 v.op, .int .i64 v.va, .int .i64 v.vb, .int .i64 v.dm, .string v.nm, z] T)) (.slice (some ⟨g, 0, none⟩) 3 3) := by
 subst hg;have r : Rel W (W.alloc (.cells #[.int .i64 t.op, .int .i64 t.va, .int .i64 t.vb, .int .i64 t.dm, .string t.nm, x, .int .i64 u.op, .int .i64 u.va, .int .i64 u.vb, .int .i64 u.dm, .string u.nm, y, .int .i64 v.op, .int .i64 v.va, .int .i64 v.vb, .int .i64 v.dm, .string v.nm, z] T)) := (Rel.refl _).alloc _;refine ⟨⟨by decide, by decide, by decide, by decide, by decide, by decide, by decide, by decide, by decide⟩, by omega, _, _, rfl, fun _ => ⟨W.heap.size, 0, rfl, by simp, hP, fun i hi => ?_⟩⟩
 rcases (show i = 0 \/ i = 1 \/ i = 2 by omega) with rfl | rfl | rfl
 ·exact ⟨x, ⟨by simp, by simp, by simp, by simp, by simp, by simp⟩, kidsB_rl ht r⟩
 ·exact ⟨y, ⟨by simp, by simp, by simp, by simp, by simp, by simp⟩, kidsB_rl hu r⟩
 ·exact ⟨z, ⟨by simp, by simp, by simp, by simp, by simp, by simp⟩, kidsB_rl hv r⟩
theorem al_c {w : World} {f : FuncId} {ar : Array Value} {Q : Ending -> World -> Prop} {c : Array Value} {T : TypeId} (h : ∀ X, Blk X w.heap.size T c.toList -> Rel w X -> X.heap.size = w.heap.size + 1 -> Calls prog f ar X Q) : Calls prog f ar (w.alloc (.cells c T)) Q := h _ (Blk.new w T c) ((Rel.refl w).alloc _) (World.size_alloc ..)
theorem res6 {fn : Func} {a : Act} {t : Tmp} {W : World} {g : Nat} {T : TypeId} {v0 v1 v2 v3 v4 v5 : Value} (h : fn.results = #[.cell t 59]) (ht : a.tmps.getD t undef = .pointer (some ⟨g, 0, none⟩)) (B : Blk W g T [v0, v1, v2, v3, v4, v5]) : (results fn a.tmps).run prog W = .ok (.agg #[v0, v1, v2, v3, v4, v5]) W := by
 have k := B.cs;rw [Array.getD_eq_getD_getElem?] at ht;simp [results, h, ht, go_sem, k]
abbrev zX : List Value := [.int .i64 0, .int .i64 0, .int .i64 0, .int .i64 0, .string ⟨#[]⟩, .slice none 0 0]
theorem six_at {W : World} {T : TypeId} {l : List Value} (g : Nat) (B : Blk W g T l) (hl : l.length = 6) {v0 v1 v2 v3 v4 v5 : Value} : Blk ((((((W.setCell ⟨g, 0, none⟩ v0).setCell ⟨g, 1, none⟩ v1).setCell ⟨g, 2, none⟩ v2).setCell ⟨g, 3, none⟩ v3).setCell ⟨g, 4, none⟩ v4).setCell ⟨g, 5, none⟩ v5) g T [v0, v1, v2, v3, v4, v5] := by
 match l, hl with
 | [_, _, _, _, _, _], _ => exact (((((B.set 0 v0).set 1 v1).set 2 v2).set 3 v3).set 4 v4).set 5 v5
theorem Ro.p6 {W : World} {g : Nat} (i : Nat) {u0 u1 u2 u3 u4 u5 : Value} : Ro g W ((((((W.setCell ⟨g, i, none⟩ u0).setCell ⟨g, i + 1, none⟩ u1).setCell ⟨g, i + 2, none⟩ u2).setCell ⟨g, i + 3, none⟩ u3).setCell ⟨g, i + 4, none⟩ u4).setCell ⟨g, i + 5, none⟩ u5) := ((((((Ro.refl g W).set _ _).set _ _).set _ _).set _ _).set _ _).set _ _
structure LV (b : Nat) (w0 : World) (g : Nat) (a : Ex) (xa : Option Addr) (xc : Nat) (W : World) : Prop where
 hb : b < w0.heap.size
 B : Blk W w0.heap.size 59 zX
 E : Blk W g 59 (eX a xa xc)
 K : ExKidsB (fun q => w0.heap.size < q /\ q ≠ g) a W (.slice xa a.cnt xc)
 lt : w0.heap.size < g
section
variable {b g : Nat} {w0 W X : World} {a t : Ex} {xa ya : Option Addr} {xc yc : Nat}
theorem LV.ro (h : LV b w0 g a xa xc W) (r : Ro b W X) : LV b w0 g a xa xc X :=
 have h1 := h.hb
 have h2 := h.lt
 ⟨h1, h.B.ro r (by omega), h.E.ro r (by omega), kidsB_ro h.K r (fun q hq => by omega), h2⟩
theorem LV.rel (h : LV b w0 g a xa xc W) (r : Rel W X) : LV b w0 g a xa xc X := h.ro (Ro.of r)
theorem LV.al (h : LV b w0 g a xa xc W) (o : Obj) : LV b w0 g a xa xc (W.alloc o) := h.rel ((Rel.refl _).alloc o)
theorem LV.kk (h : LV b w0 g a xa xc W) : ExKidsB (fun q => w0.heap.size < q) a W (.slice xa a.cnt xc) := kidsB_mono h.K fun _ _ hq => hq.1
theorem LV.mk0 (hb : b < w0.heap.size) (B : Blk W w0.heap.size 59 zX) (K : ExKidsB (fun q => w0.heap.size < q) a W (.slice xa a.cnt xc)) : LV b w0 W.heap.size a xa xc (W.alloc (.cells #[.int .i64 a.op, .int .i64 a.va, .int .i64 a.vb, .int .i64 a.dm, .string a.nm, .slice xa a.cnt xc] 59)) :=
 ⟨hb, B.alloc _, Blk.new _ _ _, kidsB_rl (kidsB_mono K fun q hq hp => ⟨hp, by omega⟩) ((Rel.refl _).alloc _), B.lt⟩
theorem LV.six (h : LV b w0 g a xa xc W) (K : ExKidsB (fun q => w0.heap.size < q /\ q ≠ g) t W (.slice ya t.cnt yc)) : LV b w0 g t ya yc ((((((W.setCell ⟨g, 0, none⟩ (.int .i64 t.op)).setCell ⟨g, 1, none⟩ (.int .i64 t.va)).setCell ⟨g, 2, none⟩ (.int .i64 t.vb)).setCell ⟨g, 3, none⟩ (.int .i64 t.dm)).setCell ⟨g, 4, none⟩ (.string t.nm)).setCell ⟨g, 5, none⟩ (.slice ya t.cnt yc)) :=
 have r := Ro.p6 (W := W) (g := g) 0
 have h2 := h.lt
 ⟨h.hb, h.B.ro r (by omega), six_at g h.E rfl, kidsB_ro K r (fun q hq => hq.2), h2⟩
theorem six_ret {l : List Value} {T : TypeId} {Φ : Ending -> World -> Prop} {fn : Func} {ac : Act} {tm : Tmp} {g : Nat} (t : Ex) (B : Blk W g T l) (K : ExKidsB (fun q => g < q) t W (.slice xa t.cnt xc))
  (hk : ∀ Z, Z = ((((((W.setCell ⟨g, 0, none⟩ (.int .i64 t.op)).setCell ⟨g, 1, none⟩ (.int .i64 t.va)).setCell ⟨g, 2, none⟩ (.int .i64 t.vb)).setCell ⟨g, 3, none⟩ (.int .i64 t.dm)).setCell ⟨g, 4, none⟩ (.string t.nm)).setCell ⟨g, 5, none⟩ (.slice xa t.cnt xc)) -> ExKidsB (fun q => g <= q) t Z (.slice xa t.cnt xc) -> Φ (.returned (.agg #[.int .i64 t.op, .int .i64 t.va, .int .i64 t.vb, .int .i64 t.dm, .string t.nm, .slice xa t.cnt xc])) Z)
  (hl : l.length = 6 := by rfl) (h : fn.results = #[.cell tm 59] := by rfl) (ht : ac.tmps.getD tm undef = .pointer (some ⟨g, 0, none⟩) := by rfl) (hd : ac.defers = [] := by rfl) :
  bodyPost prog fn Φ .ret ac ((((((W.setCell ⟨g, 0, none⟩ (.int .i64 t.op)).setCell ⟨g, 1, none⟩ (.int .i64 t.va)).setCell ⟨g, 2, none⟩ (.int .i64 t.vb)).setCell ⟨g, 3, none⟩ (.int .i64 t.dm)).setCell ⟨g, 4, none⟩ (.string t.nm)).setCell ⟨g, 5, none⟩ (.slice xa t.cnt xc)) :=
 bodyPost_ret (res6 h ht (six_at g B hl)) hd (hk _ rfl (kidsB_mono (kidsB_ro K (Ro.p6 0) fun q hq => by omega) fun q _ hq => by omega))
end
section
variable {P : Program} {ops : Array Oper} {Q : Exit -> Act -> World -> Prop}
theorem wrb (cs : List Nat) (ts k : Nat) {id g : Nat} {T : TypeId} {l : List Value} {a a1 : Act} {w : World} (B : Blk w g T l)
    (hk : ∀ w0, Rel w w0 -> wpAnyR P .any ops (NoPanic Q) (fun M w' => M.getD k false = false -> Blk w' g T l) (fun i => i == k) ts (Array.replicate ops.size false) (takenB cs (Array.replicate ops.size false)) a1 w0) (hm : P.follows .mixedOrders = true := by kernel_rfl)
    (hB : (Region.noSelect ops && decide (cs.length + ts = ops.size) && (cs.all fun i => !(i == k)) && calmB .any ops cs (Array.replicate ops.size false)) = true := by kernel_rfl)
    (hc : CalmL P .any ops (fun M w' => M.getD k false = false -> Blk w' g T l) (fun x => x = a1) cs a := by
      repeat (first
        | (apply wql_ng
           · exact rfl
           · exact rfl
           · intro M w hM hS;unfold calmAt
             first
               | (go_simp; exact ⟨rfl, Rel.refl _⟩)
               | (replace hS := hS (hM _ (by kernel_rfl)); have kk := hS.cs; go_simp; exact ⟨rfl, Rel.refl _⟩))
        | (apply wql_no
           · exact rfl
           · go_simp))
      refine wql_nil ?_;(try simp only [Act.put, zlaK, zlbK, zlcK])
      exact rfl) : (Code.region id ops true).wp P Q a w :=
  wp_region_calm (fun M w' => M.getD k false = false -> Blk w' g T l) (fun i => i == k) cs ts hm hB (fun _ _ _ h r hM => (h hM).rel r) (fun _ => B) (fun w0 h0 => wpCalm_mono (fun x hx => by subst hx; exact hk w0 h0) _ _ (wql_of hc))
theorem wrb2 (cs : List Nat) (ts k : Nat) {id g g' : Nat} {T : TypeId} {l l' : List Value} {a a1 : Act} {w : World} (B : Blk w g T l /\ Blk w g' T l')
    (hk : ∀ w0, Rel w w0 -> wpAnyR P .any ops (NoPanic Q) (fun M w' => M.getD k false = false -> Blk w' g T l /\ Blk w' g' T l') (fun i => i == k) ts (Array.replicate ops.size false) (takenB cs (Array.replicate ops.size false)) a1 w0) (hm : P.follows .mixedOrders = true := by kernel_rfl)
    (hB : (Region.noSelect ops && decide (cs.length + ts = ops.size) && (cs.all fun i => !(i == k)) && calmB .any ops cs (Array.replicate ops.size false)) = true := by kernel_rfl)
    (hc : CalmL P .any ops (fun M w' => M.getD k false = false -> Blk w' g T l /\ Blk w' g' T l') (fun x => x = a1) cs a := by
      repeat (first
        | (apply wql_ng
           · exact rfl
           · exact rfl
           · intro M w hM hS;unfold calmAt
             first
               | (go_simp; exact ⟨rfl, Rel.refl _⟩)
               | (replace hS := hS (hM _ (by kernel_rfl)); have kk := hS.1.cs; have kj := hS.2.cs; go_simp; exact ⟨rfl, Rel.refl _⟩))
        | (apply wql_no
           · exact rfl
           · go_simp))
      refine wql_nil ?_;(try simp only [Act.put, zlaK, zlbK, zlcK])
      exact rfl) : (Code.region id ops true).wp P Q a w :=
  wp_region_calm (fun M w' => M.getD k false = false -> Blk w' g T l /\ Blk w' g' T l') (fun i => i == k) cs ts hm hB (fun _ _ _ h r hM => ⟨(h hM).1.rel r, (h hM).2.rel r⟩) (fun _ => B) (fun w0 h0 => wpCalm_mono (fun x hx => by subst hx; exact hk w0 h0) _ _ (wql_of hc))
end
def PeRes (b G : Nat) (tk : List Tk) (E : Int) (r : Ex × Pt) (w : World) (e : Ending) (w' : World) : Prop :=
 ∃ x, e = .returned (.agg #[.int .i64 r.1.op, .int .i64 r.1.va, .int .i64 r.1.vb, .int .i64 r.1.dm, .string r.1.nm, x]) /\ ExKidsB (fun g => w.heap.size <= g) r.1 w' x /\ Prs w' b G tk E r.2 /\ Ro b w w'
def cc (m : Nat) : Nat := if m = 0 then 8 else if m = 1 then 7 else if m = 2 then 6 else if m = 3 then 5 else if m = 4 then 4 else if m = 5 then 3 else if m = 6 then 2 else 1
def PC (b G : Nat) (tk : List Tk) (E : Int) (fn : FuncId) (m f : Nat) : Prop :=
 ∀ (w : World) (s : Pt), Prs w b G tk E s -> 10 * rem tk s + cc m <= f -> Calls prog fn #[.pointer (some ⟨b, 0, none⟩)] w (PeRes b G tk E (pe tk f m .no s) w)
theorem Prs.eq {W Z : World} {b G : Nat} {tk : List Tk} {E : Int} {s : Pt} (h : Prs W b G tk E s) (hs : W.heap.size <= Z.heap.size) (hb : Z.heap[b]? = W.heap[b]?) (hG : tk = [] \/ Z.heap[G]? = W.heap[G]?) : Prs Z b G tk E s := by
 obtain ⟨ad, cap, h1, h2, h3⟩ := h.tok;have oc : ∀ j, Z.cell? ⟨b, j, none⟩ = W.cell? ⟨b, j, none⟩ := fun j => World.cell?_of_block hb
 have of : ∀ j, Z.frozen? ⟨b, j, none⟩ = W.frozen? ⟨b, j, none⟩ := fun j => World.frozen?_of_block hb
 have tk2 : Toks Z b G tk := by
  rcases h.toks with e | ⟨hg, hne, hc⟩
  ·exact .inl e
  ·rcases hG with e | e
   ·exact .inl e
   ·exact .inr ⟨Nat.lt_of_lt_of_le hg hs, hne, fun i t ht => ⟨(World.cell?_of_block e).trans (hc i t ht).1, (World.cell?_of_block e).trans (hc i t ht).2.1, (World.cell?_of_block e).trans (hc i t ht).2.2⟩⟩
 exact ⟨Nat.lt_of_lt_of_le h.lt hs, h.le, ⟨ad, cap, (oc 0).trans h1, h2, h3⟩, tk2, (oc 1).trans h.c1, (oc 2).trans h.c2, (oc 3).trans h.c3, (of 0).trans h.f0, (of 2).trans h.f2, (of 3).trans h.f3⟩
structure PX (b G : Nat) (tk : List Tk) (E : Int) (w0 : World) (s : Pt) (W : World) : Prop where
 P : Prs W b G tk E s
 R : Ro b w0 W
 hb : b < w0.heap.size
 hG : tk = [] \/ G < w0.heap.size
section
variable {b G : Nat} {tk : List Tk} {E : Int} {w0 W X : World} {s : Pt}
theorem PX.of (h : Prs W b G tk E s) : PX b G tk E W s W := ⟨h, Ro.refl _ _, h.lt, h.toks.imp id fun h => h.1⟩
theorem PX.st {s2 : Pt} (h : PX b G tk E w0 s W) (p : Prs X b G tk E s2) (r : Ro b W X) : PX b G tk E w0 s2 X := ⟨p, h.R.trans r, h.hb, h.hG⟩
theorem PX.rel (h : PX b G tk E w0 s W) (r : Rel W X) : PX b G tk E w0 s X := ⟨h.P.rel r, h.R.trans (Ro.of r), h.hb, h.hG⟩
theorem PX.al (h : PX b G tk E w0 s W) (o : Obj) : PX b G tk E w0 s (W.alloc o) := h.rel ((Rel.refl _).alloc o)
theorem PX.re (h : PX b G tk E w0 s W) : PX b G tk E W s W := ⟨h.P, Ro.refl _ _, Nat.lt_of_lt_of_le h.hb h.R.size, h.hG.imp id fun e => Nat.lt_of_lt_of_le e h.R.size⟩
theorem PX.tr (h : PX b G tk E w0 s W) {wa : World} (r : Ro b wa w0) (hb : b < wa.heap.size) (hG : tk = [] \/ G < wa.heap.size) : PX b G tk E wa s W := ⟨h.P, r.trans h.R, hb, hG⟩
theorem PX.put (h : PX b G tk E w0 s W) {g : Nat} (hg : w0.heap.size <= g) (i : Nat) (u : Value) : PX b G tk E w0 s (W.setCell ⟨g, i, none⟩ u) :=
 ⟨h.P.eq (by simp) (Below.heap_setCell _ _ _ _ (by show b ≠ g; have := h.hb; omega)) (h.hG.imp id fun e => Below.heap_setCell _ _ _ _ (by show G ≠ g; omega)), h.R.setNew (p := ⟨g, i, none⟩) hg u, h.hb, h.hG⟩
theorem PX.p2 (h : PX b G tk E w0 s W) {g : Nat} (hg : w0.heap.size <= g) (i : Nat) {u0 u1 : Value} : PX b G tk E w0 s ((W.setCell ⟨g, i, none⟩ u0).setCell ⟨g, i + 1, none⟩ u1) := (h.put hg _ _).put hg _ _
theorem PX.p6 (h : PX b G tk E w0 s W) {g : Nat} (hg : w0.heap.size <= g) (i : Nat) {u0 u1 u2 u3 u4 u5 : Value} : PX b G tk E w0 s ((((((W.setCell ⟨g, i, none⟩ u0).setCell ⟨g, i + 1, none⟩ u1).setCell ⟨g, i + 2, none⟩ u2).setCell ⟨g, i + 3, none⟩ u3).setCell ⟨g, i + 4, none⟩ u4).setCell ⟨g, i + 5, none⟩ u5) := (((((h.put hg _ _).put hg _ _).put hg _ _).put hg _ _).put hg _ _).put hg _ _
theorem PX.grown {row : Option Nat} (h : PX b G tk E w0 s W) (hg : W.grownBy X row) (hrow : ∀ q, row = some q -> w0.heap.size <= q) : PX b G tk E w0 s X := by
 have h1 := h.hb;have h3 := h.R.size;have key : ∀ q, q < w0.heap.size -> X.heap[q]? = W.heap[q]? := fun q hq => hg.block q (by omega) (fun e => by have := hrow q e.symm; omega)
 exact ⟨h.P.eq hg.size (key b h1) (h.hG.imp id fun e => key G e), Ro.grown h.R hg hrow, h.hb, h.hG⟩
end
theorem bin_ops (l : List (List UInt8 × Int)) (tk : List Tk) (s : Pt) (h : l.all (fun p => decide (0 <= p.2) && decide (p.2 <= 100)) = true) : 0 <= binT tk s l /\ binT tk s l <= 100 := by
 induction l with
 | nil => simp [binT]
 | cons p l ih =>
  simp only [List.all_cons, Bool.and_eq_true, decide_eq_true_eq] at h;simp only [binT];split
  ·exact h.1
  ·exact ih h.2
theorem pe_nn (tk : List Tk) (f n : Nat) (hn : n = 1 \/ n = 2 \/ n = 5 \/ n = 6) (a : Ex) (s : Pt) : pe tk (f + 1) n a s = pe tk f (10 + n) (pe tk f (n + 1) .no s).1 (pe tk f (n + 1) .no s).2 := by
 rcases hn with rfl | rfl | rfl | rfl <;> rfl
def entL : List (List UInt8 × Int) -> List Value
 | [] => []
 | p :: l => .string ⟨p.1.toArray⟩ :: .int .i64 p.2 :: entL l
theorem ent_get : ∀ {l : List (List UInt8 × Int)} {i : Nat} {p : List UInt8 × Int}, l[i]? = some p -> (entL l)[i * 2]? = some (.string ⟨p.1.toArray⟩) /\ (entL l)[i * 2 + 1]? = some (.int .i64 p.2)
 | _ :: _, 0, _, h => by simp at h; subst h; exact ⟨rfl, rfl⟩
 | _ :: l, i + 1, _, h => by have := ent_get (l := l) (i := i) (by simpa using h); rw [Nat.add_mul]; simpa [entL] using this
section
variable {b G : Nat} {tk : List Tk} {E : Int} {w0 w W : World} {s : Pt}
theorem p_ty (h : PX b G tk E w0 s w) (X : ByteArray) {x : List UInt8} (ha : accB tk x s = true) (hX : X.data.toList = x := by rfl) : Calls prog 27 #[.pointer (some ⟨b, 0, none⟩), .string X] w fun e w' => e = .returned (.bool true) /\ PX b G tk E w0 s.adv w' /\ Ro b w w' := by
 subst hX;have := accept_any b G tk E s X w h.P;unfold AccRes accP at this;rw [ha] at this;exact this.mono fun _ _ h1 => ⟨h1.1, h.st h1.2.1 h1.2.2, h1.2.2⟩
theorem p_tn (h : PX b G tk E w0 s w) (X : ByteArray) {x : List UInt8} (ha : accB tk x s = false) (hX : X.data.toList = x := by rfl) : Calls prog 27 #[.pointer (some ⟨b, 0, none⟩), .string X] w fun e w' => e = .returned (.bool false) /\ PX b G tk E w0 s w' /\ Ro b w w' := by
 subst hX;have := accept_any b G tk E s X w h.P;unfold AccRes accP at this;rw [ha] at this;exact this.mono fun _ _ h1 => ⟨h1.1, h.st h1.2.1 h1.2.2, h1.2.2⟩
theorem p_want (h : PX b G tk E w0 s w) (X : ByteArray) {x : List UInt8} (hX : X.data.toList = x := by rfl) : Calls prog 23 #[.pointer (some ⟨b, 0, none⟩), .string X] w fun e w' => (∃ v, e = .returned v) /\ PX b G tk E w0 (expP tk x s) w' /\ Ro b w w' /\ rem tk (expP tk x s) <= rem tk s := by
 subst hX;exact (expect_any b G tk E s X w h.P).mono fun _ _ h1 => ⟨h1.1, h.st h1.2.1 h1.2.2, h1.2.2, (exp_beh ..).rem⟩
theorem p_by {g n c : Nat} {T : TypeId} {ls : List Value} (l : List (List UInt8 × Int)) (h : PX b G tk E w0 s w) (B : Blk w g T ls) (hg : g ≠ b) (ho : binO tk s l = true) (he : ls = entL l := by rfl) (hl : l.length <= 10 := by decide) (hn : n = l.length := by rfl) : Calls prog 202 #[.pointer (some ⟨b, 0, none⟩), .slice (some ⟨g, 0, none⟩) n c] w fun e w' => e = .returned (.tuple #[.int .i64 (binT tk s l), .bool true]) /\ PX b G tk E w0 s.adv w' /\ Ro b w w' := by
 subst he hn;have := binary_any b G tk E l s g c w h.P hl B.lt hg fun i p hp => ⟨B.c (ent_get hp).1, B.c (ent_get hp).2⟩
 unfold BinRes binP at this;rw [ho] at this;exact this.mono fun _ _ h1 => ⟨h1.1, h.st h1.2.1 h1.2.2, h1.2.2⟩
theorem p_bn {g n c : Nat} {T : TypeId} {ls : List Value} (l : List (List UInt8 × Int)) (h : PX b G tk E w0 s w) (B : Blk w g T ls) (hg : g ≠ b) (ho : binO tk s l = false) (he : ls = entL l := by rfl) (hl : l.length <= 10 := by decide) (hn : n = l.length := by rfl) : Calls prog 202 #[.pointer (some ⟨b, 0, none⟩), .slice (some ⟨g, 0, none⟩) n c] w fun e w' => e = .returned (.tuple #[.int .i64 (binT tk s l), .bool false]) /\ PX b G tk E w0 s w' /\ Ro b w w' := by
 subst he hn;have := binary_any b G tk E l s g c w h.P hl B.lt hg fun i p hp => ⟨B.c (ent_get hp).1, B.c (ent_get hp).2⟩
 unfold BinRes binP at this;rw [ho] at this;exact this.mono fun _ _ h1 => ⟨h1.1, h.st h1.2.1 h1.2.2, h1.2.2⟩
theorem PC.at (c : Nat) {fn : FuncId} {m f : Nat} (H : PC b G tk E fn m f) (S : PX b G tk E w0 s w) (hf : 10 * rem tk s + c <= f := by omega) (hc : cc m = c := by rfl) (hm : md m := by unfold md; decide) : Calls prog fn #[.pointer (some ⟨b, 0, none⟩)] w fun e X => ∃ t xa xc s1, pe tk f m .no s = (t, s1) /\ e = .returned (.agg #[.int .i64 t.op, .int .i64 t.va, .int .i64 t.vb, .int .i64 t.dm, .string t.nm, .slice xa t.cnt xc]) /\ ExKidsB (fun q => w.heap.size <= q) t X (.slice xa t.cnt xc) /\ PX b G tk E w0 s1 X /\ Ro b w X /\ rem tk s1 <= rem tk s := by
 subst hc;refine (H w s S.P hf).mono ?_;rintro e X ⟨x, h1, h2, h3, h4⟩;obtain ⟨xa, xc, rfl⟩ := kids_slice (kidsB_to h2);exact ⟨_, xa, xc, _, rfl, h1, h2, S.st h3 h4, h4, (pe_beh tk f m .no s hm).rem⟩
theorem pe_ret {fn : Func} {a : Act} {tm : Tmp} {T : TypeId} {l : List Value} {r : Ex × Pt} {t : Ex} {xa : Option Addr} {xc : Nat} (e : r = (t, s)) (S : PX b G tk E w s W) (B : Blk W w.heap.size T l) (K : ExKidsB (fun q => w.heap.size < q) t W (.slice xa t.cnt xc)) (hl : l.length = 6 := by rfl) (h : fn.results = #[.cell tm 59] := by rfl) (ht : a.tmps.getD tm undef = .pointer (some ⟨w.heap.size, 0, none⟩) := by rfl) (hd : a.defers = [] := by rfl) :
  bodyPost prog fn (PeRes b G tk E r w) .ret a ((((((W.setCell ⟨w.heap.size, 0, none⟩ (.int .i64 t.op)).setCell ⟨w.heap.size, 1, none⟩ (.int .i64 t.va)).setCell ⟨w.heap.size, 2, none⟩ (.int .i64 t.vb)).setCell ⟨w.heap.size, 3, none⟩ (.int .i64 t.dm)).setCell ⟨w.heap.size, 4, none⟩ (.string t.nm)).setCell ⟨w.heap.size, 5, none⟩ (.slice xa t.cnt xc)) := by
 subst e;exact six_ret t B K (fun Z hZ hK => by subst hZ; exact ⟨_, rfl, hK, (S.p6 (Nat.le_refl _) 0).P, (S.p6 (Nat.le_refl _) 0).R⟩) hl h ht hd
end
set_option maxRecDepth 20000 in
theorem por_step (b G : Nat) (tk : List Tk) (E : Int) (f : Nat) {fn gn : FuncId} {m : Nat} {k : List UInt8} {op : Int} (h : fn = 124 /\ gn = 161 /\ m = 1 /\ k = kOr /\ op = 18 \/ fn = 161 /\ gn = 183 /\ m = 2 /\ k = kAnd /\ op = 17) (H : ∀ g, g <= f -> PC b G tk E gn (m + 1) g) : PC b G tk E fn m (f + 1) := by
 intro w s hP hf;have S : PX b G tk E w s w := .of hP;have hb := hP.lt;have HH := Hj H
 obtain ⟨c, hc, hf', h1c⟩ : ∃ c, cc (m + 1) = c /\ 10 * rem tk s + c <= f /\ 1 <= c /\ c <= 8 := by
  rcases h with ⟨-, -, rfl, rfl, rfl⟩ | ⟨-, -, rfl, rfl, rfl⟩
  ·exact ⟨6, rfl, by have : 10 * rem tk s + (6 + 1) <= f + 1 := hf; omega, by decide⟩
  ·exact ⟨5, rfl, by have : 10 * rem tk s + (5 + 1) <= f + 1 := hf; omega, by decide⟩
 have hm : md (m + 1) /\ (m = 1 \/ m = 2 \/ m = 5 \/ m = 6) := by rcases h with ⟨-, -, rfl, rfl, rfl⟩ | ⟨-, -, rfl, rfl, rfl⟩ <;> (unfold md; decide)
 have hlp : ∀ f a s, pe tk (f + 1) (10 + m) a s = if accB tk k s = true then pe tk f (10 + m) (trB op a (pe tk f (m + 1) .no s.adv).1) (pe tk f (m + 1) .no s.adv).2 else (a, s) := by rcases h with ⟨-, -, rfl, rfl, rfl⟩ | ⟨-, -, rfl, rfl, rfl⟩ <;> (intros; rfl)
 obtain ⟨RES, hR⟩ : ∃ r, pe tk (f + 1) m .no s = r := ⟨_, rfl⟩;rw [hR];rw [pe_nn tk f m hm.2] at hR;have HR := Hj hR;have hlp := Hj hlp;clear hP H hR hf
 rcases h with ⟨rfl, rfl, -, hk, hop⟩ | ⟨rfl, rfl, -, hk, hop⟩
 all_goals
  first
   | (go_enter func124, ntmps124)
   | (go_enter func161, ntmps161)
  go_wp2_with fail;refine al_c fun X BX RX hX => ?_
  refine ((HH.out f (Nat.le_refl _)).at c (S.rel RX) hf' hc hm.1).mono ?_;rintro e w1 ⟨t1, xa1, xc1, s1, p1, rfl, K1, S1, r1, b1⟩;have HR1 := HR.out;rw [p1] at HR1;have L1 := LV.mk0 hb (BX.ro r1 (by omega)) (kidsB_mono K1 fun q hq hp => by omega);go_wp2_with fail
  go_loopg [] f (fun g wx => ∃ (a : Ex) (xa : Option Addr) (xc : Nat) (s' : Pt), g <= f /\ 10 * rem tk s' + 1 <= g /\ Hid (pe tk g (10 + m) a s' = RES) /\ LV b w w1.heap.size a xa xc wx /\ PX b G tk E w s' wx)
  case atStart => exact ⟨t1, xa1, xc1, s1, Nat.le_refl _, by omega, HR1, L1, S1.al _⟩
  case round =>
   obtain ⟨a, xa, xc, s', hgf, hgr, hF, L, S2⟩ := hrel;have hl := L.lt;have hl2 := L.E.lt
   cases gk with
   | zero => omega
   | succ g =>
    have hF := hF.out;rw [hlp.out] at hF;obtain ⟨q, hq⟩ : ∃ q, accB tk k s' = q := ⟨_, rfl⟩;rw [hq] at hF;cases q
    all_goals
     go_wp2_with fail
    ·refine (p_tn S2 _ hq (by rw [hk]; rfl)).mono ?_;rintro e w2 ⟨rfl, S3, r3⟩;have L3 := L.ro r3;have k1 := L3.E.cs;have k2 := L3.B.cs;have f2 := L3.B.f;have l1 := L3.E.lt;have l2 := L3.B.lt;refine gw ?_;exact pe_ret hF.symm S3 L3.B L3.kk
    ·have hrem := (acc_beh hq).2;refine (p_ty S2 _ hq (by rw [hk]; rfl)).mono ?_;rintro e w2 ⟨rfl, S3, r3⟩;have L3 := L.ro r3;rw [if_pos (by trivial)] at hF;go_wp2_with fail;refine wrb [0, 1] 4 5 L3.E (fun w3 h3 => ?_);refine ao 2 (fun w4 h4 K' hK' => ?_);have L4 := L3.rel (h3.trans h4);go_simp;refine ((HH.out g (by omega)).at c (S3.rel (h3.trans h4)) (by omega) hc hm.1).mono ?_;rintro e w5 ⟨t5, xa5, xc5, s5, p5, rfl, K5, S5, r5, b5⟩;rw [p5] at hF;have l4 := L4.E.lt;have L5 := L4.ro r5;have K5 := kidsB_mono (Q := fun q => w.heap.size < q /\ q ≠ w1.heap.size) K5 (fun q _ hq => by omega);refine hK'.out _ _ (fun _ => L5.E) ?_;clear hK' K';refine ao 3 (fun w6 h6 K' hK' => ?_);have L6 := L5.rel h6;have l6 := L6.E.lt;have TR := pair_tree (op := op) (T := 59) rfl (P := fun q => w.heap.size < q /\ q ≠ w1.heap.size) ⟨by omega, by omega⟩ ⟨by omega, by omega⟩ L6.K (kidsB_rl K5 h6);go_simp;refine hK'.out _ _ (fun _ => (L6.al _).E) ?_;clear hK' K';refine ao 4 (fun w7 h7 K' hK' => ?_);go_simp;refine hK'.out _ _ (fun _ => ((L6.al _).rel h7).E) ?_;clear hK' K';refine ao 5 (fun w8 h8 K' hK' => ?_);have L8 := (L6.al _).rel (h7.trans h8);have S8 := ((S5.rel h6).al _).rel (h7.trans h8);have TR := kidsB_rl TR (h7.trans h8);have k1 := L8.E.cs;have f1 := L8.E.f;have l1 := L8.E.lt;go_simp;refine hK'.out _ _ mkd ?_;clear hK' K';refine ae (fun w9 h9 => ?_);subst hop;go_wp2
     go_roundg g
     case rel => exact ⟨_, _, _, s5, by omega, by omega, Hj hF, (L8.six TR).rel h9, (S8.p6 (by omega) 0).rel h9⟩
     case measure => omega
set_option maxRecDepth 20000 in
theorem psum_step (b G : Nat) (tk : List Tk) (E : Int) (f : Nat) {fn gn : FuncId} {m : Nat} {k : List (List UInt8 × Int)} (h : fn = 201 /\ gn = 205 /\ m = 5 /\ k = sumL \/ fn = 205 /\ gn = 206 /\ m = 6 /\ k = mulL) (H : ∀ g, g <= f -> PC b G tk E gn (m + 1) g) : PC b G tk E fn m (f + 1) := by
 intro w s hP hf;have S : PX b G tk E w s w := .of hP;have hb := hP.lt;have HH := Hj H
 obtain ⟨c, hc, hf', h1c⟩ : ∃ c, cc (m + 1) = c /\ 10 * rem tk s + c <= f /\ 1 <= c /\ c <= 8 := by
  rcases h with ⟨-, -, rfl, rfl⟩ | ⟨-, -, rfl, rfl⟩
  ·exact ⟨2, rfl, by have : 10 * rem tk s + (2 + 1) <= f + 1 := hf; omega, by decide⟩
  ·exact ⟨1, rfl, by have : 10 * rem tk s + (1 + 1) <= f + 1 := hf; omega, by decide⟩
 have hm : md (m + 1) /\ (m = 1 \/ m = 2 \/ m = 5 \/ m = 6) := by rcases h with ⟨-, -, rfl, rfl⟩ | ⟨-, -, rfl, rfl⟩ <;> (unfold md; decide)
 have hlp : ∀ f a s, pe tk (f + 1) (10 + m) a s = if binO tk s k = true then pe tk f (10 + m) (trB (binT tk s k) a (pe tk f (m + 1) .no s.adv).1) (pe tk f (m + 1) .no s.adv).2 else (a, s) := by rcases h with ⟨-, -, rfl, rfl⟩ | ⟨-, -, rfl, rfl⟩ <;> (intros; rfl)
 obtain ⟨RES, hR⟩ : ∃ r, pe tk (f + 1) m .no s = r := ⟨_, rfl⟩;rw [hR];rw [pe_nn tk f m hm.2] at hR;have HR := Hj hR;have hlp := Hj hlp;clear hP H hR hf
 rcases h with ⟨rfl, rfl, -, hk⟩ | ⟨rfl, rfl, -, hk⟩
 all_goals
  first
   | (go_enter func201, ntmps201)
   | (go_enter func205, ntmps205)
  go_wp2_with fail;refine al_c fun X BX RX hX => ?_
  refine ((HH.out f (Nat.le_refl _)).at c (S.rel RX) hf' hc hm.1).mono ?_;rintro e w1 ⟨t1, xa1, xc1, s1, p1, rfl, K1, S1, r1, b1⟩;have HR1 := HR.out;rw [p1] at HR1;have L1 := LV.mk0 hb (BX.ro r1 (by omega)) (kidsB_mono K1 fun q hq hp => by omega);go_wp2_with fail
  go_loopg [] f (fun g wx => ∃ (a : Ex) (xa : Option Addr) (xc : Nat) (s' : Pt), g <= f /\ 10 * rem tk s' + 1 <= g /\ Hid (pe tk g (10 + m) a s' = RES) /\ LV b w w1.heap.size a xa xc wx /\ PX b G tk E w s' wx)
  case atStart => exact ⟨t1, xa1, xc1, s1, Nat.le_refl _, by omega, HR1, L1, S1.al _⟩
  case round =>
   obtain ⟨a, xa, xc, s', hgf, hgr, hF, L, S2⟩ := hrel;have hl := L.lt;have hl2 := L.E.lt
   cases gk with
   | zero => omega
   | succ g =>
    have hF := hF.out;rw [hlp.out] at hF;have bt := bin_ops k tk s' (by rw [hk]; decide);obtain ⟨q, hq⟩ : ∃ q, binO tk s' k = q := ⟨_, rfl⟩;rw [hq] at hF;cases q
    all_goals
     go_wp2_with fail;refine al_c fun Y BY RY hY => ?_
    ·refine (p_bn k (S2.rel RY) BY (by omega) hq (by rw [hk]; rfl) (by rw [hk]; decide) (by rw [hk]; rfl)).mono ?_;rintro e w2 ⟨rfl, S3, r3⟩;replace r3 := (Ro.of (b := b) RY).trans r3;have L3 := L.ro r3;have k1 := L3.E.cs;have k2 := L3.B.cs;have f2 := L3.B.f;have l1 := L3.E.lt;have l2 := L3.B.lt;refine gw ?_;exact pe_ret hF.symm S3 L3.B L3.kk
    ·have hrem := (bin_beh hq).2;refine (p_by k (S2.rel RY) BY (by omega) hq (by rw [hk]; rfl) (by rw [hk]; decide) (by rw [hk]; rfl)).mono ?_;rintro e w2 ⟨rfl, S3, r3⟩;replace r3 := (Ro.of (b := b) RY).trans r3;have L3 := L.ro r3;rw [if_pos (by trivial)] at hF;generalize binT tk s' k = op at *;go_wp2_with fail;refine wrb [0, 1, 2] 4 6 L3.E (fun w3 h3 => ?_);refine ao 3 (fun w4 h4 K' hK' => ?_);have L4 := L3.rel (h3.trans h4);go_simp;refine ((HH.out g (by omega)).at c (S3.rel (h3.trans h4)) (by omega) hc hm.1).mono ?_;rintro e w5 ⟨t5, xa5, xc5, s5, p5, rfl, K5, S5, r5, b5⟩;rw [p5] at hF;have l4 := L4.E.lt;have L5 := L4.ro r5;have K5 := kidsB_mono (Q := fun q => w.heap.size < q /\ q ≠ w1.heap.size) K5 (fun q _ hq => by omega);refine hK'.out _ _ (fun _ => L5.E) ?_;clear hK' K';refine ao 4 (fun w6 h6 K' hK' => ?_);have L6 := L5.rel h6;have l6 := L6.E.lt;have TR := pair_tree (op := op) (T := 59) rfl (P := fun q => w.heap.size < q /\ q ≠ w1.heap.size) ⟨by omega, by omega⟩ bt L6.K (kidsB_rl K5 h6);go_simp;refine hK'.out _ _ (fun _ => (L6.al _).E) ?_;clear hK' K';refine ao 5 (fun w7 h7 K' hK' => ?_);go_simp;refine hK'.out _ _ (fun _ => ((L6.al _).rel h7).E) ?_;clear hK' K';refine ao 6 (fun w8 h8 K' hK' => ?_);have L8 := (L6.al _).rel (h7.trans h8);have S8 := ((S5.rel h6).al _).rel (h7.trans h8);have TR := kidsB_rl TR (h7.trans h8);have k1 := L8.E.cs;have f1 := L8.E.f;have l1 := L8.E.lt;go_simp;refine hK'.out _ _ mkd ?_;clear hK' K';refine ae (fun w9 h9 => ?_);go_wp2
     go_roundg g
     case rel => exact ⟨_, _, _, s5, by omega, by omega, Hj hF, (L8.six TR).rel h9, (S8.p6 (by omega) 0).rel h9⟩
     case measure => omega
end Go.Proofs.YthmlhheceihcbaaGreatDoor

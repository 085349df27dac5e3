/- Lemmas, each as it is printed; no conditions but those printed. -/
import Derived.Test.YthmlhheceihcbaaGreatDoorKB26
import Derived.Test.YthmlhheceihcbaaGreatDoorKB41
namespace Go.Proofs.YthmlhheceihcbaaGreatDoor
set_option maxHeartbeats 16000000
open Go.RowKit Cal Str Tok Frac Txt Tree Go.Proofs.Tryz
attribute [local go_sem] calmUpon
set_option linter.unusedVariables false
set_option linter.unusedSimpArgs false
def lawT : ByteArray := ⟨#[108, 97, 119]⟩
def StX (w : World) (e : Ending) (w' : World) : Prop := ∃ s : StaM, e = .returned s.val /\ StaB (fun q => w.heap.size <= q) w' s /\ Rel w w'
def raw0 : RawV := ⟨0, 0, 0, 0, .slice none 0 0, .slice none 0 0, .slice none 0 0, .slice none 0 0, .slice none 0 0, .slice none 0 0, 0, 0, 0, 0, 0, 0⟩
theorem raw0_in (w : World) : RawIn w raw0 :=
 have z : I64 0 := i64c
 have i : IntsIn w (.slice none 0 0) 0 := ⟨none, 0, rfl, Nat.zero_le _, fun h => absurd h (Nat.lt_irrefl 0)⟩
 have j : RowsIn w (.slice none 0 0) 0 := ⟨none, 0, rfl, Nat.zero_le _, fun h => absurd h (Nat.lt_irrefl 0)⟩
 ⟨z, z, z, z, i, i, j, j, j, j⟩
theorem res3 {fn : Func} {a : Act} {t : Tmp} {W : World} {g : Nat} {T : TypeId} {v0 v1 v2 : Value} (h : fn.results = #[.cell t 28]) (ht : a.tmps.getD t undef = .pointer (some ⟨g, 0, none⟩)) (B : Blk W g T [v0, v1, v2]) : (results fn a.tmps).run prog W = .ok (.agg #[v0, v1, v2]) W := by
 have k := B.cs;rw [Array.getD_eq_getD_getElem?] at ht;simp [results, h, ht, go_sem, k]
theorem pa_new {w wb W : World} {nm : ByteArray} {cur : Int} {m : VerM} {va : Option Addr} {vc : Nat} (h : PaS w wb W nm cur [] va vc) (hw : w.heap.size < wb.heap.size) (V : VerB (fun q => wb.heap.size <= q) W m) {c : Array Value} (hc : c.toList = verC m) : PaS w wb ((W.alloc (.cells c 48)).setCell ⟨w.heap.size, 2, none⟩ (.slice (some ⟨W.heap.size, 0, none⟩) 1 1)) nm cur [m] (some ⟨W.heap.size, 0, none⟩) 1 := by
 have r : Rel W (W.alloc (.cells c 48)) := (Rel.refl W).alloc _;have q : Ro w.heap.size (W.alloc (.cells c 48)) ((W.alloc (.cells c 48)).setCell ⟨w.heap.size, 2, none⟩ (.slice (some ⟨W.heap.size, 0, none⟩) 1 1)) := (Ro.refl _ _).set 2 _;refine ⟨Ro.rel (h.rel.trans r) q (Nat.le_refl _), Nat.le_trans h.up (Nat.le_trans r.size q.size), (h.x.rel r).set 2 _, ?_, fun m' hm => ?_⟩
 ·have o := World.ownsRow_lit (base := wb.heap.size) (e := 48) (size := 8) W c 1 h.up (by unfold maxLen; omega) (by rw [<- Array.length_toList, hc]; rfl);rw [hc] at o;exact own_set (by simpa using o) hw _ _
 ·simp at hm;subst hm;exact VerB.ro (VerB.rel (VerB.lt V (fun q hq hl => ⟨⟨hq, trivial⟩, fun a ha => by cases ha; simp only []; omega⟩)) r) q (fun k hk => by have := hk.1.1; omega)
theorem pa_q {P : Program} {cd : Code} {a : Act} {Q : Exit -> Act -> World -> Prop} {w wb W : World} {nm : ByteArray} {cur : Int} {m : VerM} {c : Array Value} {va : Option Addr} {vc : Nat} (h : PaS w wb W nm cur [] va vc) (hw : w.heap.size < wb.heap.size) (V : VerB (fun q => wb.heap.size <= q) W m) (k : ∀ Z, PaS w wb Z nm cur [m] (some ⟨W.heap.size, 0, none⟩) 1 -> cd.wp P Q a Z) (hc : c.toList = verC m := by rfl) : cd.wp P Q a ((W.setCell ⟨w.heap.size, 2, none⟩ (.slice (some ⟨W.heap.size, 0, none⟩) 1 1)).alloc (.cells c 48)) := by
 rw [<- World.setCell_alloc_past _ _ _ _ h.x.lt]; exact k _ (pa_new h hw V hc)
theorem st_ret {fn : Func} {a : Act} {tm : Tmp} {w X Y W : World} {T : TypeId} {l : List Value} {nm : ByteArray} {cu : Int} {L : List VerM} {va : Option Addr} {vc : Nat} (r : Rel w X) (hX : w.heap.size < X.heap.size) (hY : X.heap.size < Y.heap.size) (S : PaS X Y W nm cu L va vc) (B : Blk W w.heap.size T l) (hn : nm.size <= 140737488355328) (hc : I64 cu) (hL : L.length <= 100000) (hl : l.length = 3 := by rfl) (h : fn.results = #[.cell tm 28] := by rfl) (ht : a.tmps.getD tm undef = .pointer (some ⟨w.heap.size, 0, none⟩) := by rfl) (hd : a.defers = [] := by rfl) :
  bodyPost prog fn (StX w) .ret a (((W.setCell ⟨w.heap.size, 0, none⟩ (.string nm)).setCell ⟨w.heap.size, 1, none⟩ (.int .i64 cu)).setCell ⟨w.heap.size, 2, none⟩ (.slice va L.length vc)) := by
 have Q := (((Ro.refl w.heap.size W).set 0 (.string nm)).set 1 (.int .i64 cu)).set 2 (.slice va L.length vc)
 match l, hl, B with
 | [_, _, _], _, B =>
  exact bodyPost_ret (res3 h ht (((B.set 0 (.string nm)).set 1 (.int .i64 cu)).set 2 (.slice va L.length vc))) hd ⟨⟨nm, cu, L, va, vc⟩, rfl, ⟨hn, hc, hL, (own_rowB (own_rox S.own Q (by omega))).mono (fun q hq => by omega), fun m hm => VerB.mono (VerB.ro (S.ver m hm) Q (fun q hq => by have := hq.1.1; omega)) (fun q hq => by have := hq.1.1; omega)⟩, Ro.rel (r.trans S.rel) Q (Nat.le_refl _)⟩
set_option maxRecDepth 20000 in
theorem s_Statute {v : Value} {n : Nat} {rs : Nat -> RawV} {od : Int} (w : World) (hv : RawsIn w v n rs) (ho : I64 od) : Calls prog 6 #[v, .int .i64 od] w (StX w) := by
 unfold StX;obtain ⟨ad, cap, rfl, hn, hz⟩ := hv;have HZ := Hj hz;have P1 := Hj fun w => pick_any od 3 w ho.1 ho.2 (by decide) (by decide)
 obtain ⟨c0, c3⟩ := pick_bd (z := od) (n := 3) (by decide);generalize od % 3 = c at *;have wc : IntKind.i64.wrap (1 + c) = 1 + c := IntWalk.i64_in _ ⟨by omega, by omega⟩;clear hz;go_enter func6, ntmps6;go_wp2_with fail;refine (P1.out _).mono ?_;rintro e w1 ⟨rfl, rfl⟩;go_upto_block 0 with fail;refine al_q fun Y BY RY hY => ?_
 have B0 := Blk.new w 28 #[.string ⟨#[]⟩, .int .i64 0, .slice none 0 0];have R0 := (Rel.refl w).alloc (.cells #[.string ⟨#[]⟩, .int .i64 0, .slice none 0 0] 28);have h0 : (w.alloc (.cells #[.string ⟨#[]⟩, .int .i64 0, .slice none 0 0] 28)).heap.size = w.heap.size + 1 := World.size_alloc ..;generalize w.alloc (.cells #[.string ⟨#[]⟩, .int .i64 0, .slice none 0 0] 28) = X at *;have S0 : PaS X Y Y lawT (1 + c) [] none 0 := ⟨RY, Nat.le_refl _, BY, World.ownsRow_nil _ _ _ _, fun m hm => by cases hm⟩;have hXY : X.heap.size < Y.heap.size := by omega
 have hX : w.heap.size < X.heap.size := by omega
 rw [<- h0];clear BY RY hY h0 P1 wc
 go_cut [6, 7, 8] from 13 to 44 (fun s6 s7 s8 wx => ∃ (L : List VerM) (va : Option Addr) (vc : Nat), L.length <= 3 /\ PaS X Y wx lawT (1 + c) L va vc)
 case first =>
  go_wp2_with fail
  go_loopw [6] (fun i wx => ∃ (L : List VerM) (va : Option Addr) (vc : Nat), i = .int .i64 L.length /\ L.length <= 3 /\ PaS X Y wx lawT (1 + c) L va vc) (fun i _ => 3 - (intOf i).toNat)
  case atStart => exact ⟨[], none, 0, rfl, by simp, S0⟩
  case round =>
   obtain ⟨L, va, vc, rfl, hL, hS⟩ := hrel;by_cases e1 : L.length < n /\ L.length < 3
   ·obtain ⟨e1, e2⟩ := e1;obtain ⟨g, off, rfl, hg, hz⟩ := HZ.out (by omega);obtain ⟨hR, hc⟩ := hz L.length e1;have rr := R0.trans hS.rel;have q : ∀ j u, (rs L.length).vals[j]? = some u -> wr.cell? ⟨g, off + L.length * 10 + j, none⟩ = some u := fun j u h => rr.cell (hc j u h)
    have q0 := q 0 _ rfl;have q1 := q 1 _ rfl;have q2 := q 2 _ rfl;have q3 := q 3 _ rfl;have q4 := q 4 _ rfl;have q5 := q 5 _ rfl;have q6 := q 6 _ rfl;have q7 := q 7 _ rfl;have q8 := q 8 _ rfl;have q9 := q 9 _ rfl;rw [Nat.add_zero] at q0;have d1 : decide ((L.length : Int) < (n : Int)) = true := by simp; omega
    have d2 : decide ((L.length : Int) < 3) = true := by simp; omega
    have HR := Hj hR;clear q hc hz hR;go_wp2_with fail;refine (s_Of (rs L.length) wr (HR.out.rel rr)).mono ?_;unfold OfX;rintro e w5 ⟨m, rfl, VB, h5⟩;unfold VerM.val;have S5 := hS.on h5;have V5 := VerB.mono (Q := fun q => (Y.heap.size <= q /\ True) /\ OffB va q) VB (fun q hq => ⟨⟨Nat.le_trans hS.up hq, trivial⟩, offB_own hS.own hq⟩);have o2 := S5.x.c (j := 2) rfl;have ol := S5.x.lt;have wm : IntKind.i64.wrap ((L.length : Int) * 24349) = (L.length : Int) * 24349 := IntWalk.i64_in _ ⟨by omega, by omega⟩
    have ft : -3074457345618258603 <= m.frm.tdiv 3 /\ m.frm.tdiv 3 <= 3074457345618258603 := by
     obtain ⟨f0, f1⟩ := V5.i0;by_cases h : 0 <= m.frm
     ·rw [Int.tdiv_eq_ediv_of_nonneg h]; omega
     ·have : m.frm.tdiv 3 = -((-m.frm).tdiv 3) := by rw [Int.neg_tdiv, Int.neg_neg]
      rw [this, Int.tdiv_eq_ediv_of_nonneg (by omega)]; omega
    have w3 : IntKind.i64.wrap (m.frm.tdiv 3) = m.frm.tdiv 3 := IntWalk.i64_in _ ⟨by omega, by omega⟩;have wF : IntKind.i64.wrap (m.frm.tdiv 3 + (L.length : Int) * 24349) = m.frm.tdiv 3 + (L.length : Int) * 24349 := IntWalk.i64_in _ ⟨by omega, by omega⟩;clear q0 q1 q2 q3 q4 q5 q6 q7 q8 q9 VB
    cases e5 : (od.tmod 5 != 0)
    all_goals
     go_wp2_with (at_builtin; refine wl_app ti_ver ((S5.on ((Rel.refl _).alloc _)).on ((Rel.refl _).alloc _)).own rfl (by omega) (by have := S5.up; simp; omega) ?_)
     intro g2 c2 w8 own grow hat
     first
      | have S8 := ((S5.on ((Rel.refl _).alloc _)).on ((Rel.refl _).alloc _)).app (m := m) hXY (VerB.rel (VerB.rel V5 ((Rel.refl _).alloc _)) ((Rel.refl _).alloc _)) own grow hat (by simp) (Rel.refl w8)
      | have S8 := ((S5.on ((Rel.refl _).alloc _)).on ((Rel.refl _).alloc _)).app (m := { m with frm := m.frm.tdiv 3 + (L.length : Int) * 24349 }) hXY (VerB.frm (VerB.rel (VerB.rel V5 ((Rel.refl _).alloc _)) ((Rel.refl _).alloc _)) ⟨by omega, by omega⟩) own grow hat (by simp) (Rel.refl w8)
     have O8 := ((S5.on ((Rel.refl _).alloc _)).on ((Rel.refl _).alloc _)).x.grown grow (fun e => by have := (S5.own.lt _ e.symm).1; omega);have k0 := O8.c (j := 2) rfl;have k1 := O8.f 2;have k2 := O8.lt;clear own grow hat o2;go_wp2
     go_roundw
     case rel => exact ⟨_, _, _, by rw [List.length_append]; go_num, by rw [List.length_append]; exact e2, S8⟩
     case measure => simp [intOf]; omega
   ·by_cases e0 : L.length < n
    ·have d1 : decide ((L.length : Int) < (n : Int)) = true := by simp; omega
     have d2 : decide ((L.length : Int) < 3) = false := by simp; omega
     go_wp2
     go_meet
     case rel => exact ⟨L, va, vc, hL, hS⟩
    ·have d1 : decide ((L.length : Int) < (n : Int)) = false := by simp; omega
     go_wp2
     go_meet
     case rel => exact ⟨L, va, vc, hL, hS⟩
 case rest =>
  obtain ⟨L, va, vc, hL, hS⟩ := hcut;have o2 := hS.x.c (j := 2) rfl;have ol := hS.x.lt;clear S0
  rcases L with _ | ⟨m0, L⟩
  focus
   go_wp2_with fail;refine (s_Of raw0 wc (raw0_in wc)).mono ?_;unfold OfX;rintro e w5 ⟨m, rfl, VB, h5⟩;unfold VerM.val;have S5 := hS.on h5;have V5 := VerB.mono (Q := fun q => Y.heap.size <= q) VB (fun q hq => Nat.le_trans hS.up hq);have o5 := S5.x.c (j := 2) rfl;have f5 := S5.x.f 2;have l5 := S5.x.lt;clear o2 ol;go_upto_region 12 with (fail);refine pa_q S5 hXY V5 fun Z SZ => ?_
   clear o5 f5 l5
  rotate_left
  focus
   have SZ := hS;have d0 : ((L.length : Int) + 1 == 0) = false := by rw [zn]; omega
   go_upto_region 12 with (fail);clear o2 ol
  all_goals
   have kk := SZ.x.cs;have kl := SZ.x.lt;have BZ := B0.rel SZ.rel;have rk := BZ.cs;have rf := BZ.f;have rl := BZ.lt;refine gw ?_;exact st_ret R0 hX hXY SZ BZ (by decide) ⟨by omega, by omega⟩ (by first | omega | simp)
end Go.Proofs.YthmlhheceihcbaaGreatDoor

/- Lemmas, each as it is printed; no conditions but those printed. -/
import Derived.Deep.AppendLies
import Derived.Test.YtojghojlapgbiaaGreatDoorWB29
import Derived.Test.YtojghojlapgbiaaGreatDoorWB30
import Derived.Test.YtojghojlapgbiaaGreatDoorWB41
import Derived.Test.YtojghojlapgbiaaGreatDoorWB39
import Derived.Test.YtojghojlapgbiaaGreatDoorWB38
namespace Go.Proofs.YtojghojlapgbiaaGreatDoor
set_option maxHeartbeats 16000000
open Go.RowKit Cal Str Tok Frac Txt Tree
set_option linter.unusedVariables false
set_option linter.unusedSimpArgs false
theorem run_app0 {P : Program} (w : World) (t ty e : TypeId) (i : TypeInfo) (ht : P.underlying t = some (.slice e)) (hi : P.info? e = some i) (ad : Option Addr) (c : Nat) : (Builtin.append_ #[t, t] ty #[.slice none 0 0, .slice ad 0 c]).run P w = .ok (.slice none 0 0) w := by
 cases ad with
 | none => simp [Builtin.append_, run_underlying ht, sizeOf, typeInfo, hi, Builtin.lenOf, Builtin.firstCells]
 | some a =>
  have hf := run_firstCells_some (P := P) w i.size 0 a 0 c [] (by simp) (by simp);simp [Builtin.append_, run_underlying ht, sizeOf, typeInfo, hi, Builtin.lenOf, hf]
theorem rel_grown0 {w w' : World} (h : w.grownBy w' none) : Rel w w' := ⟨h.os, h.tape, h.output, h.size, fun k hk => h.block k hk (by simp)⟩
theorem wp_app_copy {P : Program} {w : World} {o : Oper} {a : Act} {K : Act → World → Prop} {Q : Exit → Act → World → Prop} (s x : Operand) (t : TypeId)
  (ho : o.op = .call { callee := .builtin .append, args := #[s, x], argTypes := #[t, t] })
  (base : Nat) (e : TypeId) (i : TypeInfo) (z : Value) (size bytes : Nat) (ht : P.underlying t = some (.slice e)) (hi : P.info? e = some i) (hz : i.zero = some z)
  (hsize : i.size = size) (hby : i.bytes = bytes) (hzs : z.cells.size = size) (hsz : 0 < size)
  (hs : a.eval s = .slice none 0 0) (ad : Option Addr) (m c : Nat) (news : List Value) (hx : a.eval x = .slice ad m c) (hl : news.length = m * size)
  (hnews : 0 < m → ∃ g off, ad = some ⟨g, off, none⟩ ∧ ∀ j u, news[j]? = some u → w.cell? ⟨g, off + j, none⟩ = some u) (h1 : ∀ u ∈ news, u.oneCell' = true)
  (h63 : m ≤ maxLen) (hbytes : m * bytes ≤ 140737488355328) (hbase : base ≤ w.heap.size)
  (h : ∀ ra rc w', w'.ownsRow base e size (.slice ra m rc) m news → Rel w w' → K (a.put o.dst (.slice ra m rc)) w') : o.wp P a w K Q := by
 by_cases hm : m = 0
 ·subst hm;have hn : news = [] := by cases news with | nil => rfl | cons a b => simp at hl
  subst hn;have hr := run_app0 (P := P) w t o.type e i ht hi ad c;unfold Oper.wp execOp;simp only [ho, resolve, invoke, builtin, Sem.run_bind, Sem.run_pure, Result.andThen_ok, List.map_toArray, List.map_cons, List.map_nil, hs, hx, hr];exact h none 0 w (World.ownsRow_nil _ _ _ _) (Rel.refl w)
 ·obtain ⟨g, off, rfl, hc⟩ := hnews (by omega);refine wp_append_lies w s x t ho base e i z size bytes ht hi hz hsize hby hzs hsz (.slice none 0 0) 0 [] hs (World.ownsRow_nil _ _ _ _) ⟨g, off, none⟩ m c news hx hl (fun j u hu => ?_) h1 (by omega) (by omega) (by rw [Nat.zero_add]; exact hbytes) hbase _ rfl ?_
  ·have hadd : (⟨g, off, none⟩ : Addr).add j = ⟨g, off + j, none⟩ := by unfold Addr.add; split <;> simp_all
   rw [hadd]; exact hc j u hu
  ·intro g2 cap w' h2 h3 h4 h5;rw [Nat.zero_add, List.nil_append] at h2;rw [Nat.zero_add];exact h _ _ w' h2 (rel_grown0 h3)
/-! The first version of a statute -/
theorem own_first {w : World} {base n cap : Nat} {T : TypeId} {ad : Option Addr} {m : VerM} {L : List VerM} (h : w.ownsRow base T 8 (.slice ad n cap) n ((m :: L).flatMap verC)) (hn : 0 < n) : ∃ g, ad = some ⟨g, 0, none⟩ ∧ base ≤ g ∧ g < w.heap.size ∧ (∀ j u, (verC m)[j]? = some u → w.cell? ⟨g, j, none⟩ = some u) ∧ ∀ j, w.frozen? ⟨g, j, none⟩ = false := by
 rcases h.2 with ⟨h1, h2⟩ | ⟨g, c, cur, e, hg, hb, hc, hm, hs, ht⟩
 ·omega
 ·simp only [Value.slice.injEq] at e;obtain ⟨rfl, -, rfl⟩ := e
  have hl : g < w.heap.size := by
   rcases Nat.lt_or_ge g w.heap.size with hlt | hge
   ·exact hlt
   ·rw [Array.getElem?_eq_none hge] at hb; cases hb
  refine ⟨g, rfl, hg, hl, fun j u hu => ?_, fun j => frozen_of_row w g j cur T hb⟩;have hj : j < 8 := by rw [← verC_len m]; exact (List.getElem?_eq_some_iff.1 hu).1
  have h2 := h.cells (g := g) rfl j u (by rw [List.flatMap_cons, List.getElem?_append_left (by rw [verC_len]; exact hj)]; exact hu)
  have hadd : (⟨g, 0, none⟩ : Addr).add j = ⟨g, j, none⟩ := by unfold Addr.add; split <;> simp_all
  rwa [hadd] at h2
theorem put_first {base n cap g j : Nat} {W : World} {m m' : VerM} {L : List VerM} {nm : ByteArray} {cur : Int} {T : TypeId} {u : Value} (hO : W.ownsRow base T 8 (.slice (some ⟨g, 0, none⟩) n cap) n ((m :: L).flatMap verC)) (hn : (m :: L).length = n) (hn3 : n ≤ 3) (hnm : nm.size ≤ 140737488355328) (hcur : I64 cur)
  (hv : ∀ x ∈ L, VerB (fun q => (base ≤ q ∧ True) ∧ OffB (some ⟨g, 0, none⟩) q) W x) (hj : j < 8) (hset : (verC m).set j u = verC m') (hm' : VerB (fun q => q ≠ g) W m') : StaAt (W.setCell ⟨g, j, none⟩ u) ⟨nm, cur, m' :: L, some ⟨g, 0, none⟩, cap⟩ := by
 have r : Ro g W (W.setCell ⟨g, j, none⟩ u) := (Ro.refl g W).set j u;refine ⟨hnm, hcur, by show (m' :: L).length ≤ 100000; simp at hn ⊢; omega, ?_, fun x hx => ?_⟩
 ·have h1 := (own_rowB hO).put (j := j) (by rw [List.flatMap_cons, List.length_append, verC_len]; omega) u;rw [List.flatMap_cons, List.set_append_left _ _ (by rw [verC_len]; exact hj), hset, Nat.zero_add] at h1;exact h1.mono (fun _ _ => trivial)
 ·rcases List.mem_cons.1 hx with rfl | hx
  ·exact (VerB.ro hm' r (fun q hq => hq)).mono (fun _ _ => trivial)
  ·exact (VerB.ro (hv x hx) r (fun q hq => hq.2 _ rfl)).mono (fun _ _ => trivial)
end Go.Proofs.YtojghojlapgbiaaGreatDoor
namespace Go.Proofs.YtojghojlapgbiaaGreatDoor
set_option maxHeartbeats 16000000
open Go.RowKit Cal Str Tok Frac Txt Tree
attribute [local go_sem] calmUpon
set_option linter.unusedVariables false
set_option linter.unusedSimpArgs false
theorem sv_of {w W : World} {s : StaM} (hn : s.nm = lawS) (hi : 1 ≤ s.cur ∧ s.cur ≤ 3) (hl : s.vs.length ≤ 3) (hO : W.ownsRow w.heap.size 36 8 (.slice s.ad s.vs.length s.cap) s.vs.length (s.vs.flatMap verC)) (hX : ∀ m ∈ s.vs, VerB (fun q => (w.heap.size ≤ q ∧ True) ∧ OffB s.ad q) W m) : StaAt W s :=
 ⟨by rw [hn]; decide, ⟨by omega, by omega⟩, by omega, (own_rowB hO).mono (fun _ _ => trivial), fun m hm => (hX m hm).mono (fun _ _ => trivial)⟩
theorem sv_box {w1 X : World} {s : StaM} {j : Nat} {u : Value} (h : StaAt w1 s) (r : Rel w1 X) : StaAt (X.setCell ⟨w1.heap.size, j, none⟩ u) s :=
 StaB.keep h (by rw [World.size_setCell]; exact Below.size r) (fun q hq hp => ⟨(Below.heap_setCell _ _ _ _ (by show q ≠ w1.heap.size; omega)).trans (Below.block r q hq), hp⟩)
theorem td_bd12 {a : Int} (h : -9223372036854775808 ≤ a ∧ a ≤ 9223372036854775807) : -9223372036854775808 ≤ a.tdiv 12 ∧ a.tdiv 12 ≤ 9223372036854775807 := by
 rcases Int.le_total 0 a with h0 | h0
 ·rw [Int.tdiv_eq_ediv_of_nonneg h0]; omega
 ·obtain ⟨b, rfl⟩ : ∃ b, a = -b := ⟨-a, by omega⟩;rw [Int.neg_tdiv, Int.tdiv_eq_ediv_of_nonneg (by omega)]; omega
theorem td_bd7 {a : Int} (h : -9223372036854775808 ≤ a ∧ a ≤ 9223372036854775807) : -9223372036854775808 ≤ a.tdiv 7 ∧ a.tdiv 7 ≤ 9223372036854775807 := by
 rcases Int.le_total 0 a with h0 | h0
 ·rw [Int.tdiv_eq_ediv_of_nonneg h0]; omega
 ·obtain ⟨b, rfl⟩ : ∃ b, a = -b := ⟨-a, by omega⟩;rw [Int.neg_tdiv, Int.tdiv_eq_ediv_of_nonneg (by omega)]; omega
theorem VerB.appC {P : Nat → Prop} {W : World} {m : VerM} {base T g2 cap2 : Nat} {x : Int × Int} (h : VerB P W m) (hn : m.cr.length ≤ 99999) (hO : W.ownsRow base T 2 (.slice (some ⟨g2, 0, none⟩) (m.cr.length + 1) cap2) (m.cr.length + 1) (m.cr.flatMap crC ++ crC x)) (hb : ∀ q, base ≤ q → P q) (hx : I64 x.1 ∧ I64 x.2) : VerB P W { m with cr := m.cr ++ [x], ca := some ⟨g2, 0, none⟩, cc := cap2 } :=
 { h with
  n0 := by show (m.cr ++ [x]).length ≤ _; rw [List.length_append]; show m.cr.length + 1 ≤ _; omega
  r0 := by show RowB _ _ _ ((m.cr ++ [x]).flatMap crC); rw [flat_snoc]; exact (own_rowB hO).mono (fun q hq => hb q hq.1)
  b0 := fun p hp => by rcases List.mem_append.1 hp with h1 | h1; exact h.b0 p h1; simp at h1; subst h1; exact hx
  q0 := by show (m.cr ++ [x]).length ≤ _; rw [List.length_append]; exact own_cap2 hO }
theorem VerB.appS {P : Nat → Prop} {W : World} {m : VerM} {base T g2 cap2 : Nat} {x : Int × Int × Int} (h : VerB P W m) (hn : m.se.length ≤ 99999) (hO : W.ownsRow base T 3 (.slice (some ⟨g2, 0, none⟩) (m.se.length + 1) cap2) (m.se.length + 1) (m.se.flatMap seC ++ seC x)) (hb : ∀ q, base ≤ q → P q) (hx : I64 x.1 ∧ I64 x.2.1 ∧ I64 x.2.2) : VerB P W { m with se := m.se ++ [x], sa := some ⟨g2, 0, none⟩, sc := cap2 } :=
 { h with
  n1 := by show (m.se ++ [x]).length ≤ _; rw [List.length_append]; show m.se.length + 1 ≤ _; omega
  r1 := by show RowB _ _ _ ((m.se ++ [x]).flatMap seC); rw [flat_snoc]; exact (own_rowB hO).mono (fun q hq => hb q hq.1)
  b1 := fun p hp => by rcases List.mem_append.1 hp with h1 | h1; exact h.b1 p h1; simp at h1; subst h1; exact hx
  q1 := by show (m.se ++ [x]).length ≤ _; rw [List.length_append]; exact own_cap2 hO }
set_option maxRecDepth 20000 in
theorem walk_StatuteValid (w : World) (ht : TabW w) (a0 : Value) (n0 : Nat) (r0 : Nat → RawV) (a1 : Int) (a2 : ByteArray) (a3 : Int) (b0 : RawsIn w a0 n0 r0) (b1 : -9223372036854775808 ≤ a1) (c1 : a1 ≤ 9223372036854775807) (b2 : a2.size ≤ 140737488355328) (b3 : -9223372036854775808 ≤ a3) (c3 : a3 ≤ 9223372036854775807) :
  Calls Tryz.prog 3 #[a0, .int .i64 a1, .string a2, .int .i64 a3] w (BRes true w) := by
 have HT := Hj ht;have HB := Hj b0;obtain ⟨va, vcap, rfl, hn, -⟩ := raws_fun b0;clear ht b0;unfold BRes;have ST := Hj (Statute_any _ n0 r0 a1 w HB.out b1 c1);unfold StRes at ST;by_cases h4 : 4 < n0
 ·have e4 : decide ((4 : Int) < (n0 : Int)) = true := dT (by omega);go_enter Tryz.func3, Tryz.ntmps3;go_wp2;go_ret;exact ⟨rfl, Rel.refl _⟩
 ·have e4 : decide ((4 : Int) < (n0 : Int)) = false := dF (by omega);obtain ⟨y, hy, y0, y12⟩ : ∃ z, a3 % 12 = z ∧ 0 ≤ z ∧ z < 12 := ⟨_, rfl, by omega, by omega⟩;have P1 := Hj fun w => pick_any a3 12 w b3 c3 (by decide) (by decide)
  rw [hy] at P1;clear hy;go_enter Tryz.func3, Tryz.ntmps3;go_wp2_with fail;refine ST.out.mono ?_;rintro e w1 ⟨s, rfl, hO, hX, h1, ⟨hl1, hl⟩, hnm, hcu⟩;obtain ⟨nm, cur, vs, ad, cap⟩ := s;dsimp only at hO hX hl1 hl hnm hcu;subst hnm
  obtain ⟨m, L, rfl⟩ : ∃ m L, vs = m :: L := by
   cases vs with
   | nil => simp at hl1
   | cons m L => exact ⟨m, L, rfl⟩
  have SA : Hid (StaAt w1 ⟨lawS, cur, m :: L, ad, cap⟩) := sv_of rfl hcu hl hO (fun m hm => (hX m hm).1);obtain ⟨nv, hnv⟩ : ∃ n, (m :: L).length = n := ⟨_, rfl⟩;unfold StaM.val;dsimp only;rw [hnv] at hl hl1 hO ⊢;obtain ⟨g, had, hg0, hgl, hgc, hgf⟩ := own_first hO (by omega);subst had;have HO := Hj hO;have HX := Hj hX;have HXB := Hj fun x hx => (hX x hx).1
  have R1 := Hj h1;have HNV := Hj hnv;have HGC := Hj hgc;have HGF := Hj hgf;clear hO hX h1 hnv hgc hgf ST;obtain ⟨X, hXe⟩ : ∃ X, w1.alloc (.cells #[.string lawS, .int .i64 cur, .slice (some ⟨g, 0, none⟩) nv cap] 25) = X := ⟨_, rfl⟩;have RX : Hid (Rel w1 X) := by show Rel _ _; rw [← hXe]; exact (Rel.refl w1).alloc _
  have BX : Hid (Blk X w1.heap.size 25 [.string lawS, .int .i64 cur, .slice (some ⟨g, 0, none⟩) nv cap]) := by show Blk _ _ _ _; rw [← hXe]; exact Blk.new w1 _ #[.string lawS, .int .i64 cur, .slice (some ⟨g, 0, none⟩) nv cap]
  have hw1 := R1.out.size;go_wp2_with fail;refine (P1.out _).mono ?_;rintro e w2 ⟨rfl, rfl⟩;clear hXe P1;go_upto_block 0 with fail
  go_cut [18] from 19 to 89 (fun q wx => q = .int .i64 y ∧ ∃ t : StaM, Hid (Blk wx w1.heap.size 25 [.string t.nm, .int .i64 t.cur, .slice t.ad t.vs.length t.cap]) ∧ Hid (StaAt wx t) ∧ Hid (Rel w wx))
  case first =>
   have q0 := BX.out.c (j := 0) rfl;have q1 := BX.out.c (j := 1) rfl;have q2 := BX.out.c (j := 2) rfl;have f0 := BX.out.f 0;have f1 := BX.out.f 1;have f2 := BX.out.f 2;have xl := BX.out.lt;have ni : (0 : Int) < (nv : Int) := by omega
   have nn : 0 < nv := by omega
   have d0 := RX.out.cell (HGC.out 0 _ rfl);have d2 := RX.out.cell (HGC.out 2 _ rfl);have d3 := RX.out.cell (HGC.out 3 _ rfl);have d4 := RX.out.cell (HGC.out 4 _ rfl);have fz0 := RX.out.frozen hgl (HGF.out 0);have fz2 := RX.out.frozen hgl (HGF.out 2);have fz3 := RX.out.frozen hgl (HGF.out 3);have fz4 := RX.out.frozen hgl (HGF.out 4);have gl := RX.out.lt hgl;have HM := Hj (HXB.out m (List.mem_cons_self ..));have hy7 : y = 0 ∨ y = 1 ∨ y = 2 ∨ y = 3 ∨ y = 4 ∨ y = 5 ∨ y = 6 ∨ 7 ≤ y := by omega
   rcases hy7 with rfl | rfl | rfl | rfl | rfl | rfl | rfl | h7
   ·skip
    go_wp2_with fail
    go_meet
    case rel =>
     refine ⟨rfl, ⟨a2, cur, m :: L, some ⟨g, 0, none⟩, cap⟩, ?_, ?_, ?_⟩
     ·show Blk _ _ _ [.string a2, .int .i64 cur, .slice (some ⟨g, 0, none⟩) (m :: L).length cap]
      rw [HNV.out]; exact BX.out.set 0 _
     ·show StaAt _ _
      have h := sv_box (j := 0) (u := .string a2) SA.out RX.out;exact { h with n := b2 }
     ·show Rel _ _
      exact (R1.out.trans RX.out).setCell (p := ⟨w1.heap.size, 0, none⟩) hw1 _
   ·skip
    go_wp2_with fail
    go_meet
    case rel =>
     refine ⟨rfl, ⟨lawS, a3, m :: L, some ⟨g, 0, none⟩, cap⟩, ?_, ?_, ?_⟩
     ·show Blk _ _ _ [.string lawS, .int .i64 a3, .slice (some ⟨g, 0, none⟩) (m :: L).length cap]
      rw [HNV.out]; exact BX.out.set 1 _
     ·show StaAt _ _
      have h := sv_box (j := 1) (u := .int .i64 a3) SA.out RX.out;exact { h with i := ⟨b3, c3⟩ }
     ·show Rel _ _
      exact (R1.out.trans RX.out).setCell (p := ⟨w1.heap.size, 1, none⟩) hw1 _
   ·skip
    go_wp2_with fail
    go_meet
    case rel =>
     refine ⟨rfl, ⟨lawS, cur, { m with frm := a3 } :: L, some ⟨g, 0, none⟩, cap⟩, ?_, ?_, ?_⟩
     ·show Blk _ _ _ [.string lawS, .int .i64 cur, .slice (some ⟨g, 0, none⟩) (m :: L).length cap]
      rw [HNV.out]; exact BX.out.other (by omega) 0 _
     ·show StaAt _ _
      have h := (HM.out.rel RX.out).mono (fun q hq => hq.2 ⟨g, 0, none⟩ rfl);exact put_first (own_rel' HO.out RX.out) HNV.out hl (by decide) ⟨by omega, by omega⟩ (fun x hx => (HXB.out x (List.mem_cons_of_mem _ hx)).rel RX.out) (by decide) rfl (h.frm ⟨b3, c3⟩)
     ·show Rel _ _
      exact (R1.out.trans RX.out).setCell (p := ⟨g, 0, none⟩) hg0 _
   ·skip
    go_wp2_with fail
    go_meet
    case rel =>
     refine ⟨rfl, ⟨lawS, cur, { m with unit := a3 } :: L, some ⟨g, 0, none⟩, cap⟩, ?_, ?_, ?_⟩
     ·show Blk _ _ _ [.string lawS, .int .i64 cur, .slice (some ⟨g, 0, none⟩) (m :: L).length cap]
      rw [HNV.out]; exact BX.out.other (by omega) 2 _
     ·show StaAt _ _
      have h := (HM.out.rel RX.out).mono (fun q hq => hq.2 ⟨g, 0, none⟩ rfl);exact put_first (own_rel' HO.out RX.out) HNV.out hl (by decide) ⟨by omega, by omega⟩ (fun x hx => (HXB.out x (List.mem_cons_of_mem _ hx)).rel RX.out) (by decide) rfl ({ h with i2 := ⟨b3, c3⟩ })
     ·show Rel _ _
      exact (R1.out.trans RX.out).setCell (p := ⟨g, 2, none⟩) hg0 _
   ·skip
    obtain ⟨k, hk⟩ : ∃ z, a3.tdiv 12 = z := ⟨_, rfl⟩;have hk0 : -9223372036854775808 ≤ k ∧ k ≤ 9223372036854775807 := by rw [← hk]; exact td_bd12 ⟨b3, c3⟩
    have wk : IntKind.i64.wrap k = k := IntWalk.i64_in _ hk0;obtain ⟨u, hu, u0, u1⟩ : ∃ z, k % 16 = z ∧ 0 ≤ z ∧ z < 16 := ⟨_, rfl, by omega, by omega⟩;have PK := Hj fun w => pick_any k 16 w hk0.1 hk0.2 (by decide) (by decide)
    rw [hu] at PK;clear hu;have hxi : Hid (I64 ((u, a3) : Int × Int).1 ∧ I64 ((u, a3) : Int × Int).2) := ⟨⟨by show _ ≤ u; omega, by show u ≤ _; omega⟩, ⟨b3, c3⟩⟩;have hXn := (HX.out m (List.mem_cons_self ..)).2;have HLN : Hid (m.cr.length ≤ 99999) := (hXn.1);have hln := HLN.out;have hi3 : (Tryz.prog.info? 38).map (fun i => (i.zero, i.size, i.bytes)) = some (some (.agg #[.int .i64 0, .int .i64 0]), 2, 16) := by kernel_rfl
    obtain ⟨ix, hi, hxx⟩ := Option.map_eq_some_iff.1 hi3;simp only [Prod.mk.injEq] at hxx;obtain ⟨hz0, hz1, hz2⟩ := hxx;have HI := Hj hi;have HZ0 := Hj hz0;have HZ1 := Hj hz1;have HZ2 := Hj hz2;clear hi3 hi hz0 hz1 hz2;go_wp2_with fail;refine wp_region_calm (fun M w' => M.getD 17 false = false → Rel X w') (fun i => i == 17) [0, 1, 2, 3, 4, 5, 6, 8, 9, 11] 8 (by kernel_rfl) (by kernel_rfl) ?hst ?hS0 (fun w0 h0 => ?_)
    case hst => exact fun _ _ _ h r hM => (h hM).trans r
    case hS0 => exact fun _ => Rel.refl _
    iterate 10
     refine wpCalm_go rfl (by kernel_rfl) (fun K hK => ?_);apply Exists.intro;refine ⟨fun M w hM hS => ?_, hK _ ?_⟩
     ·have hS := hS (hM 17 (by kernel_rfl));have s0 := hS.cell q2;have s1 := hS.cell d3;unfold calmAt;go_simp;exact ⟨rfl, Rel.refl _⟩
     clear hK K
    refine wpCalm_nil ?_;simp only [Act.put, zla, zlb, zlc];have RX0 : Hid (Rel X w0) := h0;clear h0;refine wpAnyR_ready (rs := [7]) (by kernel_rfl) (by simp) (AllR.cons rfl (fun w7 h7 K' hK' => ?_) AllR.nil);have R7 : Hid (Rel X w7) := RX0.out.trans h7;clear h7;rw [if_pos (by kernel_rfl)];refine wp_app_copy (.const (.slice none 0 0)) (.tmp 50) 30 rfl X.heap.size 38 ix (.agg #[.int .i64 0, .int .i64 0]) 2 16 Tryz.underlying30 HI.out HZ0.out HZ1.out HZ2.out rfl (by decide) rfl m.ca m.cr.length m.cc (m.cr.flatMap crC) rfl (flat_len crC_len _) ?c1 ?c2 ?c3 ?c4 R7.out.size ?_
    case c1 =>
     intro h;obtain ⟨g', off', e, -, -, hc⟩ := HM.out.r0 (flat_pos crC_len (by decide) h);exact ⟨g', off', e, fun j u hu => (RX.out.trans R7.out).cell (hc j u hu)⟩
    case c2 => intro u hu; obtain ⟨p, -, hp⟩ := List.mem_flatMap.1 hu; simp [crC] at hp; rcases hp with rfl | rfl <;> rfl
    case c3 => unfold maxLen; omega
    case c4 => omega
    intro ra rc w8 hown hrel;have R8 : Hid (Rel X w8) := R7.out.trans hrel;have O8 := Hj hown;clear hown hrel;refine hK'.out _ _ (fun _ => R8.out) ?_;clear hK' K';refine wpAnyR_more [10, 12] 5 (by kernel_rfl) (fun _ _ _ h r hM => (h hM).trans r) (fun _ => R8.out) ?_;refine wpCalm_go rfl (by kernel_rfl) (fun K hK => ?_);apply Exists.intro;refine ⟨fun M w hM hS => ?_, hK _ ?_⟩
    ·unfold calmAt;go_simp
     with_reducible refine (PK.out _).mono ?_
     rintro e w1 ⟨rfl, rfl⟩;exact ⟨rfl, Rel.refl _⟩
    clear hK K
    iterate 1
     refine wpCalm_go rfl (by kernel_rfl) (fun K hK => ?_);apply Exists.intro;refine ⟨fun M w hM hS => ?_, hK _ ?_⟩
     ·unfold calmAt;go_simp;exact ⟨rfl, Rel.refl _⟩
     clear hK K
    refine wpCalm_nil ?_;simp only [Act.put, zla, zlb, zlc];refine wpAnyR_ready (rs := [13]) (by kernel_rfl) (by simp) (AllR.cons rfl (fun w9 h9 K' hK' => ?_) AllR.nil);have R9 : Hid (Rel X w9) := R8.out.trans h9;have O9 := Hj (own_rel' O8.out h9);clear h9;go_simp;refine hK'.out _ _ (fun _ => R9.out.alloc _) ?_;clear hK' K';refine wpAnyR_ready (rs := [14]) (by kernel_rfl) (by simp) (AllR.cons rfl (fun w10 h10 K' hK' => ?_) AllR.nil);have R10 : Hid (Rel X w10) := (R9.out.alloc _).trans h10;have O10 := Hj (own_rel' O9.out (((Rel.refl w9).alloc _).trans h10));have N10 := Hj (fun j uu h => h10.cell (new_cells2 w9 #[.int .i64 u, .int .i64 a3] 38 rfl j uu h));clear h10;rw [if_pos (by kernel_rfl)];refine wp_append_lies w10 (.tmp 51) (.tmp 57) 30 rfl X.heap.size 38 ix (.agg #[.int .i64 0, .int .i64 0]) 2 16 Tryz.underlying30 HI.out HZ0.out HZ1.out HZ2.out rfl (by decide) (.slice ra m.cr.length rc) m.cr.length (m.cr.flatMap crC) rfl O10.out ⟨w9.heap.size, 0, none⟩ 1 1 [.int .i64 u, .int .i64 a3] rfl rfl N10.out ?a2 (by decide) ?a3 ?a4 ?a5 _ rfl ?_
    case a2 => intro u hu; simp at hu; rcases hu with rfl | rfl <;> rfl
    case a3 => unfold maxLen; omega
    case a4 => omega
    case a5 => exact R10.out.size
    intro g2 cap2 w11 hown hgrow hat hlt';have R11 : Hid (Rel X w11) := Hj (Below.grown R10.out hgrow R10.out.size (fun q hq => (O10.out.lt q hq).1));have O11 := Hj hown;clear hown hgrow hat;refine hK'.out _ _ (fun _ => R11.out) ?_;clear hK' K';refine wpAnyR_ready (rs := [15]) (by kernel_rfl) (by simp) (AllR.cons rfl (fun w12 h12 K' hK' => ?_) AllR.nil);have R12 : Hid (Rel X w12) := R11.out.trans h12;have O12 := Hj (own_rel' O11.out h12);clear h12;go_simp;refine hK'.out _ _ (fun _ => R12.out) ?_;clear hK' K';refine wpAnyR_ready (rs := [16]) (by kernel_rfl) (by simp) (AllR.cons rfl (fun w13 h13 K' hK' => ?_) AllR.nil);have R13 : Hid (Rel X w13) := R12.out.trans h13;have O13 := Hj (own_rel' O12.out h13);clear h13;go_simp;refine hK'.out _ _ (fun _ => R13.out) ?_;clear hK' K';refine wpAnyR_ready (rs := [17]) (by kernel_rfl) (by simp) (AllR.cons rfl (fun w14 h14 K' hK' => ?_) AllR.nil);have R14 : Hid (Rel X w14) := R13.out.trans h14;have O14 := Hj (own_rel' O13.out h14);have k0 := R14.out.cell d3;have k1 := R14.out.frozen gl fz3;have k2 := R14.out.lt gl;clear h14;go_simp;refine hK'.out _ _ (fun h => absurd (h.symm.trans (by kernel_rfl : _ = true)) (by simp)) ?_;clear hK' K';refine wpAnyR_end (by kernel_rfl) (fun w15 h15 => ?_)
    have S15 : Hid (StaAt w15 ⟨lawS, cur, { m with cr := m.cr ++ [(u, a3)], ca := some ⟨g2, 0, none⟩, cc := cap2 } :: L, some ⟨g, 0, none⟩, cap⟩) := by
     have h := (HM.out.rel (RX.out.trans R14.out)).mono (fun q hq => hq.2 ⟨g, 0, none⟩ rfl);exact (put_first (j := 3) (u := .slice (some ⟨g2, 0, none⟩) (m.cr.length + 1) cap2) (own_rel' HO.out (RX.out.trans R14.out)) HNV.out hl (by decide) ⟨by omega, by omega⟩ (fun x hx => (HXB.out x (List.mem_cons_of_mem _ hx)).rel (RX.out.trans R14.out)) (by decide) (by unfold verC; dsimp only; rw [List.length_append]; rfl) (VerB.appC h HLN.out O14.out (fun q hq => by omega) hxi.out)).rel h15
    have B15 : Hid (Blk w15 w1.heap.size 25 [.string lawS, .int .i64 cur, .slice (some ⟨g, 0, none⟩) nv cap]) := ((BX.out.rel R14.out).other (by omega) 3 (.slice (some ⟨g2, 0, none⟩) (m.cr.length + 1) cap2)).rel h15;have R15 : Hid (Rel w w15) := ((R1.out.trans (RX.out.trans R14.out)).setCell (p := ⟨g, 3, none⟩) hg0 (.slice (some ⟨g2, 0, none⟩) (m.cr.length + 1) cap2)).trans h15;clear h15 k0 k1 k2;(try simp only [Act.put, zla, zlb, zlc]);go_wp2_with fail
    go_meet
    case rel =>
     refine ⟨rfl, ⟨lawS, cur, { m with cr := m.cr ++ [(u, a3)], ca := some ⟨g2, 0, none⟩, cc := cap2 } :: L, some ⟨g, 0, none⟩, cap⟩, ?_, S15, R15⟩;show Blk _ _ _ [.string lawS, .int .i64 cur, .slice (some ⟨g, 0, none⟩) (m :: L).length cap]
     rw [HNV.out];exact B15.out
   ·skip
    obtain ⟨k, hk⟩ : ∃ z, a3.tdiv 12 = z := ⟨_, rfl⟩;have hk0 : -9223372036854775808 ≤ k ∧ k ≤ 9223372036854775807 := by rw [← hk]; exact td_bd12 ⟨b3, c3⟩
    have wk : IntKind.i64.wrap k = k := IntWalk.i64_in _ hk0;obtain ⟨k7, hk7⟩ : ∃ z, a3.tdiv 7 = z := ⟨_, rfl⟩;have hk70 : -9223372036854775808 ≤ k7 ∧ k7 ≤ 9223372036854775807 := by rw [← hk7]; exact td_bd7 ⟨b3, c3⟩
    have wk7 : IntKind.i64.wrap k7 = k7 := IntWalk.i64_in _ hk70;obtain ⟨u, hu, u0, u1⟩ : ∃ z, k % 230 = z ∧ 0 ≤ z ∧ z < 230 := ⟨_, rfl, by omega, by omega⟩;obtain ⟨v, hv, v0, v1⟩ : ∃ z, a3 % 7 = z ∧ 0 ≤ z ∧ z < 7 := ⟨_, rfl, by omega, by omega⟩;obtain ⟨z, hz, z0, z1⟩ : ∃ z, k7 % 3 = z ∧ 0 ≤ z ∧ z < 3 := ⟨_, rfl, by omega, by omega⟩;have PK := Hj fun w => pick_any k 230 w hk0.1 hk0.2 (by decide) (by decide)
    have PM := Hj fun w => pick_any a3 7 w b3 c3 (by decide) (by decide)
    have PN := Hj fun w => pick_any k7 3 w hk70.1 hk70.2 (by decide) (by decide)
    rw [hu] at PK;rw [hv] at PM;rw [hz] at PN;clear hu hv hz;have wu : IntKind.i64.wrap (1890 + u) = 1890 + u := IntWalk.i64_in _ ⟨by omega, by omega⟩;have wz : IntKind.i64.wrap (1 + z) = 1 + z := IntWalk.i64_in _ ⟨by omega, by omega⟩;have hxi : Hid (I64 ((1890 + u, v, 1 + z) : Int × Int × Int).1 ∧ I64 ((1890 + u, v, 1 + z) : Int × Int × Int).2.1 ∧ I64 ((1890 + u, v, 1 + z) : Int × Int × Int).2.2) := ⟨⟨by show _ ≤ 1890 + u; omega, by show 1890 + u ≤ _; omega⟩, ⟨by show _ ≤ v; omega, by show v ≤ _; omega⟩, ⟨by show _ ≤ 1 + z; omega, by show 1 + z ≤ _; omega⟩⟩;have hXn := (HX.out m (List.mem_cons_self ..)).2;have HLN : Hid (m.se.length ≤ 99999) := (hXn.2);have hln := HLN.out;have hi3 : (Tryz.prog.info? 42).map (fun i => (i.zero, i.size, i.bytes)) = some (some (.agg #[.int .i64 0, .int .i64 0, .int .i64 0]), 3, 24) := by kernel_rfl
    obtain ⟨ix, hi, hxx⟩ := Option.map_eq_some_iff.1 hi3;simp only [Prod.mk.injEq] at hxx;obtain ⟨hz0, hz1, hz2⟩ := hxx;have HI := Hj hi;have HZ0 := Hj hz0;have HZ1 := Hj hz1;have HZ2 := Hj hz2;clear hi3 hi hz0 hz1 hz2;go_wp2_with fail;refine wp_region_calm (fun M w' => M.getD 24 false = false → Rel X w') (fun i => i == 24) [0, 1, 2, 3, 4, 5, 6, 8, 9, 12, 14, 15] 13 (by kernel_rfl) (by kernel_rfl) ?hst ?hS0 (fun w0 h0 => ?_)
    case hst => exact fun _ _ _ h r hM => (h hM).trans r
    case hS0 => exact fun _ => Rel.refl _
    iterate 12
     refine wpCalm_go rfl (by kernel_rfl) (fun K hK => ?_);apply Exists.intro;refine ⟨fun M w hM hS => ?_, hK _ ?_⟩
     ·have hS := hS (hM 24 (by kernel_rfl));have s0 := hS.cell q2;have s1 := hS.cell d4;unfold calmAt;go_simp;exact ⟨rfl, Rel.refl _⟩
     clear hK K
    refine wpCalm_nil ?_;simp only [Act.put, zla, zlb, zlc];have RX0 : Hid (Rel X w0) := h0;clear h0;refine wpAnyR_ready (rs := [7]) (by kernel_rfl) (by simp) (AllR.cons rfl (fun w7 h7 K' hK' => ?_) AllR.nil);have R7 : Hid (Rel X w7) := RX0.out.trans h7;clear h7;rw [if_pos (by kernel_rfl)];refine wp_app_copy (.const (.slice none 0 0)) (.tmp 69) 31 rfl X.heap.size 42 ix (.agg #[.int .i64 0, .int .i64 0, .int .i64 0]) 3 24 Tryz.underlying31 HI.out HZ0.out HZ1.out HZ2.out rfl (by decide) rfl m.sa m.se.length m.sc (m.se.flatMap seC) rfl (flat_len seC_len _) ?c1 ?c2 ?c3 ?c4 R7.out.size ?_
    case c1 =>
     intro h;obtain ⟨g', off', e, -, -, hc⟩ := HM.out.r1 (flat_pos seC_len (by decide) h);exact ⟨g', off', e, fun j u hu => (RX.out.trans R7.out).cell (hc j u hu)⟩
    case c2 => intro u hu; obtain ⟨p, -, hp⟩ := List.mem_flatMap.1 hu; simp [seC] at hp; rcases hp with rfl | rfl | rfl <;> rfl
    case c3 => unfold maxLen; omega
    case c4 => omega
    intro ra rc w8 hown hrel;have R8 : Hid (Rel X w8) := R7.out.trans hrel;have O8 := Hj hown;clear hown hrel;refine hK'.out _ _ (fun _ => R8.out) ?_;clear hK' K';refine wpAnyR_more [10, 11, 13, 16, 17, 18, 19] 5 (by kernel_rfl) (fun _ _ _ h r hM => (h hM).trans r) (fun _ => R8.out) ?_;refine wpCalm_go rfl (by kernel_rfl) (fun K hK => ?_);apply Exists.intro;refine ⟨fun M w hM hS => ?_, hK _ ?_⟩
    ·unfold calmAt;go_simp
     with_reducible refine (PK.out _).mono ?_
     rintro e w1 ⟨rfl, rfl⟩;exact ⟨rfl, Rel.refl _⟩
    clear hK K
    iterate 1
     refine wpCalm_go rfl (by kernel_rfl) (fun K hK => ?_);apply Exists.intro;refine ⟨fun M w hM hS => ?_, hK _ ?_⟩
     ·unfold calmAt;go_simp;exact ⟨rfl, Rel.refl _⟩
     clear hK K
    refine wpCalm_go rfl (by kernel_rfl) (fun K hK => ?_);apply Exists.intro;refine ⟨fun M w hM hS => ?_, hK _ ?_⟩
    ·unfold calmAt;go_simp
     with_reducible refine (PM.out _).mono ?_
     rintro e w1 ⟨rfl, rfl⟩;exact ⟨rfl, Rel.refl _⟩
    clear hK K;refine wpCalm_go rfl (by kernel_rfl) (fun K hK => ?_);apply Exists.intro;refine ⟨fun M w hM hS => ?_, hK _ ?_⟩
    ·unfold calmAt;go_simp
     with_reducible refine (PN.out _).mono ?_
     rintro e w1 ⟨rfl, rfl⟩;exact ⟨rfl, Rel.refl _⟩
    clear hK K
    iterate 3
     refine wpCalm_go rfl (by kernel_rfl) (fun K hK => ?_);apply Exists.intro;refine ⟨fun M w hM hS => ?_, hK _ ?_⟩
     ·unfold calmAt;go_simp;exact ⟨rfl, Rel.refl _⟩
     clear hK K
    refine wpCalm_nil ?_;simp only [Act.put, zla, zlb, zlc];refine wpAnyR_ready (rs := [20]) (by kernel_rfl) (by simp) (AllR.cons rfl (fun w9 h9 K' hK' => ?_) AllR.nil);have R9 : Hid (Rel X w9) := R8.out.trans h9;have O9 := Hj (own_rel' O8.out h9);clear h9;go_simp;refine hK'.out _ _ (fun _ => R9.out.alloc _) ?_;clear hK' K';refine wpAnyR_ready (rs := [21]) (by kernel_rfl) (by simp) (AllR.cons rfl (fun w10 h10 K' hK' => ?_) AllR.nil);have R10 : Hid (Rel X w10) := (R9.out.alloc _).trans h10;have O10 := Hj (own_rel' O9.out (((Rel.refl w9).alloc _).trans h10));have N10 := Hj (fun j uu h => h10.cell (new_cells2 w9 #[.int .i64 (1890 + u), .int .i64 v, .int .i64 (1 + z)] 42 rfl j uu h));clear h10;rw [if_pos (by kernel_rfl)];refine wp_append_lies w10 (.tmp 70) (.tmp 83) 31 rfl X.heap.size 42 ix (.agg #[.int .i64 0, .int .i64 0, .int .i64 0]) 3 24 Tryz.underlying31 HI.out HZ0.out HZ1.out HZ2.out rfl (by decide) (.slice ra m.se.length rc) m.se.length (m.se.flatMap seC) rfl O10.out ⟨w9.heap.size, 0, none⟩ 1 1 [.int .i64 (1890 + u), .int .i64 v, .int .i64 (1 + z)] rfl rfl N10.out ?a2 (by decide) ?a3 ?a4 ?a5 _ rfl ?_
    case a2 => intro u hu; simp at hu; rcases hu with rfl | rfl | rfl <;> rfl
    case a3 => unfold maxLen; omega
    case a4 => omega
    case a5 => exact R10.out.size
    intro g2 cap2 w11 hown hgrow hat hlt';have R11 : Hid (Rel X w11) := Hj (Below.grown R10.out hgrow R10.out.size (fun q hq => (O10.out.lt q hq).1));have O11 := Hj hown;clear hown hgrow hat;refine hK'.out _ _ (fun _ => R11.out) ?_;clear hK' K';refine wpAnyR_ready (rs := [22]) (by kernel_rfl) (by simp) (AllR.cons rfl (fun w12 h12 K' hK' => ?_) AllR.nil);have R12 : Hid (Rel X w12) := R11.out.trans h12;have O12 := Hj (own_rel' O11.out h12);clear h12;go_simp;refine hK'.out _ _ (fun _ => R12.out) ?_;clear hK' K';refine wpAnyR_ready (rs := [23]) (by kernel_rfl) (by simp) (AllR.cons rfl (fun w13 h13 K' hK' => ?_) AllR.nil);have R13 : Hid (Rel X w13) := R12.out.trans h13;have O13 := Hj (own_rel' O12.out h13);clear h13;go_simp;refine hK'.out _ _ (fun _ => R13.out) ?_;clear hK' K';refine wpAnyR_ready (rs := [24]) (by kernel_rfl) (by simp) (AllR.cons rfl (fun w14 h14 K' hK' => ?_) AllR.nil);have R14 : Hid (Rel X w14) := R13.out.trans h14;have O14 := Hj (own_rel' O13.out h14);have k0 := R14.out.cell d4;have k1 := R14.out.frozen gl fz4;have k2 := R14.out.lt gl;clear h14;go_simp;refine hK'.out _ _ (fun h => absurd (h.symm.trans (by kernel_rfl : _ = true)) (by simp)) ?_;clear hK' K';refine wpAnyR_end (by kernel_rfl) (fun w15 h15 => ?_)
    have S15 : Hid (StaAt w15 ⟨lawS, cur, { m with se := m.se ++ [(1890 + u, v, 1 + z)], sa := some ⟨g2, 0, none⟩, sc := cap2 } :: L, some ⟨g, 0, none⟩, cap⟩) := by
     have h := (HM.out.rel (RX.out.trans R14.out)).mono (fun q hq => hq.2 ⟨g, 0, none⟩ rfl);exact (put_first (j := 4) (u := .slice (some ⟨g2, 0, none⟩) (m.se.length + 1) cap2) (own_rel' HO.out (RX.out.trans R14.out)) HNV.out hl (by decide) ⟨by omega, by omega⟩ (fun x hx => (HXB.out x (List.mem_cons_of_mem _ hx)).rel (RX.out.trans R14.out)) (by decide) (by unfold verC; dsimp only; rw [List.length_append]; rfl) (VerB.appS h HLN.out O14.out (fun q hq => by omega) hxi.out)).rel h15
    have B15 : Hid (Blk w15 w1.heap.size 25 [.string lawS, .int .i64 cur, .slice (some ⟨g, 0, none⟩) nv cap]) := ((BX.out.rel R14.out).other (by omega) 4 (.slice (some ⟨g2, 0, none⟩) (m.se.length + 1) cap2)).rel h15;have R15 : Hid (Rel w w15) := ((R1.out.trans (RX.out.trans R14.out)).setCell (p := ⟨g, 4, none⟩) hg0 (.slice (some ⟨g2, 0, none⟩) (m.se.length + 1) cap2)).trans h15;clear h15 k0 k1 k2;(try simp only [Act.put, zla, zlb, zlc]);go_wp2_with fail
    go_meet
    case rel =>
     refine ⟨rfl, ⟨lawS, cur, { m with se := m.se ++ [(1890 + u, v, 1 + z)], sa := some ⟨g2, 0, none⟩, sc := cap2 } :: L, some ⟨g, 0, none⟩, cap⟩, ?_, S15, R15⟩;show Blk _ _ _ [.string lawS, .int .i64 cur, .slice (some ⟨g, 0, none⟩) (m :: L).length cap]
     rw [HNV.out];exact B15.out
   ·skip
    go_wp2_with fail
    go_meet
    case rel =>
     refine ⟨rfl, ⟨lawS, cur, [], none, 0⟩, ?_, ?_, ?_⟩
     ·show Blk _ _ _ [.string lawS, .int .i64 cur, .slice none 0 0]
      exact BX.out.set 2 _
     ·show StaAt _ _
      have h := sv_box (j := 2) (u := .slice none 0 0) SA.out RX.out;exact ⟨h.n, h.i, by show 0 ≤ _; omega, RowB.nil, fun x hx => by cases hx⟩
     ·show Rel _ _
      exact (R1.out.trans RX.out).setCell (p := ⟨w1.heap.size, 2, none⟩) hw1 _
   ·skip
    have t0 : (y == 0) = false := by rw [zn]; omega
    have t0' : ¬ y = 0 := by omega
    have t1 : (y == 1) = false := by rw [zn]; omega
    have t1' : ¬ y = 1 := by omega
    have t2 : (y == 2) = false := by rw [zn]; omega
    have t2' : ¬ y = 2 := by omega
    have t3 : (y == 3) = false := by rw [zn]; omega
    have t3' : ¬ y = 3 := by omega
    have t4 : (y == 4) = false := by rw [zn]; omega
    have t4' : ¬ y = 4 := by omega
    have t5 : (y == 5) = false := by rw [zn]; omega
    have t5' : ¬ y = 5 := by omega
    have t6 : (y == 6) = false := by rw [zn]; omega
    have t6' : ¬ y = 6 := by omega
    go_wp2_with fail
    go_meet
    case rel =>
     refine ⟨rfl, ⟨lawS, cur, m :: L, some ⟨g, 0, none⟩, cap⟩, ?_, ?_, ?_⟩
     ·show Blk _ _ _ [.string lawS, .int .i64 cur, .slice (some ⟨g, 0, none⟩) (m :: L).length cap]
      rw [HNV.out]; exact BX.out
     ·show StaAt _ _
      exact SA.out.rel RX.out
     ·show Rel _ _
      exact R1.out.trans RX.out
  case rest =>
   obtain ⟨rfl, t, BT, SB, RT⟩ := hcut;clear HGC HGF HX HO SA BX RX hgl hg0 hl hl1 HNV HXB;obtain ⟨o2, ho2⟩ : ∃ z, IntKind.i64.wrap (a1 + 1) = z := ⟨_, rfl⟩;have ob : -9223372036854775808 ≤ o2 ∧ o2 ≤ 9223372036854775807 := by rw [← ho2, IntKind.wrap_i64]; omega
   have S2 := Hj (Statute_any _ n0 r0 o2 wc (raws_rel HB.out RT.out) ob.1 ob.2);unfold StRes at S2;go_wp2_with fail;refine S2.out.mono ?_;rintro e w3 ⟨u, rfl, hO, hX, h3, ⟨-, hl⟩, hnm, hcu⟩;have HU : Hid (StaAt w3 u) := sv_of hnm hcu hl hO (fun m hm => (hX m hm).1);have R3 := Hj h3;clear hO hX h3 hl hnm hcu S2;unfold StaM.val;obtain ⟨Y, hYe⟩ : ∃ Y, w3.alloc (.cells #[.string u.nm, .int .i64 u.cur, .slice u.ad u.vs.length u.cap] 25) = Y := ⟨_, rfl⟩;have RY : Hid (Rel w3 Y) := by show Rel _ _; rw [← hYe]; exact (Rel.refl w3).alloc _
   have BY : Hid (Blk Y w3.heap.size 25 [.string u.nm, .int .i64 u.cur, .slice u.ad u.vs.length u.cap]) := by show Blk _ _ _ _; rw [← hYe]; exact Blk.new w3 _ #[.string u.nm, .int .i64 u.cur, .slice u.ad u.vs.length u.cap]
   have UA : Hid (StaAt Y u) := HU.out.rel RY.out;have TA : Hid (StaAt Y t) := SB.out.rel (R3.out.trans RY.out);have BZ : Hid (Blk Y w1.heap.size 25 [.string t.nm, .int .i64 t.cur, .slice t.ad t.vs.length t.cap]) := BT.out.rel (R3.out.trans RY.out);have RW : Hid (Rel w Y) := RT.out.trans (R3.out.trans RY.out);have V1 := Hj fun w' (r : Rel Y w') => sValid_any t w' (TA.out.rel r) (HT.out.rel (RW.out.trans r))
   have V2 := Hj fun w' (r : Rel Y w') => rValid_any t w' (TA.out.rel r)
   have E1 := Hj fun w' (r : Rel Y w') => sSame_any t u w' (TA.out.rel r) (UA.out.rel r)
   have E2 := Hj fun w' (r : Rel Y w') => rSame2_any t u w' (TA.out.rel r) (UA.out.rel r)
   have E3 := Hj fun w' (r : Rel Y w') => sSame_any t t w' (TA.out.rel r) (TA.out.rel r)
   have A0 := Hj fun w' (r : Rel Y w') => awake_lt w' (HT.out.rel (RW.out.trans r))
   obtain ⟨vb, hvb⟩ : ∃ v, t.pl.valid = v := ⟨_, rfl⟩;obtain ⟨sb, hsb⟩ : ∃ v, t.same u = v := ⟨_, rfl⟩;rw [hvb] at V1 V2;rw [hsb] at E1 E2;rw [staS_refl t] at E3;unfold BRes StaM.val at V1 V2 E1 E2 E3;unfold BRes at A0;clear hvb hsb;go_wp2_with fail;(try rw [hYe]);clear hYe;have z0 := BZ.out.c (j := 0) rfl;have z1 := BZ.out.c (j := 1) rfl;have z2 := BZ.out.c (j := 2) rfl;have u0 := BY.out.c (j := 0) rfl;have u1 := BY.out.c (j := 1) rfl;have u2 := BY.out.c (j := 2) rfl;refine wp_region_calm (fun _ w' => Rel Y w') (fun _ => false) [0, 1, 2, 3, 4, 5, 6, 7, 8, 9, 10, 11, 12, 13, 14, 15, 16, 17, 18, 19, 20, 21, 22] 0 (by kernel_rfl) (by kernel_rfl) ?hst ?hS0 (fun w0 h0 => ?_)
   case hst => exact fun _ _ _ h r => h.trans r
   case hS0 => exact Rel.refl _
   refine wpCalm_go rfl (by kernel_rfl) (fun K hK => ?_);apply Exists.intro;refine ⟨fun M w hM hS => ?_, hK _ ?_⟩
   ·unfold calmAt;go_simp
    with_reducible refine (A0.out _ hS).mono ?_
    rintro e w1 ⟨rfl, hb⟩;exact ⟨rfl, hb⟩
   clear hK K
   iterate 2
    refine wpCalm_go rfl (by kernel_rfl) (fun K hK => ?_);apply Exists.intro;refine ⟨fun M w hM hS => ?_, hK _ ?_⟩
    ·have d0 := hS.cell z0;have d1 := hS.cell z1;have d2 := hS.cell z2;have e0 := hS.cell u0;have e1 := hS.cell u1;have e2 := hS.cell u2;unfold calmAt;go_simp;exact ⟨rfl, Rel.refl _⟩
    clear hK K
   refine wpCalm_go rfl (by kernel_rfl) (fun K hK => ?_);apply Exists.intro;refine ⟨fun M w hM hS => ?_, hK _ ?_⟩
   ·unfold calmAt;go_simp
    with_reducible refine (V1.out _ hS).mono ?_
    rintro e w1 ⟨rfl, hb⟩;exact ⟨rfl, hb⟩
   clear hK K
   iterate 1
    refine wpCalm_go rfl (by kernel_rfl) (fun K hK => ?_);apply Exists.intro;refine ⟨fun M w hM hS => ?_, hK _ ?_⟩
    ·have d0 := hS.cell z0;have d1 := hS.cell z1;have d2 := hS.cell z2;have e0 := hS.cell u0;have e1 := hS.cell u1;have e2 := hS.cell u2;unfold calmAt;go_simp;exact ⟨rfl, Rel.refl _⟩
    clear hK K
   refine wpCalm_go rfl (by kernel_rfl) (fun K hK => ?_);apply Exists.intro;refine ⟨fun M w hM hS => ?_, hK _ ?_⟩
   ·unfold calmAt;go_simp
    with_reducible refine (V2.out _ hS).mono ?_
    rintro e w1 ⟨rfl, hb⟩;exact ⟨rfl, hb⟩
   clear hK K
   iterate 5
    refine wpCalm_go rfl (by kernel_rfl) (fun K hK => ?_);apply Exists.intro;refine ⟨fun M w hM hS => ?_, hK _ ?_⟩
    ·have d0 := hS.cell z0;have d1 := hS.cell z1;have d2 := hS.cell z2;have e0 := hS.cell u0;have e1 := hS.cell u1;have e2 := hS.cell u2;unfold calmAt;go_simp;exact ⟨rfl, Rel.refl _⟩
    clear hK K
   refine wpCalm_go rfl (by kernel_rfl) (fun K hK => ?_);apply Exists.intro;refine ⟨fun M w hM hS => ?_, hK _ ?_⟩
   ·unfold calmAt;go_simp
    with_reducible refine (E1.out _ hS).mono ?_
    rintro e w1 ⟨rfl, hb⟩;exact ⟨rfl, hb⟩
   clear hK K
   iterate 2
    refine wpCalm_go rfl (by kernel_rfl) (fun K hK => ?_);apply Exists.intro;refine ⟨fun M w hM hS => ?_, hK _ ?_⟩
    ·have d0 := hS.cell z0;have d1 := hS.cell z1;have d2 := hS.cell z2;have e0 := hS.cell u0;have e1 := hS.cell u1;have e2 := hS.cell u2;unfold calmAt;go_simp;exact ⟨rfl, Rel.refl _⟩
    clear hK K
   refine wpCalm_go rfl (by kernel_rfl) (fun K hK => ?_);apply Exists.intro;refine ⟨fun M w hM hS => ?_, hK _ ?_⟩
   ·unfold calmAt;go_simp
    with_reducible refine (E2.out _ hS).mono ?_
    rintro e w1 ⟨rfl, hb⟩;exact ⟨rfl, hb⟩
   clear hK K
   iterate 5
    refine wpCalm_go rfl (by kernel_rfl) (fun K hK => ?_);apply Exists.intro;refine ⟨fun M w hM hS => ?_, hK _ ?_⟩
    ·have d0 := hS.cell z0;have d1 := hS.cell z1;have d2 := hS.cell z2;have e0 := hS.cell u0;have e1 := hS.cell u1;have e2 := hS.cell u2;unfold calmAt;go_simp;exact ⟨rfl, Rel.refl _⟩
    clear hK K
   refine wpCalm_go rfl (by kernel_rfl) (fun K hK => ?_);apply Exists.intro;refine ⟨fun M w hM hS => ?_, hK _ ?_⟩
   ·unfold calmAt;go_simp
    with_reducible refine (E3.out _ hS).mono ?_
    rintro e w1 ⟨rfl, hb⟩;exact ⟨rfl, hb⟩
   clear hK K
   iterate 2
    refine wpCalm_go rfl (by kernel_rfl) (fun K hK => ?_);apply Exists.intro;refine ⟨fun M w hM hS => ?_, hK _ ?_⟩
    ·unfold calmAt;go_simp;exact ⟨rfl, Rel.refl _⟩
    clear hK K
   refine wpCalm_nil (wpAnyR_end (by kernel_rfl) (fun w1 h1 => ?_));simp only [Act.put, zla, zlb, zlc];have R9 : Hid (Rel Y w1) := h0.trans h1;clear h0 h1;go_wp2;go_ret;exact ⟨ret_b2 (by simp), RW.out.trans R9.out⟩
end Go.Proofs.YtojghojlapgbiaaGreatDoor

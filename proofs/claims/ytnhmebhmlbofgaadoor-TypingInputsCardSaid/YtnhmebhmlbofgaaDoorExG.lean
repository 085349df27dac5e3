/- Contract of typing.infer, over whatever lookup answers. No conditions but those printed. -/
import Derived.Test.YtnhmebhmlbofgaaDoorExE
import Derived.Test.YtnhmebhmlbofgaaDoorExF
import Derived.Test.YtnhmebhmlbofgaaDoorTokK
namespace Go.Proofs.YtnhmebhmlbofgaaDoor
open Go.RowKit Cal Str Tok Frac Txt Tree
attribute [local go_sem] calmUpon
set_option linter.unusedVariables false
set_option linter.unusedSimpArgs false

/-- lookup answers as the document says, for names of the kind Q, in whatever world comes of w0. -/
def LookOk (Q : ByteArray → Prop) (ev : Value) (nm : Nat → ByteArray) (dm : Nat → Int) (k : Nat) (w0 : World) : Prop := ∀ (s : ByteArray) (w' : World), Q s → s.size ≤ 140737488355328 → Rel w0 w' →
  Calls Tryd.prog 41 #[.string s, ev] w' fun e w'' => e = .returned (.tuple #[.int .i64 (lokI nm dm k s), .bool (!(lokI nm dm k s == 0))]) ∧ Rel w' w''
def InfRes (r : Int × Int) (w : World) (e : Ending) (w' : World) : Prop := e = .returned (.tuple #[.int .i64 r.1, .int .i64 r.2]) ∧ Rel w w'
theorem inf_ret {r : Int × Int} {a b : Int} {w w' : World} (h : r = (a, b)) (k : Rel w w') : InfRes r w (.returned (.tuple #[.int .i64 a, .int .i64 b])) w' := by
  unfold InfRes; rw [h]; exact ⟨rfl, k⟩
def dimL (D : Nat → Int) (k : Nat) : List Value := (List.range k).map fun i => Value.int .i64 (D i)
theorem dimL_succ (D : Nat → Int) (k : Nat) : dimL D (k + 1) = dimL D k ++ [.int .i64 (D k)] := by
  unfold dimL; rw [List.range_succ, List.map_append]; rfl
theorem dimL_at (D : Nat → Int) (k i : Nat) (h : i < k) : (dimL D k)[i]? = some (.int .i64 (D i)) := by
  unfold dimL; simp [h]
theorem new1_cells (w : World) (x : Value) (T : TypeId) : ∀ (j : Nat) u, [x][j]? = some u → (w.alloc (.cells #[x] T)).cell? ((⟨w.heap.size, 0, none⟩ : Addr).add j) = some u := by
  intro j u h
  match j with
  | 0 => simp at h; subst h; simp [Addr.add]
  | j + 1 => simp at h

set_option maxRecDepth 20000 in
set_option maxHeartbeats 8000000 in
theorem infer_all (Q : ByteArray → Prop) (ev : Value) (nm : Nat → ByteArray) (dm : Nat → Int) (ke : Nat) (w0 : World) (HL : Hid (LookOk Q ev nm dm ke w0)) (he : Hid (∀ i, i < ke → 1 ≤ dm i ∧ dm i ≤ 4)) (t : Ex) :
    ∀ (x : Value) (w : World), Rel w0 w → ExKids t w x → t.form = true → t.allNm Q →
    Calls Tryd.prog 25 #[.agg #[.int .i64 t.op, .int .i64 t.va, .int .i64 t.vb, .int .i64 t.dm, .string t.nm, x], ev] w (InfRes (t.inf nm dm ke) w) := by
  induction t with
  | no => intro x w hw h; exact h.elim
  | mk op a b d s n kid ih =>
    intro x w hw h hf hq
    have HBD := Lib.hid (inf_bd (nm := nm) he.out (.mk op a b d s n kid) hf)
    obtain ⟨hb, hn, ad, cap, rfl, hk⟩ := h
    have HK : Hid (KidsAt w n kid ad) := hk
    have HW := Lib.hid hw
    obtain ⟨hqn, hqk⟩ := hq
    rw [form_mk, Bool.and_eq_true] at hf
    obtain ⟨hnod, hkf⟩ := hf
    have HN := Lib.hid hnod
    have HF := Lib.hid (alK_lt hkf)
    have HQ := Lib.hid hqk
    have IH := Lib.hid ih
    simp only [Ex.op, Ex.va, Ex.vb, Ex.dm, Ex.nm]
    have hs1 := hb.s1
    obtain ⟨RES, hRES⟩ : ∃ RES, (Ex.mk op a b d s n kid).inf nm dm ke = RES := ⟨_, rfl⟩
    rw [hRES] at HBD ⊢
    rw [inf_mk] at hRES
    clear hk ih hw hb hnod hkf hqk
    by_cases h1 : op = 1
    · subst h1
      rw [if_pos rfl] at hRES
      have HR := Lib.hid hRES.symm
      clear hRES hqn
      go_enter Tryd.func25, Tryd.ntmps25
      go_wp2
      go_ret2
      exact inf_ret HR.out (by (show Rel _ _; repeat (first | with_reducible exact Rel.refl _ | with_reducible refine Rel.alloc ?_ _ | with_reducible refine Rel.setCell ?_ (by first | (simp; done) | (simp; omega)) _ | with_reducible refine Rel.drew ?_ | with_reducible refine Rel.trans ?_ H0.out)))
    · rw [if_neg h1] at hRES
      have e1 : (op == 1) = false := by rw [beq_eq_false_iff_ne]; exact h1
      by_cases h3 : op = 3
      · subst h3
        rw [if_pos rfl] at hRES
        have HR := Lib.hid hRES.symm
        clear hRES hqn h1
        go_enter Tryd.func25, Tryd.ntmps25
        go_wp2
        go_ret2
        exact inf_ret HR.out (by (show Rel _ _; repeat (first | with_reducible exact Rel.refl _ | with_reducible refine Rel.alloc ?_ _ | with_reducible refine Rel.setCell ?_ (by first | (simp; done) | (simp; omega)) _ | with_reducible refine Rel.drew ?_ | with_reducible refine Rel.trans ?_ H0.out)))
      · rw [if_neg h3] at hRES
        have e3 : (op == 3) = false := by rw [beq_eq_false_iff_ne]; exact h3
        by_cases h2 : op = 2
        · subst h2
          rw [if_pos rfl] at hRES
          have hqs := hqn rfl
          have L := Lib.hid fun w' (r : Rel w w') => HL.out s w' hqs hs1 (HW.out.trans r)
          obtain ⟨l, hl⟩ : ∃ l, lokI nm dm ke s = l := ⟨_, rfl⟩
          rw [hl] at L hRES
          by_cases hl0 : l = 0
          · subst hl0
            rw [if_pos rfl] at hRES
            have HR := Lib.hid hRES.symm
            clear hRES hqn h1 h3 hqs hl
            go_enter Tryd.func25, Tryd.ntmps25
            go_wp2_with fail
            refine (L.out _ (by show Rel _ _; (show Rel _ _; repeat (first | with_reducible exact Rel.refl _ | with_reducible refine Rel.alloc ?_ _ | with_reducible refine Rel.setCell ?_ (by first | (simp; done) | (simp; omega)) _ | with_reducible refine Rel.drew ?_ | with_reducible refine Rel.trans ?_ H0.out)))).mono ?_
            rintro e w1 ⟨rfl, h1⟩
            have q := keep6 h1 (b := w.heap.size) (by first | (simp; done) | (simp; omega) | omega)
            have kc1_0_0 := q.1
            have kc1_0_1 := q.2.1
            have kc1_0_2 := q.2.2.1
            have kc1_0_3 := q.2.2.2.1
            have kc1_0_4 := q.2.2.2.2.1
            have kc1_0_5 := q.2.2.2.2.2.1
            have kf1_0_0 := q.2.2.2.2.2.2.1
            have kf1_0_1 := q.2.2.2.2.2.2.2.1
            have kf1_0_2 := q.2.2.2.2.2.2.2.2.1
            have kf1_0_3 := q.2.2.2.2.2.2.2.2.2.1
            have kf1_0_4 := q.2.2.2.2.2.2.2.2.2.2.1
            have kf1_0_5 := q.2.2.2.2.2.2.2.2.2.2.2.1
            have kl1_0 := q.2.2.2.2.2.2.2.2.2.2.2.2.1
            have kn1_0 := q.2.2.2.2.2.2.2.2.2.2.2.2.2.1
            have km1_0 := q.2.2.2.2.2.2.2.2.2.2.2.2.2.2
            clear q
            have kz1 := h1.size
            (try simp only [World.size_alloc, World.size_setCell, World.size_drew] at kz1)
            have H1 := Lib.hid h1
            clear h1
            go_wp2
            go_ret2
            exact inf_ret HR.out (by (show Rel _ _; repeat (first | with_reducible exact Rel.refl _ | with_reducible refine Rel.alloc ?_ _ | with_reducible refine Rel.setCell ?_ (by first | (simp; done) | (simp; omega)) _ | with_reducible refine Rel.drew ?_ | with_reducible refine Rel.trans ?_ H1.out | with_reducible refine Rel.trans ?_ H0.out)))
          · rw [if_neg hl0] at hRES
            have HR := Lib.hid hRES.symm
            have fl : (l == 0) = false := by rw [beq_eq_false_iff_ne]; exact hl0
            clear hRES hqn h1 h3 hqs hl hl0
            go_enter Tryd.func25, Tryd.ntmps25
            go_wp2_with fail
            refine (L.out _ (by show Rel _ _; (show Rel _ _; repeat (first | with_reducible exact Rel.refl _ | with_reducible refine Rel.alloc ?_ _ | with_reducible refine Rel.setCell ?_ (by first | (simp; done) | (simp; omega)) _ | with_reducible refine Rel.drew ?_ | with_reducible refine Rel.trans ?_ H0.out)))).mono ?_
            rintro e w1 ⟨rfl, h1⟩
            have q := keep6 h1 (b := w.heap.size) (by first | (simp; done) | (simp; omega) | omega)
            have kc1_0_0 := q.1
            have kc1_0_1 := q.2.1
            have kc1_0_2 := q.2.2.1
            have kc1_0_3 := q.2.2.2.1
            have kc1_0_4 := q.2.2.2.2.1
            have kc1_0_5 := q.2.2.2.2.2.1
            have kf1_0_0 := q.2.2.2.2.2.2.1
            have kf1_0_1 := q.2.2.2.2.2.2.2.1
            have kf1_0_2 := q.2.2.2.2.2.2.2.2.1
            have kf1_0_3 := q.2.2.2.2.2.2.2.2.2.1
            have kf1_0_4 := q.2.2.2.2.2.2.2.2.2.2.1
            have kf1_0_5 := q.2.2.2.2.2.2.2.2.2.2.2.1
            have kl1_0 := q.2.2.2.2.2.2.2.2.2.2.2.2.1
            have kn1_0 := q.2.2.2.2.2.2.2.2.2.2.2.2.2.1
            have km1_0 := q.2.2.2.2.2.2.2.2.2.2.2.2.2.2
            clear q
            have kz1 := h1.size
            (try simp only [World.size_alloc, World.size_setCell, World.size_drew] at kz1)
            have H1 := Lib.hid h1
            clear h1
            go_wp2
            go_ret2
            exact inf_ret HR.out (by (show Rel _ _; repeat (first | with_reducible exact Rel.refl _ | with_reducible refine Rel.alloc ?_ _ | with_reducible refine Rel.setCell ?_ (by first | (simp; done) | (simp; omega)) _ | with_reducible refine Rel.drew ?_ | with_reducible refine Rel.trans ?_ H1.out | with_reducible refine Rel.trans ?_ H0.out)))
        · rw [if_neg h2] at hRES
          have e2 : (op == 2) = false := by rw [beq_eq_false_iff_ne]; exact h2
          obtain ⟨o4, o21, n1, n3⟩ := op_ge HN.out h1 h2 h3
          have har := Lib.hid (nod_ar HN.out)
          have HR := Lib.hid hRES
          have BK := Lib.hid fun i (hi : i < n) => inf_bd (nm := nm) he.out (kid i) (HF.out i hi)
          obtain ⟨D, hD⟩ : ∃ D : Nat → Int, (fun i => ((kid i).inf nm dm ke).1) = D := ⟨_, rfl⟩
          obtain ⟨E, hE⟩ : ∃ E : Nat → Int, (fun i => ((kid i).inf nm dm ke).2) = E := ⟨_, rfl⟩
          have HDE := Lib.hid fun i => (⟨congrFun hD i, congrFun hE i⟩ : ((kid i).inf nm dm ke).1 = D i ∧ ((kid i).inf nm dm ke).2 = E i)
          have HER := Lib.hid fun k (hk : k < n) (h0 : erK E k = 0) (h : ¬ E k = 0) => (opD_er (op := op) (n := n) (f := fun i => (kid i).inf nm dm ke) hk (by rw [hE]; exact h0) (by rw [(HDE.out k).2]; exact h) : opD op n (fun i => (kid i).inf nm dm ke) = _)
          have HOK := Lib.hid fun (h0 : erK E n = 0) => (opD_ok (op := op) (n := n) (f := fun i => (kid i).inf nm dm ke) (by rw [hE]; exact h0))
          rw [hD] at HOK
          clear hRES hqn h1 h2 h3 hD hE
          have hi3 : (Tryd.prog.info? 3).map (fun i => (i.zero, i.size, i.bytes)) = some (some (.int .i64 0), 1, 8) := by kernel_rfl
          obtain ⟨i0, hi, hx⟩ := Option.map_eq_some_iff.1 hi3
          simp only [Prod.mk.injEq] at hx
          obtain ⟨hz0, hz1, hz2⟩ := hx
          have HI := Lib.hid hi
          have HZ0 := Lib.hid hz0
          have HZ1 := Lib.hid hz1
          have HZ2 := Lib.hid hz2
          clear hi3 hi hz0 hz1 hz2
          go_enter Tryd.func25, Tryd.ntmps25
          go_wp2_with fail
          go_loopw [8, 38] (fun v i wx => ∃ (k : Nat) (vv : Value), vv = v ∧ k ≤ n ∧ i = .int .i64 k ∧ Hid (erK E k = 0) ∧ Hid (wx.ownsRow (w.heap.size + 1) 3 1 vv k (dimL D k)) ∧ Hid (Rel (w.alloc (.cells #[.int .i64 op, .int .i64 a, .int .i64 b, .int .i64 d, .string s, .slice ad n cap] 34)) wx)) (fun _ i _ => n - (intOf i).toNat)
          case atStart => exact ⟨0, _, rfl, by omega, rfl, rfl, World.ownsRow_nil _ _ _ _, by show Rel _ _; (show Rel _ _; repeat (first | with_reducible exact Rel.refl _ | with_reducible refine Rel.alloc ?_ _ | with_reducible refine Rel.setCell ?_ (by first | (simp; done) | (simp; omega)) _ | with_reducible refine Rel.drew ?_ | with_reducible refine Rel.trans ?_ H0.out))⟩
          case round =>
            obtain ⟨k, vv, rfl, hkn, rfl, hE0, hO, hR⟩ := hrel
            have hR2 := hR.out
            have q := keep6 hR2 (b := w.heap.size) (by first | (simp; done) | (simp; omega) | omega)
            have kc2_0_0 := q.1
            have kc2_0_1 := q.2.1
            have kc2_0_2 := q.2.2.1
            have kc2_0_3 := q.2.2.2.1
            have kc2_0_4 := q.2.2.2.2.1
            have kc2_0_5 := q.2.2.2.2.2.1
            have kf2_0_0 := q.2.2.2.2.2.2.1
            have kf2_0_1 := q.2.2.2.2.2.2.2.1
            have kf2_0_2 := q.2.2.2.2.2.2.2.2.1
            have kf2_0_3 := q.2.2.2.2.2.2.2.2.2.1
            have kf2_0_4 := q.2.2.2.2.2.2.2.2.2.2.1
            have kf2_0_5 := q.2.2.2.2.2.2.2.2.2.2.2.1
            have kl2_0 := q.2.2.2.2.2.2.2.2.2.2.2.2.1
            have kn2_0 := q.2.2.2.2.2.2.2.2.2.2.2.2.2.1
            have km2_0 := q.2.2.2.2.2.2.2.2.2.2.2.2.2.2
            clear q
            have kz2 := hR2.size
            (try simp only [World.size_alloc, World.size_setCell, World.size_drew] at kz2)
            have H2 := Lib.hid hR2
            clear hR2
            have RW : Hid (Rel w wr) := by
              show Rel _ _
              (show Rel _ _; repeat (first | with_reducible exact Rel.refl _ | with_reducible refine Rel.alloc ?_ _ | with_reducible refine Rel.setCell ?_ (by first | (simp; done) | (simp; omega)) _ | with_reducible refine Rel.drew ?_ | with_reducible refine Rel.trans ?_ H2.out | with_reducible refine Rel.trans ?_ H1.out | with_reducible refine Rel.trans ?_ H0.out))
            by_cases hlt : k < n
            · obtain ⟨g, off, rfl, hg, hc⟩ := HK.out (by omega)
              obtain ⟨xi, hs, hx⟩ := hc k hlt
              obtain ⟨xa, xc, rfl⟩ := kids_slice hx
              obtain ⟨c0, c1, c2, c3, c4, c5⟩ := six_rel hs RW.out hg
              have C := Lib.hid fun w' (r : Rel w w') => IH.out k _ w' (HW.out.trans r) (kids_rel hx r) (HF.out k hlt) (HQ.out k hlt)
              unfold InfRes at C
              rw [(HDE.out k).1, (HDE.out k).2] at C
              obtain ⟨eb1, eb2, eb3, eb4, eb5⟩ := BK.out k hlt
              rw [(HDE.out k).1] at eb1 eb4 eb5
              rw [(HDE.out k).2] at eb1 eb2 eb3
              clear hs hc hx
              by_cases hek : E k = 0
              · have hE1 : Hid (erK E (k + 1) = 0) := by
                  show _ = _
                  simp only [erK]; rw [if_pos hE0.out]; exact hek
                have hDk := eb1 hek
                rw [hek] at C
                clear eb1 eb2 eb3 hek hE0
                go_wp2_with fail
                refine (C.out _ (by show Rel _ _; refine RW.out.trans ?_; (show Rel _ _; repeat (first | with_reducible exact Rel.refl _ | with_reducible refine Rel.alloc ?_ _ | with_reducible refine Rel.setCell ?_ (by first | (simp; done) | (simp; omega)) _ | with_reducible refine Rel.drew ?_ | with_reducible refine Rel.trans ?_ H0.out)))).mono ?_
                rintro e w3 ⟨rfl, h3⟩
                have kz3 := h3.size
                (try simp only [World.size_alloc, World.size_setCell, World.size_drew] at kz3)
                have H3 := Lib.hid h3
                clear h3
                have HRO : Hid (Rel wr w3) := by
                  show Rel _ _
                  refine Rel.trans ?_ H3.out
                  (show Rel _ _; repeat (first | with_reducible exact Rel.refl _ | with_reducible refine Rel.alloc ?_ _ | with_reducible refine Rel.setCell ?_ (by first | (simp; done) | (simp; omega)) _ | with_reducible refine Rel.drew ?_ | with_reducible refine Rel.trans ?_ H0.out))
                have O1 := Lib.hid (own_rel hO.out (HRO.out.alloc (.cells #[.int .i64 (D k)] 3)))
                have sz3 : w.heap.size + 1 ≤ w3.heap.size := by
                  have := HRO.out.size
                  omega
                go_upto_region 18 with (fail)
                go_wp2_with (at_builtin; refine wpList_append_own _ rfl _ _ 28 rfl (w.heap.size + 1) 3 i0 (.int .i64 0) 1 8 Tryd.underlying28 HI.out HZ0.out HZ1.out HZ2.out rfl (by decide) vv k (dimL D k) rfl O1.out ⟨w3.heap.size, 0, none⟩ 1 1 [.int .i64 (D k)] rfl rfl ?c1 ?c2 ?c3 ?c4 ?c5 ?_)
                case c1 => exact new1_cells w3 (.int .i64 (D k)) 3
                case c2 => intro u hu; simp at hu; subst hu; rfl
                case c3 => unfold maxLen; omega
                case c4 => omega
                case c5 => simp; omega
                intro v' w4 hown' hgrow _
                have R4 : Hid (Rel (w.alloc (.cells #[.int .i64 op, .int .i64 a, .int .i64 b, .int .i64 d, .string s, .slice (some ⟨g, off, none⟩) n cap] 34)) w4) := by
                  show Rel _ w4
                  refine Below.grown ((hR.out.trans HRO.out).alloc _) hgrow (by simp; omega) (fun q hq => by have := (hO.out.lt q hq).1; simpa using this)
                have O4 : Hid (w4.ownsRow (w.heap.size + 1) 3 1 v' (k + 1) (dimL D (k + 1))) := by
                  show World.ownsRow _ _ _ _ _ _ _
                  rw [dimL_succ]; exact hown'
                clear hown' hgrow
                go_wp2
                go_roundw
                case rel => exact ⟨k + 1, v', rfl, by omega, by go_num, hE1, O4, R4⟩
                case measure => simp [intOf]; omega
              · have HR2 := Lib.hid (HR.out.symm.trans (HER.out k hlt hE0.out hek))
                rw [(HDE.out k).2] at HR2
                have fe : (E k != 0) = true := by rw [bne_iff_ne]; exact hek
                clear eb1 hek
                go_wp2_with fail
                refine (C.out _ (by show Rel _ _; refine RW.out.trans ?_; (show Rel _ _; repeat (first | with_reducible exact Rel.refl _ | with_reducible refine Rel.alloc ?_ _ | with_reducible refine Rel.setCell ?_ (by first | (simp; done) | (simp; omega)) _ | with_reducible refine Rel.drew ?_ | with_reducible refine Rel.trans ?_ H0.out)))).mono ?_
                rintro e w3 ⟨rfl, h3⟩
                have kz3 := h3.size
                (try simp only [World.size_alloc, World.size_setCell, World.size_drew] at kz3)
                have H3 := Lib.hid h3
                clear h3
                go_wp2
                go_ret2
                exact inf_ret HR2.out (by show Rel _ _; refine RW.out.trans ?_; (show Rel _ _; repeat (first | with_reducible exact Rel.refl _ | with_reducible refine Rel.alloc ?_ _ | with_reducible refine Rel.setCell ?_ (by first | (simp; done) | (simp; omega)) _ | with_reducible refine Rel.drew ?_ | with_reducible refine Rel.trans ?_ H3.out | with_reducible refine Rel.trans ?_ H2.out | with_reducible refine Rel.trans ?_ H1.out | with_reducible refine Rel.trans ?_ H0.out)))
            · have : k = n := by omega
              subst this
              obtain ⟨g, cp, rfl, hgb, hgl, hc1, hc2, hcs⟩ := own_some hO.out (by omega)
              have hDb : ∀ i, i < k → 1 ≤ D i ∧ D i ≤ 4 := fun i hi => by
                have h1 := (BK.out i hi).1
                rw [(HDE.out i).1, (HDE.out i).2] at h1
                exact h1 (erK_zero hE0.out i hi)
              have HRS := Lib.hid (HR.out.symm.trans (HOK.out hE0.out))
              have RS := Lib.hid (result_any op k g cp D wr ⟨o4, o21⟩ har.out hgl hDb (fun i hi => hcs i _ (dimL_at D k i hi)))
              obtain ⟨R, hR'⟩ : ∃ R, resI op D = R := ⟨_, rfl⟩
              rw [hR'] at RS HRS
              unfold RsRes at RS
              clear hR' hDb hcs
              go_wp2_with fail
              refine RS.out.mono ?_
              rintro e w3 ⟨X, B, rfl, hB, hX, h3⟩
              have h3' := h3
              have q := keep6 h3 (b := w.heap.size) (by first | (simp; done) | (simp; omega) | omega)
              have kc3_0_0 := q.1
              have kc3_0_1 := q.2.1
              have kc3_0_2 := q.2.2.1
              have kc3_0_3 := q.2.2.2.1
              have kc3_0_4 := q.2.2.2.2.1
              have kc3_0_5 := q.2.2.2.2.2.1
              have kf3_0_0 := q.2.2.2.2.2.2.1
              have kf3_0_1 := q.2.2.2.2.2.2.2.1
              have kf3_0_2 := q.2.2.2.2.2.2.2.2.1
              have kf3_0_3 := q.2.2.2.2.2.2.2.2.2.1
              have kf3_0_4 := q.2.2.2.2.2.2.2.2.2.2.1
              have kf3_0_5 := q.2.2.2.2.2.2.2.2.2.2.2.1
              have kl3_0 := q.2.2.2.2.2.2.2.2.2.2.2.2.1
              have kn3_0 := q.2.2.2.2.2.2.2.2.2.2.2.2.2.1
              have km3_0 := q.2.2.2.2.2.2.2.2.2.2.2.2.2.2
              clear q
              have kz3 := h3.size
              (try simp only [World.size_alloc, World.size_setCell, World.size_drew] at kz3)
              have H3 := Lib.hid h3
              clear h3
              cases B
              · have fin : Hid (RES = (0, 6)) := by
                  show _ = _
                  rw [HRS.out, if_pos (by simpa using hB.symm)]
                clear hB hX h3'
                go_wp2
                go_ret2
                exact inf_ret fin.out (RW.out.trans H3.out)
              · have hXR := hX rfl
                have fin : Hid (RES = (X, 0)) := by
                  show _ = _
                  rw [HRS.out, if_neg (by intro h; rw [h] at hB; simp at hB), hXR]
                clear hB hX h3' hXR
                go_wp2
                go_ret2
                exact inf_ret fin.out (RW.out.trans H3.out)

end Go.Proofs.YtnhmebhmlbofgaaDoor

/- Bundle of texts: each says at its head what it proves; no conditions but those printed. -/
import Derived.Test.YtohdmpchbiabmaaDoorNB6
/- When two trees are the same; contracts of SameExpr, both. No conditions but those printed. -/
namespace Go.Proofs.YtohdmpchbiabmaaDoor
open Go.RowKit Cal Str Tok Frac Txt Tree
attribute [local go_sem] calmUpon
set_option linter.unusedVariables false
set_option linter.unusedSimpArgs false
def _root_.Go.Proofs.YtohdmpchbiabmaaDoor.Tree.Ex.same : Ex → Ex → Bool
 | .no, .no => true
 | .mk op a b d s n kid, .mk op' a' b' d' s' n' kid' => (op == op') && ((a == a' && b == b') && ((d == d') && ((s.data.toList == s'.data.toList) && ((n == n') && alK (fun i => (kid i).same (kid' i)) n))))
 | _, _ => false
theorem same_refl (t : Ex) : t.same t = true := by
 induction t with
 | no => rfl
 | mk op a b d s n kid ih =>
  simp only [Ex.same, beq_self_eq_true, Bool.true_and]
  exact alK_of (fun i _ => ih i)
theorem str_eqL {a b : ByteArray} : (a.toList == b.toList) = (a.data.toList == b.data.toList) := by
 rw [Lib.toList_data, Lib.toList_data]
end Go.Proofs.YtohdmpchbiabmaaDoor

/- Contract of the reference's SameExpr. No conditions but those printed. -/
namespace Go.Proofs.YtohdmpchbiabmaaDoor
open Go.RowKit Cal Str Tok Frac Txt Tree
attribute [local go_sem] calmUpon
set_option linter.unusedVariables false
set_option linter.unusedSimpArgs false
def RSameOk (t : Ex) : Prop := ∀ (u : Ex) (x y : Value) (w : World), ExKids t w x → ExKids u w y → Calls Tryd.prog 15 #[.agg #[.int .i64 t.op, .int .i64 t.va, .int .i64 t.vb, .int .i64 t.dm, .string t.nm, x], .agg #[.int .i64 u.op, .int .i64 u.va, .int .i64 u.vb, .int .i64 u.dm, .string u.nm, y]] w (BRes (t.same u) w)
set_option maxHeartbeats 8000000 in
theorem rSame_any (t : Ex) : RSameOk t := by
 induction t with
 | no => intro u x y w h; exact h.elim
 | mk op a b d s n kid ih =>
  intro u x y w h hu
  cases u with
  | no => exact hu.elim
  | mk op' a' b' d' s' n' kid' =>
   obtain ⟨-, hn, ad, cap, rfl, hk⟩ := h
   obtain ⟨-, hn', ad', cap', rfl, hk'⟩ := hu
   have HK : Hid (KidsAt w n kid ad) := hk
   have HK' : Hid (KidsAt w n' kid' ad') := hk'
   have IH := Lib.hid ih
   unfold BRes
   simp only [Ex.op, Ex.va, Ex.vb, Ex.dm, Ex.nm, Ex.same]
   rw [← str_eqL]
   clear hk hk' ih
   by_cases h1 : op = op'
   ·subst h1
    by_cases ha : a = a'
    ·subst ha
     by_cases hb : b = b'
     ·subst hb
      by_cases h3 : d = d'
      ·subst h3
       obtain ⟨S, hS⟩ : ∃ S, (s.toList == s'.toList) = S := ⟨_, rfl⟩
       rw [hS]
       cases S
       ·go_enter Tryd.func15, Tryd.ntmps15
        go_wp2
        go_ret
        exact ⟨ret_b2 (by simp), by (show Rel _ _; repeat (first | with_reducible exact Rel.refl _ | with_reducible refine Rel.alloc ?_ _ | with_reducible refine Rel.setCell ?_ (by first | (simp; done) | (simp; omega)) _ | with_reducible refine Rel.drew ?_ | with_reducible refine Rel.trans ?_ H0.out))⟩
       ·by_cases hnn : n = n'
        ·subst hnn
         rw [show (n == n) = true by simp]
         simp only [beq_self_eq_true, Bool.true_and]
         go_enter Tryd.func15, Tryd.ntmps15
         go_wp2_with fail
         go_loopw [5] (fun i wx => ∃ k : Nat, k ≤ n ∧ i = .int .i64 k ∧ Hid (alK (fun i => (kid i).same (kid' i)) k = true) ∧ Hid (Rel ((w.alloc (.cells #[.int .i64 op, .int .i64 a, .int .i64 b, .int .i64 d, .string s, .slice ad n cap] 42)).alloc (.cells #[.int .i64 op, .int .i64 a, .int .i64 b, .int .i64 d, .string s', .slice ad' n cap'] 42)) wx)) (fun i _ => n - (intOf i).toNat)
         case atStart => exact ⟨0, by omega, rfl, rfl, by show Rel _ _; (show Rel _ _; repeat (first | with_reducible exact Rel.refl _ | with_reducible refine Rel.alloc ?_ _ | with_reducible refine Rel.setCell ?_ (by first | (simp; done) | (simp; omega)) _ | with_reducible refine Rel.drew ?_ | with_reducible refine Rel.trans ?_ H0.out))⟩
         case round =>
          obtain ⟨k, hkn, rfl, hA, hR⟩ := hrel
          have hR2 := hR.out
          have q := keep6 hR2 (b := w.heap.size) (by first | (simp; done) | (simp; omega) | omega)
          have kc2_0_0 := q.1
          have kc2_0_1 := q.2.1
          have kc2_0_2 := q.2.2.1
          have kc2_0_3 := q.2.2.2.1
          have kc2_0_4 := q.2.2.2.2.1
          have kc2_0_5 := q.2.2.2.2.2.1
          have kf2_0_0 := q.2.2.2.2.2.2.1
          have kf2_0_1 := q.2.2.2.2.2.2.2.1
          have kf2_0_2 := q.2.2.2.2.2.2.2.2.1
          have kf2_0_3 := q.2.2.2.2.2.2.2.2.2.1
          have kf2_0_4 := q.2.2.2.2.2.2.2.2.2.2.1
          have kf2_0_5 := q.2.2.2.2.2.2.2.2.2.2.2.1
          have kl2_0 := q.2.2.2.2.2.2.2.2.2.2.2.2.1
          have kn2_0 := q.2.2.2.2.2.2.2.2.2.2.2.2.2.1
          have km2_0 := q.2.2.2.2.2.2.2.2.2.2.2.2.2.2
          clear q
          have q := keep6 hR2 (b := w.heap.size + 1) (by first | (simp; done) | (simp; omega) | omega)
          have kc2_1_0 := q.1
          have kc2_1_1 := q.2.1
          have kc2_1_2 := q.2.2.1
          have kc2_1_3 := q.2.2.2.1
          have kc2_1_4 := q.2.2.2.2.1
          have kc2_1_5 := q.2.2.2.2.2.1
          have kf2_1_0 := q.2.2.2.2.2.2.1
          have kf2_1_1 := q.2.2.2.2.2.2.2.1
          have kf2_1_2 := q.2.2.2.2.2.2.2.2.1
          have kf2_1_3 := q.2.2.2.2.2.2.2.2.2.1
          have kf2_1_4 := q.2.2.2.2.2.2.2.2.2.2.1
          have kf2_1_5 := q.2.2.2.2.2.2.2.2.2.2.2.1
          have kl2_1 := q.2.2.2.2.2.2.2.2.2.2.2.2.1
          have kn2_1 := q.2.2.2.2.2.2.2.2.2.2.2.2.2.1
          have km2_1 := q.2.2.2.2.2.2.2.2.2.2.2.2.2.2
          clear q
          have kz2 := hR2.size
          (try simp only [World.size_alloc, World.size_setCell, World.size_drew] at kz2)
          have H2 := Lib.hid hR2
          clear hR2
          have RW : Hid (Rel w wr) := by
           show Rel _ _
           (show Rel _ _; repeat (first | with_reducible exact Rel.refl _ | with_reducible refine Rel.alloc ?_ _ | with_reducible refine Rel.setCell ?_ (by first | (simp; done) | (simp; omega)) _ | with_reducible refine Rel.drew ?_ | with_reducible refine Rel.trans ?_ H2.out | with_reducible refine Rel.trans ?_ H1.out | with_reducible refine Rel.trans ?_ H0.out))
          have e5 : wr.cell? ⟨w.heap.size, 5, none⟩ = some (.slice ad n cap) := hR.out.cell (by simp)
          have e6 : wr.cell? ⟨w.heap.size + 1, 5, none⟩ = some (.slice ad' n cap') := hR.out.cell (by simp)
          by_cases hlt : k < n
          ·obtain ⟨g, off, rfl, hg, hc⟩ := HK.out (by omega)
           obtain ⟨g', off', rfl, hg', hc'⟩ := HK'.out (by omega)
           obtain ⟨xi, hs, hx⟩ := hc k hlt
           obtain ⟨yi, hs', hy⟩ := hc' k hlt
           obtain ⟨xa, xc, rfl⟩ := kids_slice hx
           obtain ⟨ya, yc, rfl⟩ := kids_slice hy
           obtain ⟨c0, c1, c2, c3, c4, c5⟩ := six_rel hs RW.out hg
           obtain ⟨d0, d1, d2, d3, d4, d5⟩ := six_rel hs' RW.out hg'
           have ki : (k : Int) < (n : Int) := by omega
           have C := Lib.hid fun w' (r : Rel wr w') => IH.out k (kid' k) _ _ w' (kids_rel hx (RW.out.trans r)) (kids_rel hy (RW.out.trans r))
           unfold BRes at C
           have hsu : alK (fun i => (kid i).same (kid' i)) (k + 1) = ((kid k).same (kid' k)) := by simp only [alK]; rw [hA.out]; simp
           have HSU := Lib.hid hsu
           obtain ⟨B, hB⟩ : ∃ B, (kid k).same (kid' k) = B := ⟨_, rfl⟩
           rw [hB] at C HSU
           clear hs hs' hx hy hc hc' hsu hB
           go_wp2_with fail
           refine wp_region_calm (fun _ w' => Rel wr w') (fun _ => false) [0, 1, 2, 3, 4, 5, 6, 7, 8, 9, 10, 11] 0 (by kernel_rfl) (by kernel_rfl) ?hst ?hS0 (fun w0 h0 => ?_)
           case hst => exact fun _ _ _ h r => h.trans r
           case hS0 => exact Rel.refl _
           iterate 10
            refine wpCalm_go rfl (by kernel_rfl) (fun K hK => ?_)
            apply Exists.intro
            refine ⟨fun M w hM hS => ?_, hK _ ?_⟩
            ·have p5 := hS.cell e5
             have p6 := hS.cell e6
             have p0 := hS.cell c0
             have p1 := hS.cell c1
             have p2 := hS.cell c2
             have p3 := hS.cell c3
             have p4 := hS.cell c4
             have p7 := hS.cell c5
             have r0 := hS.cell d0
             have r1 := hS.cell d1
             have r2 := hS.cell d2
             have r3 := hS.cell d3
             have r4 := hS.cell d4
             have r5 := hS.cell d5
             unfold calmAt
             go_simp
             exact ⟨rfl, Rel.refl _⟩
            clear hK K
           refine wpCalm_go rfl (by kernel_rfl) (fun K hK => ?_)
           apply Exists.intro
           refine ⟨fun M w hM hS => ?_, hK _ ?_⟩
           ·unfold calmAt
            go_simp
            with_reducible refine (C.out _ hS).mono ?_
            rintro e w1 ⟨rfl, hb⟩
            exact ⟨rfl, hb⟩
           clear hK K
           iterate 1
            refine wpCalm_go rfl (by kernel_rfl) (fun K hK => ?_)
            apply Exists.intro
            refine ⟨fun M w hM hS => ?_, hK _ ?_⟩
            ·unfold calmAt
             go_simp
             exact ⟨rfl, Rel.refl _⟩
            clear hK K
           refine wpAnyR_end (by kernel_rfl) (fun w3 h3' => ?_)
           (try simp only [Act.put, List.setIfInBounds_toArray, List.set_cons_zero, List.set_cons_succ])
           have h3 := h0.trans h3'
           clear h0 h3'
           have kz3 := h3.size
           (try simp only [World.size_alloc, World.size_setCell, World.size_drew] at kz3)
           have H3 := Lib.hid h3
           clear h3
           have R3 := Lib.hid (hR.out.trans H3.out)
           cases B
           ·have hno : Hid (alK (fun i => (kid i).same (kid' i)) n = false) := by
             show _ = _
             cases hX : alK (fun i => (kid i).same (kid' i)) n
             ·rfl
             ·have := HSU.out
              rw [alK_of (fun i hi => alK_lt hX i (by omega))] at this
              cases this
            go_wp2
            go_ret
            exact ⟨ret_b2 hno.out.symm, RW.out.trans H3.out⟩
           ·go_wp2
            go_roundw
            case rel => exact ⟨k + 1, by omega, by go_num, HSU, R3⟩
            case measure => simp [intOf]; omega
          ·have : k = n := by omega
           subst this
           go_wp2
           go_ret
           exact ⟨ret_b2 hA.out.symm, RW.out⟩
        ·have en : ((n : Int) == (n' : Int)) = false := by rw [beq_eq_false_iff_ne]; omega
         have en' : (n == n') = false := by simpa using hnn
         rw [en']
         go_enter Tryd.func15, Tryd.ntmps15
         go_wp2
         go_ret
         exact ⟨ret_b2 (by simp), by (show Rel _ _; repeat (first | with_reducible exact Rel.refl _ | with_reducible refine Rel.alloc ?_ _ | with_reducible refine Rel.setCell ?_ (by first | (simp; done) | (simp; omega)) _ | with_reducible refine Rel.drew ?_ | with_reducible refine Rel.trans ?_ H0.out))⟩
      ·have e3 : (d == d') = false := by rw [beq_eq_false_iff_ne]; exact h3
       go_enter Tryd.func15, Tryd.ntmps15
       go_wp2
       go_ret
       exact ⟨ret_b2 (by simp [e3]), by (show Rel _ _; repeat (first | with_reducible exact Rel.refl _ | with_reducible refine Rel.alloc ?_ _ | with_reducible refine Rel.setCell ?_ (by first | (simp; done) | (simp; omega)) _ | with_reducible refine Rel.drew ?_ | with_reducible refine Rel.trans ?_ H0.out))⟩
     ·have e2 : (b == b') = false := by rw [beq_eq_false_iff_ne]; exact hb
      go_enter Tryd.func15, Tryd.ntmps15
      go_wp2
      go_ret
      exact ⟨ret_b2 (by simp [e2]), by (show Rel _ _; repeat (first | with_reducible exact Rel.refl _ | with_reducible refine Rel.alloc ?_ _ | with_reducible refine Rel.setCell ?_ (by first | (simp; done) | (simp; omega)) _ | with_reducible refine Rel.drew ?_ | with_reducible refine Rel.trans ?_ H0.out))⟩
    ·have e2 : (a == a') = false := by rw [beq_eq_false_iff_ne]; exact ha
     go_enter Tryd.func15, Tryd.ntmps15
     go_wp2
     go_ret
     exact ⟨ret_b2 (by simp [e2]), by (show Rel _ _; repeat (first | with_reducible exact Rel.refl _ | with_reducible refine Rel.alloc ?_ _ | with_reducible refine Rel.setCell ?_ (by first | (simp; done) | (simp; omega)) _ | with_reducible refine Rel.drew ?_ | with_reducible refine Rel.trans ?_ H0.out))⟩
   ·have e1 : (op == op') = false := by rw [beq_eq_false_iff_ne]; exact h1
    go_enter Tryd.func15, Tryd.ntmps15
    go_wp2
    go_ret
    exact ⟨ret_b2 (by simp [e1]), by (show Rel _ _; repeat (first | with_reducible exact Rel.refl _ | with_reducible refine Rel.alloc ?_ _ | with_reducible refine Rel.setCell ?_ (by first | (simp; done) | (simp; omega)) _ | with_reducible refine Rel.drew ?_ | with_reducible refine Rel.trans ?_ H0.out))⟩
end Go.Proofs.YtohdmpchbiabmaaDoor

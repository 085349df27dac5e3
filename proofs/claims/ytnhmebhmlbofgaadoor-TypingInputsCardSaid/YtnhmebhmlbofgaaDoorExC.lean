/- Contracts of isName, IsName, node. No conditions but those printed. -/
import Derived.Test.YtnhmebhmlbofgaaDoorExB
import Derived.Test.YtnhmebhmlbofgaaDoorShrtB
namespace Go.Proofs.YtnhmebhmlbofgaaDoor
open Go.RowKit Cal Str Tok Frac Txt Tree
attribute [local go_sem] calmUpon
set_option linter.unusedVariables false
set_option linter.unusedSimpArgs false

set_option maxHeartbeats 1000000 in
theorem isName_any (s : ByteArray) (w : World) (hs : s.size ≤ 140737488355328) : Calls Tryd.prog 66 #[.string s] w fun e w' => e = .returned (.bool (namB s)) ∧ w = w' := by
  have W := Lib.hid fun w => IsWord_any s w (by unfold maxLen; omega)
  have KW := Lib.hid fun w => keyword_any s w
  have hn : namB s = (wordB s && !kwB s) := rfl
  rw [hn]
  clear hn
  obtain ⟨A, hA⟩ : ∃ A, wordB s = A := ⟨_, rfl⟩
  obtain ⟨B, hB⟩ : ∃ B, kwB s = B := ⟨_, rfl⟩
  rw [hA] at W ⊢
  rw [hB] at KW ⊢
  clear hA hB
  cases A <;> cases B
  all_goals
    go_enter Tryd.func66, Tryd.ntmps66
    go_wp2_with (first | (go_at_call 74; refine (W.out _).mono ?_; rintro e w1 ⟨rfl, rfl⟩) | (go_at_call 75; refine (KW.out _).mono ?_; rintro e w1 ⟨rfl, rfl⟩))
    go_ret
    exact ⟨rfl, rfl⟩
set_option maxHeartbeats 1000000 in
theorem rIsName_any (s : ByteArray) (w : World) (hs : s.size ≤ 140737488355328) : Calls Tryd.prog 35 #[.string s] w fun e w' => e = .returned (.bool (namB s)) ∧ w = w' := by
  have W := Lib.hid fun w => rIsWord_any s w (by unfold maxLen; omega)
  have KW := Lib.hid fun w => rkeyword_any s w
  have hn : namB s = (wordB s && !kwB s) := rfl
  rw [hn]
  clear hn
  obtain ⟨A, hA⟩ : ∃ A, wordB s = A := ⟨_, rfl⟩
  obtain ⟨B, hB⟩ : ∃ B, kwB s = B := ⟨_, rfl⟩
  rw [hA] at W ⊢
  rw [hB] at KW ⊢
  clear hA hB
  cases A <;> cases B
  all_goals
    go_enter Tryd.func35, Tryd.ntmps35
    go_wp2_with (first | (go_at_call 52; refine (W.out _).mono ?_; rintro e w1 ⟨rfl, rfl⟩) | (go_at_call 53; refine (KW.out _).mono ?_; rintro e w1 ⟨rfl, rfl⟩))
    go_ret
    exact ⟨rfl, rfl⟩

theorem ret_b2 {a b : Bool} (h : a = b) : Ending.returned (.bool a) = .returned (.bool b) := by rw [h]
theorem em_eq (s : ByteArray) : s.toList.isEmpty = emS s := by
  unfold emS; rw [Lib.toList_data]; cases s.data.toList <;> rfl
theorem nod_mis {op a b d : Int} {s : ByteArray} {n : Nat} (h : ¬ (n : Int) = arI op) : nodB op a b d s n = false := by
  unfold nodB; rw [beq_eq_false_iff_ne.2 h]; rfl
theorem nod_1 {a b d : Int} {s : ByteArray} {n : Nat} (h : (n : Int) = arI 1) : nodB 1 a b d s n = (fdB a b d && emS s) := by
  unfold nodB; rw [beq_iff_eq.2 h, if_pos rfl]; rfl
theorem nod_2 {a b d : Int} {s : ByteArray} {n : Nat} (h : (n : Int) = arI 2) : nodB 2 a b d s n = (namB s && ((a == 0 && b == 0) && d == 0)) := by
  unfold nodB; rw [beq_iff_eq.2 h, if_neg (by decide), if_pos rfl]; rfl
theorem nod_3 {a b d : Int} {s : ByteArray} {n : Nat} (h : (n : Int) = arI 3) : nodB 3 a b d s n = ((b == 1 && decide (1 ≤ a) && decide (a ≤ 45)) && (d == 0 && emS s)) := by
  unfold nodB; rw [beq_iff_eq.2 h, if_neg (by decide), if_neg (by decide), if_pos rfl]; rfl
theorem nod_o {op a b d : Int} {s : ByteArray} {n : Nat} (h : (n : Int) = arI op) (h1 : ¬ op = 1) (h2 : ¬ op = 2) (h3 : ¬ op = 3) : nodB op a b d s n = ((a == 0 && b == 0) && (d == 0 && emS s)) := by
  unfold nodB; rw [beq_iff_eq.2 h, if_neg h1, if_neg h2, if_neg h3]; rfl

set_option maxHeartbeats 4000000 in
theorem node_any (op a b d : Int) (s : ByteArray) (ad : Option Addr) (n cap : Nat) (w : World) (ht : Hid (TabW w)) (hb : I64s op a b d s) (hn : n ≤ 17592186044416) :
    Calls Tryd.prog 54 #[.agg #[.int .i64 op, .int .i64 a, .int .i64 b, .int .i64 d, .string s, .slice ad n cap]] w (BRes (nodB op a b d s n) w) := by
  have AR := Lib.hid fun w => arity_any op w
  obtain ⟨V, hV'⟩ : ∃ V, nodB op a b d s n = V := ⟨_, rfl⟩
  have hV := Lib.hid hV'
  rw [hV']
  clear hV'
  obtain ⟨o0, o1, a0, a1, b0, b1, d0, d1, s1⟩ := hb
  unfold BRes
  by_cases har : (n : Int) = arI op
  · have HAR := Lib.hid har
    rw [← har] at AR
    clear har
    by_cases h1 : op = 1
    · subst h1
      rw [nod_1 HAR.out] at hV
      have F := Lib.hid fun w ht => FormatDecimal_any a b d w ht a0 a1 b0 b1 d0 d1
      unfold FdRes at F
      obtain ⟨T, hT⟩ : ∃ T, fdT a b d = T := ⟨_, rfl⟩
      obtain ⟨B, hB⟩ : ∃ B, fdB a b d = B := ⟨_, rfl⟩
      rw [hT, hB] at F
      rw [hB] at hV
      clear hT hB
      go_enter Tryd.func54, Tryd.ntmps54
      go_wp2_with fail
      refine wp_region_calm (fun _ w' => w'.cell? { block := w.heap.size, off := 5 } = some (.slice ad n cap) ∧ w'.cell? { block := w.heap.size, off := 0 } = some (.int .i64 1)) (fun _ => false) [0, 1, 2, 3, 4, 5, 6] 0 (by kernel_rfl) (by kernel_rfl) ?hst ?hS0 (fun w0 h0 => ?_)
      case hst => exact fun _ _ _ h r => ⟨r.cell h.1, r.cell h.2⟩
      case hS0 => exact ⟨by go_simp, by go_simp⟩
      iterate 5
        refine wpCalm_go rfl (by kernel_rfl) (fun K hK => ?_)
        apply Exists.intro
        refine ⟨fun M w hM hS => ?_, hK _ ?_⟩
        · have hc := hS.1
          have hc' := hS.2
          unfold calmAt
          go_simp
          exact ⟨rfl, Rel.refl _⟩
        clear hK K
      refine wpCalm_go rfl (by kernel_rfl) (fun K hK => ?_)
      apply Exists.intro
      refine ⟨fun M w hM hS => ?_, hK _ ?_⟩
      · unfold calmAt
        go_simp
        with_reducible refine (AR.out _).mono ?_
        rintro e w1 ⟨rfl, rfl⟩
        exact ⟨rfl, Rel.refl _⟩
      clear hK K
      iterate 1
        refine wpCalm_go rfl (by kernel_rfl) (fun K hK => ?_)
        apply Exists.intro
        refine ⟨fun M w hM hS => ?_, hK _ ?_⟩
        · unfold calmAt
          go_simp
          exact ⟨rfl, Rel.refl _⟩
        clear hK K
      refine wpAnyR_end (by kernel_rfl) (fun w3 h3' => ?_)
      (try simp only [Act.put, List.setIfInBounds_toArray, List.set_cons_zero, List.set_cons_succ])
      have h3 := h0.trans h3'
      clear h0 h3'
      have q := keep6 h3 (b := w.heap.size) (by first | (simp; done) | (simp; omega) | omega)
      have kc3_0_0 := q.1
      have kc3_0_1 := q.2.1
      have kc3_0_2 := q.2.2.1
      have kc3_0_3 := q.2.2.2.1
      have kc3_0_4 := q.2.2.2.2.1
      have kc3_0_5 := q.2.2.2.2.2.1
      have kf3_0_0 := q.2.2.2.2.2.2.1
      have kf3_0_1 := q.2.2.2.2.2.2.2.1
      have kf3_0_2 := q.2.2.2.2.2.2.2.2.1
      have kf3_0_3 := q.2.2.2.2.2.2.2.2.2.1
      have kf3_0_4 := q.2.2.2.2.2.2.2.2.2.2.1
      have kf3_0_5 := q.2.2.2.2.2.2.2.2.2.2.2.1
      have kl3_0 := q.2.2.2.2.2.2.2.2.2.2.2.2.1
      have kn3_0 := q.2.2.2.2.2.2.2.2.2.2.2.2.2.1
      have km3_0 := q.2.2.2.2.2.2.2.2.2.2.2.2.2.2
      clear q
      have kz3 := h3.size
      (try simp only [World.size_alloc, World.size_setCell, World.size_drew] at kz3)
      have H3 := Lib.hid h3
      clear h3
      go_wp2_with fail
      refine (F.out _ (ht.out.rel (by show Rel _ _; (show Rel _ _; repeat (first | with_reducible exact Rel.refl _ | with_reducible refine Rel.alloc ?_ _ | with_reducible refine Rel.setCell ?_ (by first | (simp; done) | (simp; omega)) _ | with_reducible refine Rel.drew ?_ | with_reducible refine Rel.trans ?_ H3.out | with_reducible refine Rel.trans ?_ H2.out | with_reducible refine Rel.trans ?_ H1.out | with_reducible refine Rel.trans ?_ H0.out))))).mono ?_
      rintro e w4 ⟨rfl, h4⟩
      have q := keep6 h4 (b := w.heap.size) (by first | (simp; done) | (simp; omega) | omega)
      have kc4_0_0 := q.1
      have kc4_0_1 := q.2.1
      have kc4_0_2 := q.2.2.1
      have kc4_0_3 := q.2.2.2.1
      have kc4_0_4 := q.2.2.2.2.1
      have kc4_0_5 := q.2.2.2.2.2.1
      have kf4_0_0 := q.2.2.2.2.2.2.1
      have kf4_0_1 := q.2.2.2.2.2.2.2.1
      have kf4_0_2 := q.2.2.2.2.2.2.2.2.1
      have kf4_0_3 := q.2.2.2.2.2.2.2.2.2.1
      have kf4_0_4 := q.2.2.2.2.2.2.2.2.2.2.1
      have kf4_0_5 := q.2.2.2.2.2.2.2.2.2.2.2.1
      have kl4_0 := q.2.2.2.2.2.2.2.2.2.2.2.2.1
      have kn4_0 := q.2.2.2.2.2.2.2.2.2.2.2.2.2.1
      have km4_0 := q.2.2.2.2.2.2.2.2.2.2.2.2.2.2
      clear q
      have kz4 := h4.size
      (try simp only [World.size_alloc, World.size_setCell, World.size_drew] at kz4)
      have H4 := Lib.hid h4
      clear h4
      cases B
      · have fin : Hid (false = V) := hV.out
        go_wp2
        go_ret
        exact ⟨ret_b2 fin.out, by (show Rel _ _; repeat (first | with_reducible exact Rel.refl _ | with_reducible refine Rel.alloc ?_ _ | with_reducible refine Rel.setCell ?_ (by first | (simp; done) | (simp; omega)) _ | with_reducible refine Rel.drew ?_ | with_reducible refine Rel.trans ?_ H4.out | with_reducible refine Rel.trans ?_ H3.out | with_reducible refine Rel.trans ?_ H2.out | with_reducible refine Rel.trans ?_ H1.out | with_reducible refine Rel.trans ?_ H0.out))⟩
      · have fin : Hid (s.toList.isEmpty = V) := by
          show _ = _
          rw [← hV.out, em_eq]; rfl
        go_wp2
        go_ret
        exact ⟨ret_b2 fin.out, by (show Rel _ _; repeat (first | with_reducible exact Rel.refl _ | with_reducible refine Rel.alloc ?_ _ | with_reducible refine Rel.setCell ?_ (by first | (simp; done) | (simp; omega)) _ | with_reducible refine Rel.drew ?_ | with_reducible refine Rel.trans ?_ H4.out | with_reducible refine Rel.trans ?_ H3.out | with_reducible refine Rel.trans ?_ H2.out | with_reducible refine Rel.trans ?_ H1.out | with_reducible refine Rel.trans ?_ H0.out))⟩
    · have e1 : (op == 1) = false := by rw [beq_eq_false_iff_ne]; exact h1
      by_cases h2 : op = 2
      · subst h2
        rw [nod_2 HAR.out] at hV
        have N := Lib.hid fun w => isName_any s w s1
        obtain ⟨B, hB⟩ : ∃ B, namB s = B := ⟨_, rfl⟩
        rw [hB] at N hV
        clear hB
        go_enter Tryd.func54, Tryd.ntmps54
        go_wp2_with fail
        refine wp_region_calm (fun _ w' => w'.cell? { block := w.heap.size, off := 5 } = some (.slice ad n cap) ∧ w'.cell? { block := w.heap.size, off := 0 } = some (.int .i64 2)) (fun _ => false) [0, 1, 2, 3, 4, 5, 6] 0 (by kernel_rfl) (by kernel_rfl) ?hst ?hS0 (fun w0 h0 => ?_)
        case hst => exact fun _ _ _ h r => ⟨r.cell h.1, r.cell h.2⟩
        case hS0 => exact ⟨by go_simp, by go_simp⟩
        iterate 5
          refine wpCalm_go rfl (by kernel_rfl) (fun K hK => ?_)
          apply Exists.intro
          refine ⟨fun M w hM hS => ?_, hK _ ?_⟩
          · have hc := hS.1
            have hc' := hS.2
            unfold calmAt
            go_simp
            exact ⟨rfl, Rel.refl _⟩
          clear hK K
        refine wpCalm_go rfl (by kernel_rfl) (fun K hK => ?_)
        apply Exists.intro
        refine ⟨fun M w hM hS => ?_, hK _ ?_⟩
        · unfold calmAt
          go_simp
          with_reducible refine (AR.out _).mono ?_
          rintro e w1 ⟨rfl, rfl⟩
          exact ⟨rfl, Rel.refl _⟩
        clear hK K
        iterate 1
          refine wpCalm_go rfl (by kernel_rfl) (fun K hK => ?_)
          apply Exists.intro
          refine ⟨fun M w hM hS => ?_, hK _ ?_⟩
          · unfold calmAt
            go_simp
            exact ⟨rfl, Rel.refl _⟩
          clear hK K
        refine wpAnyR_end (by kernel_rfl) (fun w3 h3' => ?_)
        (try simp only [Act.put, List.setIfInBounds_toArray, List.set_cons_zero, List.set_cons_succ])
        have h3 := h0.trans h3'
        clear h0 h3'
        have q := keep6 h3 (b := w.heap.size) (by first | (simp; done) | (simp; omega) | omega)
        have kc3_0_0 := q.1
        have kc3_0_1 := q.2.1
        have kc3_0_2 := q.2.2.1
        have kc3_0_3 := q.2.2.2.1
        have kc3_0_4 := q.2.2.2.2.1
        have kc3_0_5 := q.2.2.2.2.2.1
        have kf3_0_0 := q.2.2.2.2.2.2.1
        have kf3_0_1 := q.2.2.2.2.2.2.2.1
        have kf3_0_2 := q.2.2.2.2.2.2.2.2.1
        have kf3_0_3 := q.2.2.2.2.2.2.2.2.2.1
        have kf3_0_4 := q.2.2.2.2.2.2.2.2.2.2.1
        have kf3_0_5 := q.2.2.2.2.2.2.2.2.2.2.2.1
        have kl3_0 := q.2.2.2.2.2.2.2.2.2.2.2.2.1
        have kn3_0 := q.2.2.2.2.2.2.2.2.2.2.2.2.2.1
        have km3_0 := q.2.2.2.2.2.2.2.2.2.2.2.2.2.2
        clear q
        have kz3 := h3.size
        (try simp only [World.size_alloc, World.size_setCell, World.size_drew] at kz3)
        have H3 := Lib.hid h3
        clear h3
        go_wp2_with fail
        refine (N.out _).mono ?_
        rintro e w4 ⟨rfl, rfl⟩
        cases B
        · have fin : Hid (false = V) := hV.out
          go_wp2
          go_ret
          exact ⟨ret_b2 fin.out, by (show Rel _ _; repeat (first | with_reducible exact Rel.refl _ | with_reducible refine Rel.alloc ?_ _ | with_reducible refine Rel.setCell ?_ (by first | (simp; done) | (simp; omega)) _ | with_reducible refine Rel.drew ?_ | with_reducible refine Rel.trans ?_ H3.out | with_reducible refine Rel.trans ?_ H2.out | with_reducible refine Rel.trans ?_ H1.out | with_reducible refine Rel.trans ?_ H0.out))⟩
        · skip
          by_cases t0 : a = 0
          · subst t0
            by_cases t1 : b = 0
            · subst t1
              have fin : Hid ((d == 0) = V) := by
                show _ = _
                rw [← hV.out]; simp [em_eq]
              go_wp2
              go_ret
              exact ⟨ret_b2 fin.out, by (show Rel _ _; repeat (first | with_reducible exact Rel.refl _ | with_reducible refine Rel.alloc ?_ _ | with_reducible refine Rel.setCell ?_ (by first | (simp; done) | (simp; omega)) _ | with_reducible refine Rel.drew ?_ | with_reducible refine Rel.trans ?_ H3.out | with_reducible refine Rel.trans ?_ H2.out | with_reducible refine Rel.trans ?_ H1.out | with_reducible refine Rel.trans ?_ H0.out))⟩
            · have f1 : (b == 0) = false := by rw [beq_eq_false_iff_ne]; exact t1
              have fin : Hid (false = V) := by
                show _ = _
                rw [← hV.out]; simp [f1]
              clear t1
              go_wp2
              go_ret
              exact ⟨ret_b2 fin.out, by (show Rel _ _; repeat (first | with_reducible exact Rel.refl _ | with_reducible refine Rel.alloc ?_ _ | with_reducible refine Rel.setCell ?_ (by first | (simp; done) | (simp; omega)) _ | with_reducible refine Rel.drew ?_ | with_reducible refine Rel.trans ?_ H3.out | with_reducible refine Rel.trans ?_ H2.out | with_reducible refine Rel.trans ?_ H1.out | with_reducible refine Rel.trans ?_ H0.out))⟩
          · have f0 : (a == 0) = false := by rw [beq_eq_false_iff_ne]; exact t0
            have fin : Hid (false = V) := by
              show _ = _
              rw [← hV.out]; simp [f0]
            clear t0
            go_wp2
            go_ret
            exact ⟨ret_b2 fin.out, by (show Rel _ _; repeat (first | with_reducible exact Rel.refl _ | with_reducible refine Rel.alloc ?_ _ | with_reducible refine Rel.setCell ?_ (by first | (simp; done) | (simp; omega)) _ | with_reducible refine Rel.drew ?_ | with_reducible refine Rel.trans ?_ H3.out | with_reducible refine Rel.trans ?_ H2.out | with_reducible refine Rel.trans ?_ H1.out | with_reducible refine Rel.trans ?_ H0.out))⟩
      · have e2 : (op == 2) = false := by rw [beq_eq_false_iff_ne]; exact h2
        by_cases h3 : op = 3
        · subst h3
          rw [nod_3 HAR.out] at hV
          go_enter Tryd.func54, Tryd.ntmps54
          go_wp2_with fail
          refine wp_region_calm (fun _ w' => w'.cell? { block := w.heap.size, off := 5 } = some (.slice ad n cap) ∧ w'.cell? { block := w.heap.size, off := 0 } = some (.int .i64 3)) (fun _ => false) [0, 1, 2, 3, 4, 5, 6] 0 (by kernel_rfl) (by kernel_rfl) ?hst ?hS0 (fun w0 h0 => ?_)
          case hst => exact fun _ _ _ h r => ⟨r.cell h.1, r.cell h.2⟩
          case hS0 => exact ⟨by go_simp, by go_simp⟩
          iterate 5
            refine wpCalm_go rfl (by kernel_rfl) (fun K hK => ?_)
            apply Exists.intro
            refine ⟨fun M w hM hS => ?_, hK _ ?_⟩
            · have hc := hS.1
              have hc' := hS.2
              unfold calmAt
              go_simp
              exact ⟨rfl, Rel.refl _⟩
            clear hK K
          refine wpCalm_go rfl (by kernel_rfl) (fun K hK => ?_)
          apply Exists.intro
          refine ⟨fun M w hM hS => ?_, hK _ ?_⟩
          · unfold calmAt
            go_simp
            with_reducible refine (AR.out _).mono ?_
            rintro e w1 ⟨rfl, rfl⟩
            exact ⟨rfl, Rel.refl _⟩
          clear hK K
          iterate 1
            refine wpCalm_go rfl (by kernel_rfl) (fun K hK => ?_)
            apply Exists.intro
            refine ⟨fun M w hM hS => ?_, hK _ ?_⟩
            · unfold calmAt
              go_simp
              exact ⟨rfl, Rel.refl _⟩
            clear hK K
          refine wpAnyR_end (by kernel_rfl) (fun w3 h3' => ?_)
          (try simp only [Act.put, List.setIfInBounds_toArray, List.set_cons_zero, List.set_cons_succ])
          have h3 := h0.trans h3'
          clear h0 h3'
          have q := keep6 h3 (b := w.heap.size) (by first | (simp; done) | (simp; omega) | omega)
          have kc3_0_0 := q.1
          have kc3_0_1 := q.2.1
          have kc3_0_2 := q.2.2.1
          have kc3_0_3 := q.2.2.2.1
          have kc3_0_4 := q.2.2.2.2.1
          have kc3_0_5 := q.2.2.2.2.2.1
          have kf3_0_0 := q.2.2.2.2.2.2.1
          have kf3_0_1 := q.2.2.2.2.2.2.2.1
          have kf3_0_2 := q.2.2.2.2.2.2.2.2.1
          have kf3_0_3 := q.2.2.2.2.2.2.2.2.2.1
          have kf3_0_4 := q.2.2.2.2.2.2.2.2.2.2.1
          have kf3_0_5 := q.2.2.2.2.2.2.2.2.2.2.2.1
          have kl3_0 := q.2.2.2.2.2.2.2.2.2.2.2.2.1
          have kn3_0 := q.2.2.2.2.2.2.2.2.2.2.2.2.2.1
          have km3_0 := q.2.2.2.2.2.2.2.2.2.2.2.2.2.2
          clear q
          have kz3 := h3.size
          (try simp only [World.size_alloc, World.size_setCell, World.size_drew] at kz3)
          have H3 := Lib.hid h3
          clear h3
          by_cases t0 : b = 1
          · subst t0
            by_cases t1 : 1 ≤ a
            · have f1 : decide (1 ≤ a) = true := decide_eq_true t1
              by_cases t2 : a ≤ 45
              · have f2 : decide (a ≤ 45) = true := decide_eq_true t2
                by_cases t3 : d = 0
                · subst t3
                  have fin : Hid (s.toList.isEmpty = V) := by
                    show _ = _
                    rw [← hV.out]; simp [em_eq, t1, t2]
                  go_wp2
                  go_ret
                  exact ⟨ret_b2 fin.out, by (show Rel _ _; repeat (first | with_reducible exact Rel.refl _ | with_reducible refine Rel.alloc ?_ _ | with_reducible refine Rel.setCell ?_ (by first | (simp; done) | (simp; omega)) _ | with_reducible refine Rel.drew ?_ | with_reducible refine Rel.trans ?_ H3.out | with_reducible refine Rel.trans ?_ H2.out | with_reducible refine Rel.trans ?_ H1.out | with_reducible refine Rel.trans ?_ H0.out))⟩
                · have f3 : (d == 0) = false := by rw [beq_eq_false_iff_ne]; exact t3
                  have fin : Hid (false = V) := by
                    show _ = _
                    rw [← hV.out]; simp [f3]
                  clear t3
                  go_wp2
                  go_ret
                  exact ⟨ret_b2 fin.out, by (show Rel _ _; repeat (first | with_reducible exact Rel.refl _ | with_reducible refine Rel.alloc ?_ _ | with_reducible refine Rel.setCell ?_ (by first | (simp; done) | (simp; omega)) _ | with_reducible refine Rel.drew ?_ | with_reducible refine Rel.trans ?_ H3.out | with_reducible refine Rel.trans ?_ H2.out | with_reducible refine Rel.trans ?_ H1.out | with_reducible refine Rel.trans ?_ H0.out))⟩
              · have f2 : decide (a ≤ 45) = false := decide_eq_false t2
                have fin : Hid (false = V) := by
                  show _ = _
                  rw [← hV.out]; simp [t2]
                go_wp2
                go_ret
                exact ⟨ret_b2 fin.out, by (show Rel _ _; repeat (first | with_reducible exact Rel.refl _ | with_reducible refine Rel.alloc ?_ _ | with_reducible refine Rel.setCell ?_ (by first | (simp; done) | (simp; omega)) _ | with_reducible refine Rel.drew ?_ | with_reducible refine Rel.trans ?_ H3.out | with_reducible refine Rel.trans ?_ H2.out | with_reducible refine Rel.trans ?_ H1.out | with_reducible refine Rel.trans ?_ H0.out))⟩
            · have f1 : decide (1 ≤ a) = false := decide_eq_false t1
              have fin : Hid (false = V) := by
                show _ = _
                rw [← hV.out]; simp [t1]
              go_wp2
              go_ret
              exact ⟨ret_b2 fin.out, by (show Rel _ _; repeat (first | with_reducible exact Rel.refl _ | with_reducible refine Rel.alloc ?_ _ | with_reducible refine Rel.setCell ?_ (by first | (simp; done) | (simp; omega)) _ | with_reducible refine Rel.drew ?_ | with_reducible refine Rel.trans ?_ H3.out | with_reducible refine Rel.trans ?_ H2.out | with_reducible refine Rel.trans ?_ H1.out | with_reducible refine Rel.trans ?_ H0.out))⟩
          · have f0 : (b == 1) = false := by rw [beq_eq_false_iff_ne]; exact t0
            have fin : Hid (false = V) := by
              show _ = _
              rw [← hV.out]; simp [f0]
            clear t0
            go_wp2
            go_ret
            exact ⟨ret_b2 fin.out, by (show Rel _ _; repeat (first | with_reducible exact Rel.refl _ | with_reducible refine Rel.alloc ?_ _ | with_reducible refine Rel.setCell ?_ (by first | (simp; done) | (simp; omega)) _ | with_reducible refine Rel.drew ?_ | with_reducible refine Rel.trans ?_ H3.out | with_reducible refine Rel.trans ?_ H2.out | with_reducible refine Rel.trans ?_ H1.out | with_reducible refine Rel.trans ?_ H0.out))⟩
        · have e3 : (op == 3) = false := by rw [beq_eq_false_iff_ne]; exact h3
          rw [nod_o HAR.out h1 h2 h3] at hV
          clear h1 h2 h3
          go_enter Tryd.func54, Tryd.ntmps54
          go_wp2_with fail
          refine wp_region_calm (fun _ w' => w'.cell? { block := w.heap.size, off := 5 } = some (.slice ad n cap) ∧ w'.cell? { block := w.heap.size, off := 0 } = some (.int .i64 op)) (fun _ => false) [0, 1, 2, 3, 4, 5, 6] 0 (by kernel_rfl) (by kernel_rfl) ?hst ?hS0 (fun w0 h0 => ?_)
          case hst => exact fun _ _ _ h r => ⟨r.cell h.1, r.cell h.2⟩
          case hS0 => exact ⟨by go_simp, by go_simp⟩
          iterate 5
            refine wpCalm_go rfl (by kernel_rfl) (fun K hK => ?_)
            apply Exists.intro
            refine ⟨fun M w hM hS => ?_, hK _ ?_⟩
            · have hc := hS.1
              have hc' := hS.2
              unfold calmAt
              go_simp
              exact ⟨rfl, Rel.refl _⟩
            clear hK K
          refine wpCalm_go rfl (by kernel_rfl) (fun K hK => ?_)
          apply Exists.intro
          refine ⟨fun M w hM hS => ?_, hK _ ?_⟩
          · unfold calmAt
            go_simp
            with_reducible refine (AR.out _).mono ?_
            rintro e w1 ⟨rfl, rfl⟩
            exact ⟨rfl, Rel.refl _⟩
          clear hK K
          iterate 1
            refine wpCalm_go rfl (by kernel_rfl) (fun K hK => ?_)
            apply Exists.intro
            refine ⟨fun M w hM hS => ?_, hK _ ?_⟩
            · unfold calmAt
              go_simp
              exact ⟨rfl, Rel.refl _⟩
            clear hK K
          refine wpAnyR_end (by kernel_rfl) (fun w3 h3' => ?_)
          (try simp only [Act.put, List.setIfInBounds_toArray, List.set_cons_zero, List.set_cons_succ])
          have h3 := h0.trans h3'
          clear h0 h3'
          have q := keep6 h3 (b := w.heap.size) (by first | (simp; done) | (simp; omega) | omega)
          have kc3_0_0 := q.1
          have kc3_0_1 := q.2.1
          have kc3_0_2 := q.2.2.1
          have kc3_0_3 := q.2.2.2.1
          have kc3_0_4 := q.2.2.2.2.1
          have kc3_0_5 := q.2.2.2.2.2.1
          have kf3_0_0 := q.2.2.2.2.2.2.1
          have kf3_0_1 := q.2.2.2.2.2.2.2.1
          have kf3_0_2 := q.2.2.2.2.2.2.2.2.1
          have kf3_0_3 := q.2.2.2.2.2.2.2.2.2.1
          have kf3_0_4 := q.2.2.2.2.2.2.2.2.2.2.1
          have kf3_0_5 := q.2.2.2.2.2.2.2.2.2.2.2.1
          have kl3_0 := q.2.2.2.2.2.2.2.2.2.2.2.2.1
          have kn3_0 := q.2.2.2.2.2.2.2.2.2.2.2.2.2.1
          have km3_0 := q.2.2.2.2.2.2.2.2.2.2.2.2.2.2
          clear q
          have kz3 := h3.size
          (try simp only [World.size_alloc, World.size_setCell, World.size_drew] at kz3)
          have H3 := Lib.hid h3
          clear h3
          by_cases t0 : a = 0
          · subst t0
            by_cases t1 : b = 0
            · subst t1
              by_cases t2 : d = 0
              · subst t2
                have fin : Hid (s.toList.isEmpty = V) := by
                  show _ = _
                  rw [← hV.out]; simp [em_eq]
                go_wp2
                go_ret
                exact ⟨ret_b2 fin.out, by (show Rel _ _; repeat (first | with_reducible exact Rel.refl _ | with_reducible refine Rel.alloc ?_ _ | with_reducible refine Rel.setCell ?_ (by first | (simp; done) | (simp; omega)) _ | with_reducible refine Rel.drew ?_ | with_reducible refine Rel.trans ?_ H3.out | with_reducible refine Rel.trans ?_ H2.out | with_reducible refine Rel.trans ?_ H1.out | with_reducible refine Rel.trans ?_ H0.out))⟩
              · have f2 : (d == 0) = false := by rw [beq_eq_false_iff_ne]; exact t2
                have fin : Hid (false = V) := by
                  show _ = _
                  rw [← hV.out]; simp [f2]
                clear t2
                go_wp2
                go_ret
                exact ⟨ret_b2 fin.out, by (show Rel _ _; repeat (first | with_reducible exact Rel.refl _ | with_reducible refine Rel.alloc ?_ _ | with_reducible refine Rel.setCell ?_ (by first | (simp; done) | (simp; omega)) _ | with_reducible refine Rel.drew ?_ | with_reducible refine Rel.trans ?_ H3.out | with_reducible refine Rel.trans ?_ H2.out | with_reducible refine Rel.trans ?_ H1.out | with_reducible refine Rel.trans ?_ H0.out))⟩
            · have f1 : (b == 0) = false := by rw [beq_eq_false_iff_ne]; exact t1
              have fin : Hid (false = V) := by
                show _ = _
                rw [← hV.out]; simp [f1]
              clear t1
              go_wp2
              go_ret
              exact ⟨ret_b2 fin.out, by (show Rel _ _; repeat (first | with_reducible exact Rel.refl _ | with_reducible refine Rel.alloc ?_ _ | with_reducible refine Rel.setCell ?_ (by first | (simp; done) | (simp; omega)) _ | with_reducible refine Rel.drew ?_ | with_reducible refine Rel.trans ?_ H3.out | with_reducible refine Rel.trans ?_ H2.out | with_reducible refine Rel.trans ?_ H1.out | with_reducible refine Rel.trans ?_ H0.out))⟩
          · have f0 : (a == 0) = false := by rw [beq_eq_false_iff_ne]; exact t0
            have fin : Hid (false = V) := by
              show _ = _
              rw [← hV.out]; simp [f0]
            clear t0
            go_wp2
            go_ret
            exact ⟨ret_b2 fin.out, by (show Rel _ _; repeat (first | with_reducible exact Rel.refl _ | with_reducible refine Rel.alloc ?_ _ | with_reducible refine Rel.setCell ?_ (by first | (simp; done) | (simp; omega)) _ | with_reducible refine Rel.drew ?_ | with_reducible refine Rel.trans ?_ H3.out | with_reducible refine Rel.trans ?_ H2.out | with_reducible refine Rel.trans ?_ H1.out | with_reducible refine Rel.trans ?_ H0.out))⟩
  · have hA : ((n : Int) != arI op) = true := by rw [bne_iff_ne]; exact har
    have fin : Hid (false = V) := by
      show _ = _
      rw [← hV.out, nod_mis har]
    obtain ⟨A, hAA⟩ : ∃ A, arI op = A := ⟨_, rfl⟩
    rw [hAA] at hA AR
    clear har hAA
    go_enter Tryd.func54, Tryd.ntmps54
    go_wp2_with fail
    refine wp_region_calm (fun _ w' => w'.cell? { block := w.heap.size, off := 5 } = some (.slice ad n cap) ∧ w'.cell? { block := w.heap.size, off := 0 } = some (.int .i64 op)) (fun _ => false) [0, 1, 2, 3, 4, 5, 6] 0 (by kernel_rfl) (by kernel_rfl) ?hst ?hS0 (fun w0 h0 => ?_)
    case hst => exact fun _ _ _ h r => ⟨r.cell h.1, r.cell h.2⟩
    case hS0 => exact ⟨by go_simp, by go_simp⟩
    iterate 5
      refine wpCalm_go rfl (by kernel_rfl) (fun K hK => ?_)
      apply Exists.intro
      refine ⟨fun M w hM hS => ?_, hK _ ?_⟩
      · have hc := hS.1
        have hc' := hS.2
        unfold calmAt
        go_simp
        exact ⟨rfl, Rel.refl _⟩
      clear hK K
    refine wpCalm_go rfl (by kernel_rfl) (fun K hK => ?_)
    apply Exists.intro
    refine ⟨fun M w hM hS => ?_, hK _ ?_⟩
    · unfold calmAt
      go_simp
      with_reducible refine (AR.out _).mono ?_
      rintro e w1 ⟨rfl, rfl⟩
      exact ⟨rfl, Rel.refl _⟩
    clear hK K
    iterate 1
      refine wpCalm_go rfl (by kernel_rfl) (fun K hK => ?_)
      apply Exists.intro
      refine ⟨fun M w hM hS => ?_, hK _ ?_⟩
      · unfold calmAt
        go_simp
        exact ⟨rfl, Rel.refl _⟩
      clear hK K
    refine wpAnyR_end (by kernel_rfl) (fun w3 h3' => ?_)
    (try simp only [Act.put, List.setIfInBounds_toArray, List.set_cons_zero, List.set_cons_succ])
    have h3 := h0.trans h3'
    clear h0 h3'
    have q := keep6 h3 (b := w.heap.size) (by first | (simp; done) | (simp; omega) | omega)
    have kc3_0_0 := q.1
    have kc3_0_1 := q.2.1
    have kc3_0_2 := q.2.2.1
    have kc3_0_3 := q.2.2.2.1
    have kc3_0_4 := q.2.2.2.2.1
    have kc3_0_5 := q.2.2.2.2.2.1
    have kf3_0_0 := q.2.2.2.2.2.2.1
    have kf3_0_1 := q.2.2.2.2.2.2.2.1
    have kf3_0_2 := q.2.2.2.2.2.2.2.2.1
    have kf3_0_3 := q.2.2.2.2.2.2.2.2.2.1
    have kf3_0_4 := q.2.2.2.2.2.2.2.2.2.2.1
    have kf3_0_5 := q.2.2.2.2.2.2.2.2.2.2.2.1
    have kl3_0 := q.2.2.2.2.2.2.2.2.2.2.2.2.1
    have kn3_0 := q.2.2.2.2.2.2.2.2.2.2.2.2.2.1
    have km3_0 := q.2.2.2.2.2.2.2.2.2.2.2.2.2.2
    clear q
    have kz3 := h3.size
    (try simp only [World.size_alloc, World.size_setCell, World.size_drew] at kz3)
    have H3 := Lib.hid h3
    clear h3
    go_wp2
    go_ret
    exact ⟨ret_b2 fin.out, by (show Rel _ _; repeat (first | with_reducible exact Rel.refl _ | with_reducible refine Rel.alloc ?_ _ | with_reducible refine Rel.setCell ?_ (by first | (simp; done) | (simp; omega)) _ | with_reducible refine Rel.drew ?_ | with_reducible refine Rel.trans ?_ H3.out | with_reducible refine Rel.trans ?_ H2.out | with_reducible refine Rel.trans ?_ H1.out | with_reducible refine Rel.trans ?_ H0.out))⟩

end Go.Proofs.YtnhmebhmlbofgaaDoor

/- Contracts of both Parses. No conditions but those printed. -/
import Derived.Test.YtfdajdlbkdfhoaaDoorDoorA
import Derived.Test.YtfdajdlbkdfhoaaDoorDoorP
namespace Go.Proofs.YtfdajdlbkdfhoaaDoor
open Go.RowKit Cal Str Tok Frac Txt
attribute [local go_sem] calmUpon
set_option linter.unusedVariables false
set_option linter.unusedSimpArgs false

def PrsRes (s : ByteArray) (w : World) (e : Ending) (w' : World) : Prop := ∃ (N D : Int) (B : Bool), e = .returned (.tuple #[.agg #[.int .i64 N, .int .i64 D], .bool B]) ∧ ((B = true ∧ IsTxt s N D) ∨ (B = false ∧ N = 0 ∧ D = 0 ∧ ∀ n d, ¬ IsTxt s n d)) ∧ Rel w w'
theorem prs_no {s : ByteArray} {w w' : World} (h : ∀ n d, ¬ IsTxt s n d) (r : Rel w w') : PrsRes s w (.returned (.tuple #[.agg #[.int .i64 0, .int .i64 0], .bool false])) w' := ⟨0, 0, false, rfl, .inr ⟨rfl, rfl, rfl, h⟩, r⟩
theorem prs_yes {s : ByteArray} {n d : Int} {w w' : World} (h : IsTxt s n d) (r : Rel w w') : PrsRes s w (.returned (.tuple #[.agg #[.int .i64 n, .int .i64 d], .bool true])) w' := ⟨n, d, true, rfl, .inl ⟨rfl, h⟩, r⟩

theorem atoi_bd {l : List UInt8} {v : Int} (h : Lib.atoiAll l = .ok v) : -9223372036854775808 ≤ v ∧ v ≤ 9223372036854775807 := by
  cases l with
  | nil => simp [Lib.atoiAll] at h
  | cons c r =>
    simp only [Lib.atoiAll] at h
    split at h
    · cases h
    · cases h
    · rename_i u hu
      split at h
      · cases h
      · rename_i h1
        split at h
        · cases h
        · rename_i h2
          injection h with h
          by_cases hc : c.toNat = 45
          · rw [if_pos hc] at h; simp [hc] at h2; omega
          · rw [if_neg hc] at h; simp [hc] at h1; omega

theorem txt_parts {s : ByteArray} {n d : Int} (h : IsTxt s n d) : Lib.atoiAll (asS s).data.toList = .ok n ∧ ((d = 1 ∧ pns s.data.toList = false) ∨ (¬ d = 1 ∧ pns s.data.toList = true ∧ Lib.atoiAll (bsS s).data.toList = .ok d)) := by
  have b := valid_bd h.1
  obtain ⟨h1, h2⟩ := txt_cut h
  have e1 : (asS s).data.toList = numL n := by unfold asS; rw [mk_list, h1]
  refine ⟨by rw [e1]; exact atoi_numL n (by omega) (by omega), ?_⟩
  rcases h2 with ⟨a, c⟩ | ⟨a, c, e⟩
  · exact .inl ⟨a, c⟩
  · have e2 : (bsS s).data.toList = numL d := by unfold bsS; rw [mk_list, e]
    exact .inr ⟨a, c, by rw [e2]; exact atoi_numL d (by omega) (by omega)⟩
theorem ok_inj {a b : Int} (h : (Lib.NumEnd.ok a : Lib.NumEnd Int) = .ok b) : a = b := by injection h
theorem toList_eq {a b : ByteArray} (h : a.toList = b.toList) : a = b := by
  apply ba_ext; rwa [Lib.toList_data, Lib.toList_data] at h

set_option maxHeartbeats 8000000 in
theorem Parse_frac (s : ByteArray) (w : World) (hs : s.size ≤ 140737488355328) (ht : TabW w) (he : ErrW w) :
    Calls Tryd.prog 14 #[.string s] w (PrsRes s w) := by
  have hasz : (asS s).size ≤ 140737488355328 := by
    rw [← size_list, asS, mk_list]; have := ahs_len s.data.toList; rw [size_list] at this; omega
  have hbsz : (bsS s).size ≤ 140737488355328 := by
    rw [← size_list, bsS, mk_list]; have := ahs_len s.data.toList; rw [size_list] at this; omega
  have TP := Lib.hid fun n d (h : IsTxt s n d) => txt_parts h
  have CU := Lib.hid fun w => cut47_any s w (by unfold maxLen; omega)
  obtain ⟨a, ha⟩ : ∃ a, asS s = a := ⟨_, rfl⟩
  obtain ⟨b, hb⟩ : ∃ b, bsS s = b := ⟨_, rfl⟩
  obtain ⟨p, hp⟩ : ∃ p, pns s.data.toList = p := ⟨_, rfl⟩
  rw [ha, hb, hp] at CU TP
  rw [ha] at hasz
  rw [hb] at hbsz
  clear ha hb hp
  go_enter Tryd.func14, Tryd.ntmps14
  go_wp2_with fail
  refine (CU.out _).mono ?_
  rintro e w1 ⟨rfl, h1⟩
  have q := keep2 h1 (b := w.heap.size) (by first | (simp; done) | (simp; omega) | omega)
  have kc1_0_0 := q.1
  have kc1_0_1 := q.2.1
  have kf1_0_0 := q.2.2.1
  have kf1_0_1 := q.2.2.2.1
  have kl1_0 := q.2.2.2.2.1
  have kn1_0 := q.2.2.2.2.2.1
  have km1_0 := q.2.2.2.2.2.2
  clear q
  have q := keep2 h1 (b := w.heap.size + 1) (by first | (simp; done) | (simp; omega) | omega)
  have kc1_1_0 := q.1
  have kc1_1_1 := q.2.1
  have kf1_1_0 := q.2.2.1
  have kf1_1_1 := q.2.2.2.1
  have kl1_1 := q.2.2.2.2.1
  have kn1_1 := q.2.2.2.2.2.1
  have km1_1 := q.2.2.2.2.2.2
  clear q
  have kz1 := h1.size
  (try simp only [World.size_alloc, World.size_setCell, World.size_drew] at kz1)
  have H1 := Lib.hid h1
  clear h1
  have RW1 : Hid (Rel w w1) := by
    show Rel w w1
    (show Rel _ _; repeat (first | with_reducible exact Rel.refl _ | with_reducible refine Rel.alloc ?_ _ | with_reducible refine Rel.setCell ?_ (by first | (simp; done) | (simp; omega)) _ | with_reducible refine Rel.drew ?_ | with_reducible refine Rel.trans ?_ H1.out | with_reducible refine Rel.trans ?_ H0.out))
  go_wp2_with fail
  refine (atoi_any _ _ hasz (he.rel RW1.out)).mono ?_
  unfold AtoiRes
  rintro e w2 (⟨v, hv, rfl, h2⟩ | ⟨hno, v, tp, q, rfl, h2⟩)
  · have bv := atoi_bd hv
    obtain ⟨bv0, bv1⟩ := bv
    have q := keep2 h2 (b := w.heap.size) (by first | (simp; done) | (simp; omega) | omega)
    have kc2_0_0 := q.1
    have kc2_0_1 := q.2.1
    have kf2_0_0 := q.2.2.1
    have kf2_0_1 := q.2.2.2.1
    have kl2_0 := q.2.2.2.2.1
    have kn2_0 := q.2.2.2.2.2.1
    have km2_0 := q.2.2.2.2.2.2
    clear q
    have q := keep2 h2 (b := w.heap.size + 1) (by first | (simp; done) | (simp; omega) | omega)
    have kc2_1_0 := q.1
    have kc2_1_1 := q.2.1
    have kf2_1_0 := q.2.2.1
    have kf2_1_1 := q.2.2.2.1
    have kl2_1 := q.2.2.2.2.1
    have kn2_1 := q.2.2.2.2.2.1
    have km2_1 := q.2.2.2.2.2.2
    clear q
    have kz2 := h2.size
    (try simp only [World.size_alloc, World.size_setCell, World.size_drew] at kz2)
    have H2 := Lib.hid h2
    clear h2
    have HV := Lib.hid hv
    clear hv
    cases p
    · cases hval : validB v 1
      · have V := Lib.hid fun w => valid_any v 1 w bv0 bv1 (by omega) (by omega)
        rw [hval] at V
        have NO : Hid (∀ n d, ¬ IsTxt s n d) := fun n d h => by
          have t := TP.out n d h
          have e1 := ok_inj (t.1.symm.trans HV.out)
          have e2 : d = 1 := by
            rcases t.2 with ⟨e, _⟩ | ⟨_, hp, _⟩
            · exact e
            · cases hp
          have := h.1
          rw [e1, e2, hval] at this; cases this
        clear hval
        go_wp2_with fail
        refine (V.out _).mono ?_
        unfold BRes
        rintro e w3 ⟨rfl, h3⟩
        have q := keep2 h3 (b := w.heap.size) (by first | (simp; done) | (simp; omega) | omega)
        have kc3_0_0 := q.1
        have kc3_0_1 := q.2.1
        have kf3_0_0 := q.2.2.1
        have kf3_0_1 := q.2.2.2.1
        have kl3_0 := q.2.2.2.2.1
        have kn3_0 := q.2.2.2.2.2.1
        have km3_0 := q.2.2.2.2.2.2
        clear q
        have q := keep2 h3 (b := w.heap.size + 1) (by first | (simp; done) | (simp; omega) | omega)
        have kc3_1_0 := q.1
        have kc3_1_1 := q.2.1
        have kf3_1_0 := q.2.2.1
        have kf3_1_1 := q.2.2.2.1
        have kl3_1 := q.2.2.2.2.1
        have kn3_1 := q.2.2.2.2.2.1
        have km3_1 := q.2.2.2.2.2.2
        clear q
        have kz3 := h3.size
        (try simp only [World.size_alloc, World.size_setCell, World.size_drew] at kz3)
        have H3 := Lib.hid h3
        clear h3
        go_wp2
        refine bodyPost_ret (v := .tuple #[.agg #[.int .i64 0, .int .i64 0], .bool false]) ?_ rfl (prs_no NO.out ?_)
        · simp [results, Tryd.results14, go_sem, kc1_0_0, kc1_0_1, kc1_1_0, kc1_1_1, kc2_0_0, kc2_0_1, kc2_1_0, kc2_1_1, kc3_0_0, kc3_0_1, kc3_1_0, kc3_1_1]
        · (show Rel _ _; repeat (first | with_reducible exact Rel.refl _ | with_reducible refine Rel.alloc ?_ _ | with_reducible refine Rel.setCell ?_ (by first | (simp; done) | (simp; omega)) _ | with_reducible refine Rel.drew ?_ | with_reducible refine Rel.trans ?_ H3.out | with_reducible refine Rel.trans ?_ H2.out | with_reducible refine Rel.trans ?_ H1.out | with_reducible refine Rel.trans ?_ H0.out))
      · have V := Lib.hid fun w => valid_any v 1 w bv0 bv1 (by omega) (by omega)
        rw [hval] at V
        obtain ⟨F, hF⟩ : ∃ F, fmtS v 1 = F := ⟨_, rfl⟩
        have FM : Hid (∀ w, TabW w → Calls Tryd.prog 13 #[.agg #[.int .i64 v, .int .i64 1]] w fun e w' => e = .returned (.string F) ∧ Rel w w') := fun w ht => by
          have := Format_any v 1 w ht bv0 bv1 (by omega) (by omega)
          unfold StrRes at this; rwa [hF] at this
        go_wp2_with fail
        refine (V.out _).mono ?_
        unfold BRes
        rintro e w3 ⟨rfl, h3⟩
        have q := keep2 h3 (b := w.heap.size) (by first | (simp; done) | (simp; omega) | omega)
        have kc3_0_0 := q.1
        have kc3_0_1 := q.2.1
        have kf3_0_0 := q.2.2.1
        have kf3_0_1 := q.2.2.2.1
        have kl3_0 := q.2.2.2.2.1
        have kn3_0 := q.2.2.2.2.2.1
        have km3_0 := q.2.2.2.2.2.2
        clear q
        have q := keep2 h3 (b := w.heap.size + 1) (by first | (simp; done) | (simp; omega) | omega)
        have kc3_1_0 := q.1
        have kc3_1_1 := q.2.1
        have kf3_1_0 := q.2.2.1
        have kf3_1_1 := q.2.2.2.1
        have kl3_1 := q.2.2.2.2.1
        have kn3_1 := q.2.2.2.2.2.1
        have km3_1 := q.2.2.2.2.2.2
        clear q
        have kz3 := h3.size
        (try simp only [World.size_alloc, World.size_setCell, World.size_drew] at kz3)
        have H3 := Lib.hid h3
        clear h3
        go_wp2_with fail
        refine (FM.out _ (ht.rel (by (show Rel _ _; repeat (first | with_reducible exact Rel.refl _ | with_reducible refine Rel.alloc ?_ _ | with_reducible refine Rel.setCell ?_ (by first | (simp; done) | (simp; omega)) _ | with_reducible refine Rel.drew ?_ | with_reducible refine Rel.trans ?_ H4.out | with_reducible refine Rel.trans ?_ H3.out | with_reducible refine Rel.trans ?_ H2.out | with_reducible refine Rel.trans ?_ H1.out))))).mono ?_
        rintro e w4 ⟨rfl, h4⟩
        have q := keep2 h4 (b := w.heap.size) (by first | (simp; done) | (simp; omega) | omega)
        have kc4_0_0 := q.1
        have kc4_0_1 := q.2.1
        have kf4_0_0 := q.2.2.1
        have kf4_0_1 := q.2.2.2.1
        have kl4_0 := q.2.2.2.2.1
        have kn4_0 := q.2.2.2.2.2.1
        have km4_0 := q.2.2.2.2.2.2
        clear q
        have q := keep2 h4 (b := w.heap.size + 1) (by first | (simp; done) | (simp; omega) | omega)
        have kc4_1_0 := q.1
        have kc4_1_1 := q.2.1
        have kf4_1_0 := q.2.2.1
        have kf4_1_1 := q.2.2.2.1
        have kl4_1 := q.2.2.2.2.1
        have kn4_1 := q.2.2.2.2.2.1
        have km4_1 := q.2.2.2.2.2.2
        clear q
        have kz4 := h4.size
        (try simp only [World.size_alloc, World.size_setCell, World.size_drew] at kz4)
        have H4 := Lib.hid h4
        clear h4
        by_cases hFs : F = s
        · have YES : Hid (IsTxt s v 1) := ⟨hval, hF.trans hFs⟩
          have n1 : (F.toList == s.toList) = true := by rw [hFs]; simp
          subst hFs
          clear hval hF
          go_wp2
          refine bodyPost_ret (v := .tuple #[.agg #[.int .i64 v, .int .i64 1], .bool true]) ?_ rfl (prs_yes YES.out ?_)
          · simp [results, Tryd.results14, go_sem, kc1_0_0, kc1_0_1, kc1_1_0, kc1_1_1, kc2_0_0, kc2_0_1, kc2_1_0, kc2_1_1, kc3_0_0, kc3_0_1, kc3_1_0, kc3_1_1, kc4_0_0, kc4_0_1, kc4_1_0, kc4_1_1]
          · (show Rel _ _; repeat (first | with_reducible exact Rel.refl _ | with_reducible refine Rel.alloc ?_ _ | with_reducible refine Rel.setCell ?_ (by first | (simp; done) | (simp; omega)) _ | with_reducible refine Rel.drew ?_ | with_reducible refine Rel.trans ?_ H4.out | with_reducible refine Rel.trans ?_ H3.out | with_reducible refine Rel.trans ?_ H2.out | with_reducible refine Rel.trans ?_ H1.out | with_reducible refine Rel.trans ?_ H0.out))
        · have NO : Hid (∀ n d, ¬ IsTxt s n d) := fun n d h => by
            have t := TP.out n d h
            have e1 := ok_inj (t.1.symm.trans HV.out)
            have e2 : d = 1 := by
              rcases t.2 with ⟨e, _⟩ | ⟨_, hp, _⟩
              · exact e
              · cases hp
            have := h.2
            rw [e1, e2, hF] at this; exact hFs this
          have hl : ¬ F.toList = s.toList := fun h => hFs (toList_eq h)
          have n1 : (F.toList == s.toList) = false := by simpa using hl
          clear hval hF hFs
          go_wp2
          refine bodyPost_ret (v := .tuple #[.agg #[.int .i64 0, .int .i64 0], .bool false]) ?_ rfl (prs_no NO.out ?_)
          · simp [results, Tryd.results14, go_sem, kc1_0_0, kc1_0_1, kc1_1_0, kc1_1_1, kc2_0_0, kc2_0_1, kc2_1_0, kc2_1_1, kc3_0_0, kc3_0_1, kc3_1_0, kc3_1_1, kc4_0_0, kc4_0_1, kc4_1_0, kc4_1_1]
          · (show Rel _ _; repeat (first | with_reducible exact Rel.refl _ | with_reducible refine Rel.alloc ?_ _ | with_reducible refine Rel.setCell ?_ (by first | (simp; done) | (simp; omega)) _ | with_reducible refine Rel.drew ?_ | with_reducible refine Rel.trans ?_ H4.out | with_reducible refine Rel.trans ?_ H3.out | with_reducible refine Rel.trans ?_ H2.out | with_reducible refine Rel.trans ?_ H1.out | with_reducible refine Rel.trans ?_ H0.out))
    · go_wp2_with fail
      refine (atoi_any _ _ hbsz (he.rel (by (show Rel _ _; repeat (first | with_reducible exact Rel.refl _ | with_reducible refine Rel.alloc ?_ _ | with_reducible refine Rel.setCell ?_ (by first | (simp; done) | (simp; omega)) _ | with_reducible refine Rel.drew ?_ | with_reducible refine Rel.trans ?_ H4.out | with_reducible refine Rel.trans ?_ H3.out | with_reducible refine Rel.trans ?_ H2.out | with_reducible refine Rel.trans ?_ H1.out))))).mono ?_
      unfold AtoiRes
      rintro e w3 (⟨x, hx, rfl, h3⟩ | ⟨hno, x, tp, q, rfl, h3⟩)
      · obtain ⟨bx0, bx1⟩ := atoi_bd hx
        have q := keep2 h3 (b := w.heap.size) (by first | (simp; done) | (simp; omega) | omega)
        have kc3_0_0 := q.1
        have kc3_0_1 := q.2.1
        have kf3_0_0 := q.2.2.1
        have kf3_0_1 := q.2.2.2.1
        have kl3_0 := q.2.2.2.2.1
        have kn3_0 := q.2.2.2.2.2.1
        have km3_0 := q.2.2.2.2.2.2
        clear q
        have q := keep2 h3 (b := w.heap.size + 1) (by first | (simp; done) | (simp; omega) | omega)
        have kc3_1_0 := q.1
        have kc3_1_1 := q.2.1
        have kf3_1_0 := q.2.2.1
        have kf3_1_1 := q.2.2.2.1
        have kl3_1 := q.2.2.2.2.1
        have kn3_1 := q.2.2.2.2.2.1
        have km3_1 := q.2.2.2.2.2.2
        clear q
        have kz3 := h3.size
        (try simp only [World.size_alloc, World.size_setCell, World.size_drew] at kz3)
        have H3 := Lib.hid h3
        clear h3
        have HX := Lib.hid hx
        clear hx
        cases hval : validB v x
        · have V := Lib.hid fun w => valid_any v x w bv0 bv1 bx0 bx1
          rw [hval] at V
          have NO : Hid (∀ n d, ¬ IsTxt s n d) := fun n d h => by
            have t := TP.out n d h
            have e1 := ok_inj (t.1.symm.trans HV.out)
            have e2 : d = x := by
              rcases t.2 with ⟨_, hp⟩ | ⟨_, _, hk⟩
              · cases hp
              · exact ok_inj (hk.symm.trans HX.out)
            have := h.1
            rw [e1, e2, hval] at this; cases this
          clear hval
          go_wp2_with fail
          refine (V.out _).mono ?_
          unfold BRes
          rintro e w4 ⟨rfl, h4⟩
          have q := keep2 h4 (b := w.heap.size) (by first | (simp; done) | (simp; omega) | omega)
          have kc4_0_0 := q.1
          have kc4_0_1 := q.2.1
          have kf4_0_0 := q.2.2.1
          have kf4_0_1 := q.2.2.2.1
          have kl4_0 := q.2.2.2.2.1
          have kn4_0 := q.2.2.2.2.2.1
          have km4_0 := q.2.2.2.2.2.2
          clear q
          have q := keep2 h4 (b := w.heap.size + 1) (by first | (simp; done) | (simp; omega) | omega)
          have kc4_1_0 := q.1
          have kc4_1_1 := q.2.1
          have kf4_1_0 := q.2.2.1
          have kf4_1_1 := q.2.2.2.1
          have kl4_1 := q.2.2.2.2.1
          have kn4_1 := q.2.2.2.2.2.1
          have km4_1 := q.2.2.2.2.2.2
          clear q
          have kz4 := h4.size
          (try simp only [World.size_alloc, World.size_setCell, World.size_drew] at kz4)
          have H4 := Lib.hid h4
          clear h4
          go_wp2
          refine bodyPost_ret (v := .tuple #[.agg #[.int .i64 0, .int .i64 0], .bool false]) ?_ rfl (prs_no NO.out ?_)
          · simp [results, Tryd.results14, go_sem, kc1_0_0, kc1_0_1, kc1_1_0, kc1_1_1, kc2_0_0, kc2_0_1, kc2_1_0, kc2_1_1, kc3_0_0, kc3_0_1, kc3_1_0, kc3_1_1, kc4_0_0, kc4_0_1, kc4_1_0, kc4_1_1]
          · (show Rel _ _; repeat (first | with_reducible exact Rel.refl _ | with_reducible refine Rel.alloc ?_ _ | with_reducible refine Rel.setCell ?_ (by first | (simp; done) | (simp; omega)) _ | with_reducible refine Rel.drew ?_ | with_reducible refine Rel.trans ?_ H4.out | with_reducible refine Rel.trans ?_ H3.out | with_reducible refine Rel.trans ?_ H2.out | with_reducible refine Rel.trans ?_ H1.out | with_reducible refine Rel.trans ?_ H0.out))
        · have V := Lib.hid fun w => valid_any v x w bv0 bv1 bx0 bx1
          rw [hval] at V
          obtain ⟨F, hF⟩ : ∃ F, fmtS v x = F := ⟨_, rfl⟩
          have FM : Hid (∀ w, TabW w → Calls Tryd.prog 13 #[.agg #[.int .i64 v, .int .i64 x]] w fun e w' => e = .returned (.string F) ∧ Rel w w') := fun w ht => by
            have := Format_any v x w ht bv0 bv1 bx0 bx1
            unfold StrRes at this; rwa [hF] at this
          go_wp2_with fail
          refine (V.out _).mono ?_
          unfold BRes
          rintro e w4 ⟨rfl, h4⟩
          have q := keep2 h4 (b := w.heap.size) (by first | (simp; done) | (simp; omega) | omega)
          have kc4_0_0 := q.1
          have kc4_0_1 := q.2.1
          have kf4_0_0 := q.2.2.1
          have kf4_0_1 := q.2.2.2.1
          have kl4_0 := q.2.2.2.2.1
          have kn4_0 := q.2.2.2.2.2.1
          have km4_0 := q.2.2.2.2.2.2
          clear q
          have q := keep2 h4 (b := w.heap.size + 1) (by first | (simp; done) | (simp; omega) | omega)
          have kc4_1_0 := q.1
          have kc4_1_1 := q.2.1
          have kf4_1_0 := q.2.2.1
          have kf4_1_1 := q.2.2.2.1
          have kl4_1 := q.2.2.2.2.1
          have kn4_1 := q.2.2.2.2.2.1
          have km4_1 := q.2.2.2.2.2.2
          clear q
          have kz4 := h4.size
          (try simp only [World.size_alloc, World.size_setCell, World.size_drew] at kz4)
          have H4 := Lib.hid h4
          clear h4
          go_wp2_with fail
          refine (FM.out _ (ht.rel (by (show Rel _ _; repeat (first | with_reducible exact Rel.refl _ | with_reducible refine Rel.alloc ?_ _ | with_reducible refine Rel.setCell ?_ (by first | (simp; done) | (simp; omega)) _ | with_reducible refine Rel.drew ?_ | with_reducible refine Rel.trans ?_ H4.out | with_reducible refine Rel.trans ?_ H3.out | with_reducible refine Rel.trans ?_ H2.out | with_reducible refine Rel.trans ?_ H1.out))))).mono ?_
          rintro e w5 ⟨rfl, h5⟩
          have q := keep2 h5 (b := w.heap.size) (by first | (simp; done) | (simp; omega) | omega)
          have kc5_0_0 := q.1
          have kc5_0_1 := q.2.1
          have kf5_0_0 := q.2.2.1
          have kf5_0_1 := q.2.2.2.1
          have kl5_0 := q.2.2.2.2.1
          have kn5_0 := q.2.2.2.2.2.1
          have km5_0 := q.2.2.2.2.2.2
          clear q
          have q := keep2 h5 (b := w.heap.size + 1) (by first | (simp; done) | (simp; omega) | omega)
          have kc5_1_0 := q.1
          have kc5_1_1 := q.2.1
          have kf5_1_0 := q.2.2.1
          have kf5_1_1 := q.2.2.2.1
          have kl5_1 := q.2.2.2.2.1
          have kn5_1 := q.2.2.2.2.2.1
          have km5_1 := q.2.2.2.2.2.2
          clear q
          have kz5 := h5.size
          (try simp only [World.size_alloc, World.size_setCell, World.size_drew] at kz5)
          have H5 := Lib.hid h5
          clear h5
          by_cases hFs : F = s
          · have YES : Hid (IsTxt s v x) := ⟨hval, hF.trans hFs⟩
            have n1 : (F.toList == s.toList) = true := by rw [hFs]; simp
            subst hFs
            clear hval hF
            go_wp2
            refine bodyPost_ret (v := .tuple #[.agg #[.int .i64 v, .int .i64 x], .bool true]) ?_ rfl (prs_yes YES.out ?_)
            · simp [results, Tryd.results14, go_sem, kc1_0_0, kc1_0_1, kc1_1_0, kc1_1_1, kc2_0_0, kc2_0_1, kc2_1_0, kc2_1_1, kc3_0_0, kc3_0_1, kc3_1_0, kc3_1_1, kc4_0_0, kc4_0_1, kc4_1_0, kc4_1_1, kc5_0_0, kc5_0_1, kc5_1_0, kc5_1_1]
            · (show Rel _ _; repeat (first | with_reducible exact Rel.refl _ | with_reducible refine Rel.alloc ?_ _ | with_reducible refine Rel.setCell ?_ (by first | (simp; done) | (simp; omega)) _ | with_reducible refine Rel.drew ?_ | with_reducible refine Rel.trans ?_ H5.out | with_reducible refine Rel.trans ?_ H4.out | with_reducible refine Rel.trans ?_ H3.out | with_reducible refine Rel.trans ?_ H2.out | with_reducible refine Rel.trans ?_ H1.out | with_reducible refine Rel.trans ?_ H0.out))
          · have NO : Hid (∀ n d, ¬ IsTxt s n d) := fun n d h => by
              have t := TP.out n d h
              have e1 := ok_inj (t.1.symm.trans HV.out)
              have e2 : d = x := by
                rcases t.2 with ⟨_, hp⟩ | ⟨_, _, hk⟩
                · cases hp
                · exact ok_inj (hk.symm.trans HX.out)
              have := h.2
              rw [e1, e2, hF] at this; exact hFs this
            have hl : ¬ F.toList = s.toList := fun h => hFs (toList_eq h)
            have n1 : (F.toList == s.toList) = false := by simpa using hl
            clear hval hF hFs
            go_wp2
            refine bodyPost_ret (v := .tuple #[.agg #[.int .i64 0, .int .i64 0], .bool false]) ?_ rfl (prs_no NO.out ?_)
            · simp [results, Tryd.results14, go_sem, kc1_0_0, kc1_0_1, kc1_1_0, kc1_1_1, kc2_0_0, kc2_0_1, kc2_1_0, kc2_1_1, kc3_0_0, kc3_0_1, kc3_1_0, kc3_1_1, kc4_0_0, kc4_0_1, kc4_1_0, kc4_1_1, kc5_0_0, kc5_0_1, kc5_1_0, kc5_1_1]
            · (show Rel _ _; repeat (first | with_reducible exact Rel.refl _ | with_reducible refine Rel.alloc ?_ _ | with_reducible refine Rel.setCell ?_ (by first | (simp; done) | (simp; omega)) _ | with_reducible refine Rel.drew ?_ | with_reducible refine Rel.trans ?_ H5.out | with_reducible refine Rel.trans ?_ H4.out | with_reducible refine Rel.trans ?_ H3.out | with_reducible refine Rel.trans ?_ H2.out | with_reducible refine Rel.trans ?_ H1.out | with_reducible refine Rel.trans ?_ H0.out))
      · have q := keep2 h3 (b := w.heap.size) (by first | (simp; done) | (simp; omega) | omega)
        have kc3_0_0 := q.1
        have kc3_0_1 := q.2.1
        have kf3_0_0 := q.2.2.1
        have kf3_0_1 := q.2.2.2.1
        have kl3_0 := q.2.2.2.2.1
        have kn3_0 := q.2.2.2.2.2.1
        have km3_0 := q.2.2.2.2.2.2
        clear q
        have q := keep2 h3 (b := w.heap.size + 1) (by first | (simp; done) | (simp; omega) | omega)
        have kc3_1_0 := q.1
        have kc3_1_1 := q.2.1
        have kf3_1_0 := q.2.2.1
        have kf3_1_1 := q.2.2.2.1
        have kl3_1 := q.2.2.2.2.1
        have kn3_1 := q.2.2.2.2.2.1
        have km3_1 := q.2.2.2.2.2.2
        clear q
        have kz3 := h3.size
        (try simp only [World.size_alloc, World.size_setCell, World.size_drew] at kz3)
        have H3 := Lib.hid h3
        clear h3
        have NO : Hid (∀ n d, ¬ IsTxt s n d) := fun n d h => by
          rcases (TP.out n d h).2 with ⟨_, hp⟩ | ⟨_, _, hk⟩
          · cases hp
          · exact hno _ hk
        clear hno
        go_wp2
        refine bodyPost_ret (v := .tuple #[.agg #[.int .i64 0, .int .i64 0], .bool false]) ?_ rfl (prs_no NO.out ?_)
        · simp [results, Tryd.results14, go_sem, kc1_0_0, kc1_0_1, kc2_0_0, kc2_0_1, kc3_0_0, kc3_0_1]
        · (show Rel _ _; repeat (first | with_reducible exact Rel.refl _ | with_reducible refine Rel.alloc ?_ _ | with_reducible refine Rel.setCell ?_ (by first | (simp; done) | (simp; omega)) _ | with_reducible refine Rel.drew ?_ | with_reducible refine Rel.trans ?_ H3.out | with_reducible refine Rel.trans ?_ H2.out | with_reducible refine Rel.trans ?_ H1.out | with_reducible refine Rel.trans ?_ H0.out))
  · have q := keep2 h2 (b := w.heap.size) (by first | (simp; done) | (simp; omega) | omega)
    have kc2_0_0 := q.1
    have kc2_0_1 := q.2.1
    have kf2_0_0 := q.2.2.1
    have kf2_0_1 := q.2.2.2.1
    have kl2_0 := q.2.2.2.2.1
    have kn2_0 := q.2.2.2.2.2.1
    have km2_0 := q.2.2.2.2.2.2
    clear q
    have q := keep2 h2 (b := w.heap.size + 1) (by first | (simp; done) | (simp; omega) | omega)
    have kc2_1_0 := q.1
    have kc2_1_1 := q.2.1
    have kf2_1_0 := q.2.2.1
    have kf2_1_1 := q.2.2.2.1
    have kl2_1 := q.2.2.2.2.1
    have kn2_1 := q.2.2.2.2.2.1
    have km2_1 := q.2.2.2.2.2.2
    clear q
    have kz2 := h2.size
    (try simp only [World.size_alloc, World.size_setCell, World.size_drew] at kz2)
    have H2 := Lib.hid h2
    clear h2
    have NO : Hid (∀ n d, ¬ IsTxt s n d) := fun n d h => hno _ (TP.out n d h).1
    clear hno
    go_wp2
    refine bodyPost_ret (v := .tuple #[.agg #[.int .i64 0, .int .i64 0], .bool false]) ?_ rfl (prs_no NO.out ?_)
    · simp [results, Tryd.results14, go_sem, kc1_0_0, kc1_0_1, kc2_0_0, kc2_0_1]
    · (show Rel _ _; repeat (first | with_reducible exact Rel.refl _ | with_reducible refine Rel.alloc ?_ _ | with_reducible refine Rel.setCell ?_ (by first | (simp; done) | (simp; omega)) _ | with_reducible refine Rel.drew ?_ | with_reducible refine Rel.trans ?_ H2.out | with_reducible refine Rel.trans ?_ H1.out | with_reducible refine Rel.trans ?_ H0.out))

end Go.Proofs.YtfdajdlbkdfhoaaDoor

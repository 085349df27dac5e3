/- Bundle of texts: each says at its head what it proves; no conditions but those printed. -/
import Derived.Test.YtkghmghjgikihaaGreatDoorB15
import Derived.Test.YtkghmghjgikihaaGreatDoorB9
import Derived.Test.YtkghmghjgikihaaGreatDoorB7
import Derived.Test.YtkghmghjgikihaaGreatDoorB14
/- Walk of the law SyntaxTrees. No conditions but those printed. -/
namespace Go.Proofs.YtkghmghjgikihaaGreatDoor
open Go.RowKit Cal Str Tok Frac Txt Tree
attribute [local go_sem] calmUpon
set_option linter.unusedVariables false
set_option linter.unusedSimpArgs false

theorem intsR {w w' : World} {v : Value} {n : Nat} (h : IntsIn w v n) (r : Rel w w') : IntsIn w' v n := by
  obtain ⟨a0, cap, rfl, hn, hc⟩ := h
  refine ⟨a0, cap, rfl, hn, fun h0 => ?_⟩
  obtain ⟨b, off, zs, rfl, hb, hz⟩ := hc h0
  exact ⟨b, off, zs, rfl, Nat.lt_of_lt_of_le hb r.size, fun j hj => ⟨r.cell (hz j hj).1, (hz j hj).2⟩⟩

set_option maxRecDepth 20000 in
set_option maxHeartbeats 8000000 in
theorem walk_SyntaxTrees (w : World) (ht : TabW w) (a0 : Value) (n0 : Nat) (a1 : Value) (n1 : Nat) (b0 : IntsIn w a0 n0) (b1 : IntsIn w a1 n1) :
    Calls Tryz.prog 5 #[a0, a1] w (BRes true w) := by
  obtain ⟨s0, p0, rfl, hn0, -⟩ := id b0
  obtain ⟨s1, p1, rfl, hn1, -⟩ := id b1
  have HT := Lib.hid ht
  have B0 := Lib.hid b0
  have B1 := Lib.hid b1
  clear ht b0 b1
  unfold BRes
  by_cases h2 : 200 < n0
  · have e1 : decide ((200 : Int) < (n0 : Int)) = true := decide_eq_true (by omega)
    go_enter Tryz.func5, Tryz.ntmps5
    go_wp2
    go_ret
    exact ⟨rfl, by (show Rel _ _; repeat (first | with_reducible exact Rel.refl _ | with_reducible refine Rel.alloc ?_ _ | with_reducible refine Rel.setCell ?_ (by first | (simp; done) | (simp; omega)) _ | with_reducible refine Rel.drew ?_ | with_reducible refine Rel.trans ?_ H0.out))⟩
  · have e1 : decide ((200 : Int) < (n0 : Int)) = false := decide_eq_false (by omega)
    by_cases h3 : 200 < n1
    · have e2 : decide ((200 : Int) < (n1 : Int)) = true := decide_eq_true (by omega)
      go_enter Tryz.func5, Tryz.ntmps5
      go_wp2
      go_ret
      exact ⟨rfl, by (show Rel _ _; repeat (first | with_reducible exact Rel.refl _ | with_reducible refine Rel.alloc ?_ _ | with_reducible refine Rel.setCell ?_ (by first | (simp; done) | (simp; omega)) _ | with_reducible refine Rel.drew ?_ | with_reducible refine Rel.trans ?_ H0.out))⟩
    · have e2 : decide ((200 : Int) < (n1 : Int)) = false := decide_eq_false (by omega)
      go_enter Tryz.func5, Tryz.ntmps5
      go_wp2_with fail
      refine (Wild_any _ n0 _ B0.out).mono ?_
      rintro e w1 ⟨t, x, rfl, hK1, hz1, h1⟩
      obtain ⟨xa, xc, rfl⟩ := kids_slice hK1
      have R1 := Lib.hid h1
      have HK1 := Lib.hid hK1
      clear hK1 h1
      go_wp2_with fail
      refine (Wild_any _ n1 _ (intsR B1.out R1.out)).mono ?_
      rintro e w2 ⟨u, y, rfl, hK2, hz2, h2⟩
      obtain ⟨ya, yc, rfl⟩ := kids_slice hK2
      have R2 := Lib.hid (R1.out.trans h2)
      have HK2 := Lib.hid hK2
      have HK1' := Lib.hid (kids_rel HK1.out h2)
      clear hK2 h2 HK1
      have BT := Lib.hid ((BoxAt.new (w := w2) (g := w2.heap.size) rfl (.int .i64 t.op) (.int .i64 t.va) (.int .i64 t.vb) (.int .i64 t.dm) (.string t.nm) (.slice xa t.cnt xc) 29).rel ((Rel.refl _).alloc (.cells #[.int .i64 u.op, .int .i64 u.va, .int .i64 u.vb, .int .i64 u.dm, .string u.nm, .slice ya u.cnt yc] 29)))
      have BU := Lib.hid (BoxAt.new (w := w2.alloc (.cells #[.int .i64 t.op, .int .i64 t.va, .int .i64 t.vb, .int .i64 t.dm, .string t.nm, .slice xa t.cnt xc] 29)) (g := w2.heap.size + 1) (by simp) (.int .i64 u.op) (.int .i64 u.va) (.int .i64 u.vb) (.int .i64 u.dm) (.string u.nm) (.slice ya u.cnt yc) 29)
      obtain ⟨X, hX⟩ : ∃ X, (w2.alloc (.cells #[.int .i64 t.op, .int .i64 t.va, .int .i64 t.vb, .int .i64 t.dm, .string t.nm, .slice xa t.cnt xc] 29)).alloc (.cells #[.int .i64 u.op, .int .i64 u.va, .int .i64 u.vb, .int .i64 u.dm, .string u.nm, .slice ya u.cnt yc] 29) = X := ⟨_, rfl⟩
      have RX : Rel w2 X := by rw [← hX]; exact ((Rel.refl _).alloc _).alloc _
      rw [hX] at BT BU
      have TX := Lib.hid (HT.out.rel (R2.out.trans RX))
      have KT := Lib.hid (kids_rel HK1'.out RX)
      have KU := Lib.hid (kids_rel HK2.out RX)
      have RXw := Lib.hid (R2.out.trans RX)
      have V1 := Lib.hid fun w' (r : Rel X w') => ValidExpr_any t _ w' (kids_rel KT.out r) (by omega) (Lib.hid (TX.out.rel r))
      have V2 := Lib.hid fun w' (r : Rel X w') => rValidExpr_any t _ w' (kids_rel KT.out r) (by omega)
      have D1 := Lib.hid fun w' (r : Rel X w') => Depth_any t _ w' (kids_rel KT.out r) (by omega)
      have D2 := Lib.hid fun w' (r : Rel X w') => rDepth_any t _ w' (kids_rel KT.out r) (by omega)
      have Z1 := Lib.hid fun w' (r : Rel X w') => Size_any t _ w' (kids_rel KT.out r) (by omega)
      have Z2 := Lib.hid fun w' (r : Rel X w') => rSize_any t _ w' (kids_rel KT.out r) (by omega)
      have S1 := Lib.hid fun w' (r : Rel X w') => Same_any t u _ _ w' (kids_rel KT.out r) (kids_rel KU.out r)
      have S2 := Lib.hid fun w' (r : Rel X w') => rSame_any t u _ _ w' (kids_rel KT.out r) (kids_rel KU.out r)
      have S3 := Lib.hid fun w' (r : Rel X w') => Same_any t t _ _ w' (kids_rel KT.out r) (kids_rel KT.out r)
      have A0 := Lib.hid fun w' (r : Rel X w') => awake_any w' (TX.out.rel r)
      rw [same_refl] at S3
      unfold BRes at V1 V2 S1 S2 S3 A0
      unfold IntRes at D1 D2 Z1 Z2
      obtain ⟨v, hv⟩ : ∃ v, t.valid = v := ⟨_, rfl⟩
      obtain ⟨dd, hdd⟩ : ∃ v, t.depth = v := ⟨_, rfl⟩
      obtain ⟨zz, hzz⟩ : ∃ v, t.size = v := ⟨_, rfl⟩
      obtain ⟨ss, hss⟩ : ∃ v, t.same u = v := ⟨_, rfl⟩
      rw [hv] at V1 V2
      rw [hdd] at D1 D2
      rw [hzz] at Z1 Z2
      rw [hss] at S1 S2
      have bt := BT.out
      have bu := BU.out
      clear hv hdd hzz hss hz1 hz2
      go_wp2_with fail
      (try rw [hX])
      clear hX RX
      refine wp_region_calm (fun _ w' => Rel X w') (fun _ => false) [0, 1, 2, 3, 4, 5, 6, 7, 8, 9, 10, 11, 12, 13, 14, 15, 16, 17, 18, 19, 20, 21, 22, 23, 24, 25, 26, 27, 28, 29, 30, 31, 32, 33, 34, 35, 36] 0 (by kernel_rfl) (by kernel_rfl) ?hst ?hS0 (fun w0 h0 => ?_)
      case hst => exact fun _ _ _ h r => h.trans r
      case hS0 => exact Rel.refl _
      refine wpCalm_go rfl (by kernel_rfl) (fun K hK => ?_)
      apply Exists.intro
      refine ⟨fun M w hM hS => ?_, hK _ ?_⟩
      · unfold calmAt
        go_simp
        with_reducible refine (A0.out _ hS).mono ?_
        rintro e w1 ⟨rfl, hb⟩
        exact ⟨rfl, hb⟩
      clear hK K
      iterate 2
        refine wpCalm_go rfl (by kernel_rfl) (fun K hK => ?_)
        apply Exists.intro
        refine ⟨fun M w hM hS => ?_, hK _ ?_⟩
        · have c0 := hS.cell bt.c0
          have c1 := hS.cell bt.c1
          have c2 := hS.cell bt.c2
          have c3 := hS.cell bt.c3
          have c4 := hS.cell bt.c4
          have c5 := hS.cell bt.c5
          have d0 := hS.cell bu.c0
          have d1 := hS.cell bu.c1
          have d2 := hS.cell bu.c2
          have d3 := hS.cell bu.c3
          have d4 := hS.cell bu.c4
          have d5 := hS.cell bu.c5
          unfold calmAt
          go_simp
          exact ⟨rfl, Rel.refl _⟩
        clear hK K
      refine wpCalm_go rfl (by kernel_rfl) (fun K hK => ?_)
      apply Exists.intro
      refine ⟨fun M w hM hS => ?_, hK _ ?_⟩
      · unfold calmAt
        go_simp
        with_reducible refine (V1.out _ hS).mono ?_
        rintro e w1 ⟨rfl, hb⟩
        exact ⟨rfl, hb⟩
      clear hK K
      iterate 1
        refine wpCalm_go rfl (by kernel_rfl) (fun K hK => ?_)
        apply Exists.intro
        refine ⟨fun M w hM hS => ?_, hK _ ?_⟩
        · have c0 := hS.cell bt.c0
          have c1 := hS.cell bt.c1
          have c2 := hS.cell bt.c2
          have c3 := hS.cell bt.c3
          have c4 := hS.cell bt.c4
          have c5 := hS.cell bt.c5
          have d0 := hS.cell bu.c0
          have d1 := hS.cell bu.c1
          have d2 := hS.cell bu.c2
          have d3 := hS.cell bu.c3
          have d4 := hS.cell bu.c4
          have d5 := hS.cell bu.c5
          unfold calmAt
          go_simp
          exact ⟨rfl, Rel.refl _⟩
        clear hK K
      refine wpCalm_go rfl (by kernel_rfl) (fun K hK => ?_)
      apply Exists.intro
      refine ⟨fun M w hM hS => ?_, hK _ ?_⟩
      · unfold calmAt
        go_simp
        with_reducible refine (V2.out _ hS).mono ?_
        rintro e w1 ⟨rfl, hb⟩
        exact ⟨rfl, hb⟩
      clear hK K
      iterate 4
        refine wpCalm_go rfl (by kernel_rfl) (fun K hK => ?_)
        apply Exists.intro
        refine ⟨fun M w hM hS => ?_, hK _ ?_⟩
        · have c0 := hS.cell bt.c0
          have c1 := hS.cell bt.c1
          have c2 := hS.cell bt.c2
          have c3 := hS.cell bt.c3
          have c4 := hS.cell bt.c4
          have c5 := hS.cell bt.c5
          have d0 := hS.cell bu.c0
          have d1 := hS.cell bu.c1
          have d2 := hS.cell bu.c2
          have d3 := hS.cell bu.c3
          have d4 := hS.cell bu.c4
          have d5 := hS.cell bu.c5
          unfold calmAt
          go_simp
          exact ⟨rfl, Rel.refl _⟩
        clear hK K
      refine wpCalm_go rfl (by kernel_rfl) (fun K hK => ?_)
      apply Exists.intro
      refine ⟨fun M w hM hS => ?_, hK _ ?_⟩
      · unfold calmAt
        go_simp
        with_reducible refine (D1.out _ hS).mono ?_
        rintro e w1 ⟨rfl, hb⟩
        exact ⟨rfl, hb⟩
      clear hK K
      iterate 1
        refine wpCalm_go rfl (by kernel_rfl) (fun K hK => ?_)
        apply Exists.intro
        refine ⟨fun M w hM hS => ?_, hK _ ?_⟩
        · have c0 := hS.cell bt.c0
          have c1 := hS.cell bt.c1
          have c2 := hS.cell bt.c2
          have c3 := hS.cell bt.c3
          have c4 := hS.cell bt.c4
          have c5 := hS.cell bt.c5
          have d0 := hS.cell bu.c0
          have d1 := hS.cell bu.c1
          have d2 := hS.cell bu.c2
          have d3 := hS.cell bu.c3
          have d4 := hS.cell bu.c4
          have d5 := hS.cell bu.c5
          unfold calmAt
          go_simp
          exact ⟨rfl, Rel.refl _⟩
        clear hK K
      refine wpCalm_go rfl (by kernel_rfl) (fun K hK => ?_)
      apply Exists.intro
      refine ⟨fun M w hM hS => ?_, hK _ ?_⟩
      · unfold calmAt
        go_simp
        with_reducible refine (D2.out _ hS).mono ?_
        rintro e w1 ⟨rfl, hb⟩
        exact ⟨rfl, hb⟩
      clear hK K
      iterate 4
        refine wpCalm_go rfl (by kernel_rfl) (fun K hK => ?_)
        apply Exists.intro
        refine ⟨fun M w hM hS => ?_, hK _ ?_⟩
        · have c0 := hS.cell bt.c0
          have c1 := hS.cell bt.c1
          have c2 := hS.cell bt.c2
          have c3 := hS.cell bt.c3
          have c4 := hS.cell bt.c4
          have c5 := hS.cell bt.c5
          have d0 := hS.cell bu.c0
          have d1 := hS.cell bu.c1
          have d2 := hS.cell bu.c2
          have d3 := hS.cell bu.c3
          have d4 := hS.cell bu.c4
          have d5 := hS.cell bu.c5
          unfold calmAt
          go_simp
          exact ⟨rfl, Rel.refl _⟩
        clear hK K
      refine wpCalm_go rfl (by kernel_rfl) (fun K hK => ?_)
      apply Exists.intro
      refine ⟨fun M w hM hS => ?_, hK _ ?_⟩
      · unfold calmAt
        go_simp
        with_reducible refine (Z1.out _ hS).mono ?_
        rintro e w1 ⟨rfl, hb⟩
        exact ⟨rfl, hb⟩
      clear hK K
      iterate 1
        refine wpCalm_go rfl (by kernel_rfl) (fun K hK => ?_)
        apply Exists.intro
        refine ⟨fun M w hM hS => ?_, hK _ ?_⟩
        · have c0 := hS.cell bt.c0
          have c1 := hS.cell bt.c1
          have c2 := hS.cell bt.c2
          have c3 := hS.cell bt.c3
          have c4 := hS.cell bt.c4
          have c5 := hS.cell bt.c5
          have d0 := hS.cell bu.c0
          have d1 := hS.cell bu.c1
          have d2 := hS.cell bu.c2
          have d3 := hS.cell bu.c3
          have d4 := hS.cell bu.c4
          have d5 := hS.cell bu.c5
          unfold calmAt
          go_simp
          exact ⟨rfl, Rel.refl _⟩
        clear hK K
      refine wpCalm_go rfl (by kernel_rfl) (fun K hK => ?_)
      apply Exists.intro
      refine ⟨fun M w hM hS => ?_, hK _ ?_⟩
      · unfold calmAt
        go_simp
        with_reducible refine (Z2.out _ hS).mono ?_
        rintro e w1 ⟨rfl, hb⟩
        exact ⟨rfl, hb⟩
      clear hK K
      iterate 5
        refine wpCalm_go rfl (by kernel_rfl) (fun K hK => ?_)
        apply Exists.intro
        refine ⟨fun M w hM hS => ?_, hK _ ?_⟩
        · have c0 := hS.cell bt.c0
          have c1 := hS.cell bt.c1
          have c2 := hS.cell bt.c2
          have c3 := hS.cell bt.c3
          have c4 := hS.cell bt.c4
          have c5 := hS.cell bt.c5
          have d0 := hS.cell bu.c0
          have d1 := hS.cell bu.c1
          have d2 := hS.cell bu.c2
          have d3 := hS.cell bu.c3
          have d4 := hS.cell bu.c4
          have d5 := hS.cell bu.c5
          unfold calmAt
          go_simp
          exact ⟨rfl, Rel.refl _⟩
        clear hK K
      refine wpCalm_go rfl (by kernel_rfl) (fun K hK => ?_)
      apply Exists.intro
      refine ⟨fun M w hM hS => ?_, hK _ ?_⟩
      · unfold calmAt
        go_simp
        with_reducible refine (S1.out _ hS).mono ?_
        rintro e w1 ⟨rfl, hb⟩
        exact ⟨rfl, hb⟩
      clear hK K
      iterate 2
        refine wpCalm_go rfl (by kernel_rfl) (fun K hK => ?_)
        apply Exists.intro
        refine ⟨fun M w hM hS => ?_, hK _ ?_⟩
        · have c0 := hS.cell bt.c0
          have c1 := hS.cell bt.c1
          have c2 := hS.cell bt.c2
          have c3 := hS.cell bt.c3
          have c4 := hS.cell bt.c4
          have c5 := hS.cell bt.c5
          have d0 := hS.cell bu.c0
          have d1 := hS.cell bu.c1
          have d2 := hS.cell bu.c2
          have d3 := hS.cell bu.c3
          have d4 := hS.cell bu.c4
          have d5 := hS.cell bu.c5
          unfold calmAt
          go_simp
          exact ⟨rfl, Rel.refl _⟩
        clear hK K
      refine wpCalm_go rfl (by kernel_rfl) (fun K hK => ?_)
      apply Exists.intro
      refine ⟨fun M w hM hS => ?_, hK _ ?_⟩
      · unfold calmAt
        go_simp
        with_reducible refine (S2.out _ hS).mono ?_
        rintro e w1 ⟨rfl, hb⟩
        exact ⟨rfl, hb⟩
      clear hK K
      iterate 5
        refine wpCalm_go rfl (by kernel_rfl) (fun K hK => ?_)
        apply Exists.intro
        refine ⟨fun M w hM hS => ?_, hK _ ?_⟩
        · have c0 := hS.cell bt.c0
          have c1 := hS.cell bt.c1
          have c2 := hS.cell bt.c2
          have c3 := hS.cell bt.c3
          have c4 := hS.cell bt.c4
          have c5 := hS.cell bt.c5
          have d0 := hS.cell bu.c0
          have d1 := hS.cell bu.c1
          have d2 := hS.cell bu.c2
          have d3 := hS.cell bu.c3
          have d4 := hS.cell bu.c4
          have d5 := hS.cell bu.c5
          unfold calmAt
          go_simp
          exact ⟨rfl, Rel.refl _⟩
        clear hK K
      refine wpCalm_go rfl (by kernel_rfl) (fun K hK => ?_)
      apply Exists.intro
      refine ⟨fun M w hM hS => ?_, hK _ ?_⟩
      · unfold calmAt
        go_simp
        with_reducible refine (S3.out _ hS).mono ?_
        rintro e w1 ⟨rfl, hb⟩
        exact ⟨rfl, hb⟩
      clear hK K
      iterate 2
        refine wpCalm_go rfl (by kernel_rfl) (fun K hK => ?_)
        apply Exists.intro
        refine ⟨fun M w hM hS => ?_, hK _ ?_⟩
        · have c0 := hS.cell bt.c0
          have c1 := hS.cell bt.c1
          have c2 := hS.cell bt.c2
          have c3 := hS.cell bt.c3
          have c4 := hS.cell bt.c4
          have c5 := hS.cell bt.c5
          have d0 := hS.cell bu.c0
          have d1 := hS.cell bu.c1
          have d2 := hS.cell bu.c2
          have d3 := hS.cell bu.c3
          have d4 := hS.cell bu.c4
          have d5 := hS.cell bu.c5
          unfold calmAt
          go_simp
          exact ⟨rfl, Rel.refl _⟩
        clear hK K
      refine wpAnyR_end (by kernel_rfl) (fun w3 h3' => ?_)
      (try simp only [Act.put, List.setIfInBounds_toArray, List.set_cons_zero, List.set_cons_succ])
      have h3 := h0.trans h3'
      clear h0 h3'
      have kz3 := h3.size
      (try simp only [World.size_alloc, World.size_setCell, World.size_drew] at kz3)
      have H3 := Lib.hid h3
      clear h3
      go_wp2
      go_ret
      exact ⟨ret_b2 (by simp), RXw.out.trans H3.out⟩

end Go.Proofs.YtkghmghjgikihaaGreatDoor

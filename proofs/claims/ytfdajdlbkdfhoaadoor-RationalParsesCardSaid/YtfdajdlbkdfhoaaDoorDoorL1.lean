/- Walk of the law RationalTexts. No conditions but those printed. -/
import Derived.Test.YtfdajdlbkdfhoaaDoorDoorC
import Derived.Test.YtfdajdlbkdfhoaaDoorRatN
namespace Go.Proofs.YtfdajdlbkdfhoaaDoor
open Go.RowKit Cal Str Tok Frac Txt
attribute [local go_sem] calmUpon
set_option linter.unusedVariables false
set_option linter.unusedSimpArgs false

theorem txt_size {s : ByteArray} {n d : Int} (h : IsTxt s n d) : 0 < s.size := by
  have := as_ne (txt_read h).1
  have e := rst_le s
  omega
theorem prs_fmt {n d : Int} {w w' : World} {e : Ending} (h : PrsRes (fmtS n d) w e w') : ∃ N D : Int, e = .returned (.tuple #[.agg #[.int .i64 N, .int .i64 D], .bool (validB n d)]) ∧ (validB n d = true → N = n ∧ D = d) ∧ Rel w w' := by
  obtain ⟨N, D, B, rfl, h, r⟩ := h
  cases hv : validB n d
  · rcases h with ⟨rfl, h⟩ | ⟨rfl, rfl, rfl, h⟩
    · have := txt_size h
      rw [fmt_no hv] at this; exact absurd this (by decide)
    · exact ⟨0, 0, rfl, (fun h => by cases h), r⟩
  · have hI : IsTxt (fmtS n d) n d := ⟨hv, rfl⟩
    rcases h with ⟨rfl, h⟩ | ⟨rfl, rfl, rfl, h⟩
    · obtain ⟨e1, e2⟩ := txt_inj h hI
      exact ⟨N, D, rfl, fun _ => ⟨e1, e2⟩, r⟩
    · exact absurd hI (h n d)

set_option maxHeartbeats 3200000 in
theorem walk_RationalTexts (w : World) (ht : TabW w) (he : ErrW w) (a0a a0b a1 : Int) (b0a : -9223372036854775808 ≤ a0a) (c0a : a0a ≤ 9223372036854775807) (b0b : -9223372036854775808 ≤ a0b) (c0b : a0b ≤ 9223372036854775807) (b1 : -9223372036854775808 ≤ a1) (c1 : a1 ≤ 9223372036854775807) :
    Calls Tryd.prog 4 #[.agg #[.int .i64 a0a, .int .i64 a0b], .int .i64 a1] w (BRes true w) := by
  have OF := Lib.hid fun w => of_any a0a a0b a1 w b0a c0a b0b c0b b1 c1
  unfold SomeFr at OF
  clear b0a c0a b0b c0b b1 c1
  unfold BRes
  go_enter Tryd.func4, Tryd.ntmps4
  go_wp2_with fail
  refine (OF.out _).mono ?_
  rintro e w1 ⟨n, d, ⟨⟨n0, n1⟩, d0, d1⟩, rfl, h1⟩
  have q := keep2 h1 (b := w.heap.size) (by first | (simp; done) | (simp; omega) | omega)
  have kc1_0_0 := q.1
  have kc1_0_1 := q.2.1
  have kf1_0_0 := q.2.2.1
  have kf1_0_1 := q.2.2.2.1
  have kl1_0 := q.2.2.2.2.1
  have kn1_0 := q.2.2.2.2.2.1
  have km1_0 := q.2.2.2.2.2.2
  clear q
  have kz1 := h1.size
  (try simp only [World.size_alloc, World.size_setCell, World.size_drew] at kz1)
  have H1 := Lib.hid h1
  clear h1
  obtain ⟨F, hF⟩ : ∃ F, fmtS n d = F := ⟨_, rfl⟩
  obtain ⟨V, hV⟩ : ∃ V, validB n d = V := ⟨_, rfl⟩
  have FM := Lib.hid fun w h => Format_any n d w h n0 n1 d0 d1
  have RF := Lib.hid fun w => rFormat_any n d w n0 n1 d0 d1
  have RV := Lib.hid fun w => rvalid_any n d w n0 n1 d0 d1
  have PR := Lib.hid fun w ht he => (Parse_frac (fmtS n d) w (by have := fmtS_size n d; omega) ht he).mono fun e w' h => prs_fmt h
  have RW1 : Hid (Rel w (w1.setCell ⟨w.heap.size, 0, none⟩ (.int .i64 n))) := by
    show Rel _ _
    (show Rel _ _; repeat (first | with_reducible exact Rel.refl _ | with_reducible refine Rel.alloc ?_ _ | with_reducible refine Rel.setCell ?_ (by first | (simp; done) | (simp; omega)) _ | with_reducible refine Rel.drew ?_ | with_reducible refine Rel.trans ?_ H1.out | with_reducible refine Rel.trans ?_ H0.out))
  have RW2 : Hid (Rel w ((w1.setCell ⟨w.heap.size, 0, none⟩ (.int .i64 n)).setCell ⟨w.heap.size, 1, none⟩ (.int .i64 d))) := by
    show Rel _ _
    (show Rel _ _; repeat (first | with_reducible exact Rel.refl _ | with_reducible refine Rel.alloc ?_ _ | with_reducible refine Rel.setCell ?_ (by first | (simp; done) | (simp; omega)) _ | with_reducible refine Rel.drew ?_ | with_reducible refine Rel.trans ?_ H1.out | with_reducible refine Rel.trans ?_ H0.out))
  unfold StrRes at FM RF
  unfold BRes at RV
  rw [hF] at FM RF PR
  rw [hV] at RV PR
  clear hF hV
  go_wp2_with fail
  refine (FM.out _ (ht.rel RW2.out)).mono ?_
  rintro e w2 ⟨rfl, h2⟩
  have q := keep2 h2 (b := w.heap.size) (by first | (simp; done) | (simp; omega) | omega)
  have kc2_0_0 := q.1
  have kc2_0_1 := q.2.1
  have kf2_0_0 := q.2.2.1
  have kf2_0_1 := q.2.2.2.1
  have kl2_0 := q.2.2.2.2.1
  have kn2_0 := q.2.2.2.2.2.1
  have km2_0 := q.2.2.2.2.2.2
  clear q
  have kz2 := h2.size
  (try simp only [World.size_alloc, World.size_setCell, World.size_drew] at kz2)
  have H2 := Lib.hid h2
  clear h2
  have RW3 := Lib.hid (RW2.out.trans H2.out)
  go_wp2_with fail
  refine (PR.out _ (ht.rel RW3.out) (he.rel RW3.out)).mono ?_
  rintro e w3 ⟨N, D, rfl, hND, h3⟩
  have q := keep2 h3 (b := w.heap.size) (by first | (simp; done) | (simp; omega) | omega)
  have kc3_0_0 := q.1
  have kc3_0_1 := q.2.1
  have kf3_0_0 := q.2.2.1
  have kf3_0_1 := q.2.2.2.1
  have kl3_0 := q.2.2.2.2.1
  have kn3_0 := q.2.2.2.2.2.1
  have km3_0 := q.2.2.2.2.2.2
  clear q
  have kz3 := h3.size
  (try simp only [World.size_alloc, World.size_setCell, World.size_drew] at kz3)
  have H3 := Lib.hid h3
  clear h3
  cases V
  · clear hND
    go_wp2_with fail
    refine (fawake_any _).mono ?_
    unfold BRes
    rintro e w4 ⟨rfl, h4⟩
    have q := keep2 h4 (b := w.heap.size) (by first | (simp; done) | (simp; omega) | omega)
    have kc4_0_0 := q.1
    have kc4_0_1 := q.2.1
    have kf4_0_0 := q.2.2.1
    have kf4_0_1 := q.2.2.2.1
    have kl4_0 := q.2.2.2.2.1
    have kn4_0 := q.2.2.2.2.2.1
    have km4_0 := q.2.2.2.2.2.2
    clear q
    have q := keep2 h4 (b := w3.heap.size) (by first | (simp; done) | (simp; omega) | omega)
    have kc4_1_0 := q.1
    have kc4_1_1 := q.2.1
    have kf4_1_0 := q.2.2.1
    have kf4_1_1 := q.2.2.2.1
    have kl4_1 := q.2.2.2.2.1
    have kn4_1 := q.2.2.2.2.2.1
    have km4_1 := q.2.2.2.2.2.2
    clear q
    have kz4 := h4.size
    (try simp only [World.size_alloc, World.size_setCell, World.size_drew] at kz4)
    have H4 := Lib.hid h4
    clear h4
    go_wp2_with fail
    refine (RF.out _).mono ?_
    rintro e w5 ⟨rfl, h5⟩
    have q := keep2 h5 (b := w.heap.size) (by first | (simp; done) | (simp; omega) | omega)
    have kc5_0_0 := q.1
    have kc5_0_1 := q.2.1
    have kf5_0_0 := q.2.2.1
    have kf5_0_1 := q.2.2.2.1
    have kl5_0 := q.2.2.2.2.1
    have kn5_0 := q.2.2.2.2.2.1
    have km5_0 := q.2.2.2.2.2.2
    clear q
    have q := keep2 h5 (b := w3.heap.size) (by first | (simp; done) | (simp; omega) | omega)
    have kc5_1_0 := q.1
    have kc5_1_1 := q.2.1
    have kf5_1_0 := q.2.2.1
    have kf5_1_1 := q.2.2.2.1
    have kl5_1 := q.2.2.2.2.1
    have kn5_1 := q.2.2.2.2.2.1
    have km5_1 := q.2.2.2.2.2.2
    clear q
    have kz5 := h5.size
    (try simp only [World.size_alloc, World.size_setCell, World.size_drew] at kz5)
    have H5 := Lib.hid h5
    clear h5
    go_wp2_with fail
    refine (RV.out _).mono ?_
    rintro e w6 ⟨rfl, h6⟩
    have q := keep2 h6 (b := w.heap.size) (by first | (simp; done) | (simp; omega) | omega)
    have kc6_0_0 := q.1
    have kc6_0_1 := q.2.1
    have kf6_0_0 := q.2.2.1
    have kf6_0_1 := q.2.2.2.1
    have kl6_0 := q.2.2.2.2.1
    have kn6_0 := q.2.2.2.2.2.1
    have km6_0 := q.2.2.2.2.2.2
    clear q
    have q := keep2 h6 (b := w3.heap.size) (by first | (simp; done) | (simp; omega) | omega)
    have kc6_1_0 := q.1
    have kc6_1_1 := q.2.1
    have kf6_1_0 := q.2.2.1
    have kf6_1_1 := q.2.2.2.1
    have kl6_1 := q.2.2.2.2.1
    have kn6_1 := q.2.2.2.2.2.1
    have km6_1 := q.2.2.2.2.2.2
    clear q
    have kz6 := h6.size
    (try simp only [World.size_alloc, World.size_setCell, World.size_drew] at kz6)
    have H6 := Lib.hid h6
    clear h6
    go_wp2
    go_ret
    exact ⟨rfl, by (show Rel _ _; repeat (first | with_reducible exact Rel.refl _ | with_reducible refine Rel.alloc ?_ _ | with_reducible refine Rel.setCell ?_ (by first | (simp; done) | (simp; omega)) _ | with_reducible refine Rel.drew ?_ | with_reducible refine Rel.trans ?_ H6.out | with_reducible refine Rel.trans ?_ H5.out | with_reducible refine Rel.trans ?_ H4.out | with_reducible refine Rel.trans ?_ H3.out | with_reducible refine Rel.trans ?_ H2.out | with_reducible refine Rel.trans ?_ H1.out | with_reducible refine Rel.trans ?_ H0.out))⟩
  · obtain ⟨rfl, rfl⟩ := hND rfl
    clear hND
    go_wp2_with fail
    refine (fawake_any _).mono ?_
    unfold BRes
    rintro e w4 ⟨rfl, h4⟩
    have q := keep2 h4 (b := w.heap.size) (by first | (simp; done) | (simp; omega) | omega)
    have kc4_0_0 := q.1
    have kc4_0_1 := q.2.1
    have kf4_0_0 := q.2.2.1
    have kf4_0_1 := q.2.2.2.1
    have kl4_0 := q.2.2.2.2.1
    have kn4_0 := q.2.2.2.2.2.1
    have km4_0 := q.2.2.2.2.2.2
    clear q
    have q := keep2 h4 (b := w3.heap.size) (by first | (simp; done) | (simp; omega) | omega)
    have kc4_1_0 := q.1
    have kc4_1_1 := q.2.1
    have kf4_1_0 := q.2.2.1
    have kf4_1_1 := q.2.2.2.1
    have kl4_1 := q.2.2.2.2.1
    have kn4_1 := q.2.2.2.2.2.1
    have km4_1 := q.2.2.2.2.2.2
    clear q
    have kz4 := h4.size
    (try simp only [World.size_alloc, World.size_setCell, World.size_drew] at kz4)
    have H4 := Lib.hid h4
    clear h4
    go_wp2_with fail
    refine (RF.out _).mono ?_
    rintro e w5 ⟨rfl, h5⟩
    have q := keep2 h5 (b := w.heap.size) (by first | (simp; done) | (simp; omega) | omega)
    have kc5_0_0 := q.1
    have kc5_0_1 := q.2.1
    have kf5_0_0 := q.2.2.1
    have kf5_0_1 := q.2.2.2.1
    have kl5_0 := q.2.2.2.2.1
    have kn5_0 := q.2.2.2.2.2.1
    have km5_0 := q.2.2.2.2.2.2
    clear q
    have q := keep2 h5 (b := w3.heap.size) (by first | (simp; done) | (simp; omega) | omega)
    have kc5_1_0 := q.1
    have kc5_1_1 := q.2.1
    have kf5_1_0 := q.2.2.1
    have kf5_1_1 := q.2.2.2.1
    have kl5_1 := q.2.2.2.2.1
    have kn5_1 := q.2.2.2.2.2.1
    have km5_1 := q.2.2.2.2.2.2
    clear q
    have kz5 := h5.size
    (try simp only [World.size_alloc, World.size_setCell, World.size_drew] at kz5)
    have H5 := Lib.hid h5
    clear h5
    go_wp2_with fail
    refine (RV.out _).mono ?_
    rintro e w6 ⟨rfl, h6⟩
    have q := keep2 h6 (b := w.heap.size) (by first | (simp; done) | (simp; omega) | omega)
    have kc6_0_0 := q.1
    have kc6_0_1 := q.2.1
    have kf6_0_0 := q.2.2.1
    have kf6_0_1 := q.2.2.2.1
    have kl6_0 := q.2.2.2.2.1
    have kn6_0 := q.2.2.2.2.2.1
    have km6_0 := q.2.2.2.2.2.2
    clear q
    have q := keep2 h6 (b := w3.heap.size) (by first | (simp; done) | (simp; omega) | omega)
    have kc6_1_0 := q.1
    have kc6_1_1 := q.2.1
    have kf6_1_0 := q.2.2.1
    have kf6_1_1 := q.2.2.2.1
    have kl6_1 := q.2.2.2.2.1
    have kn6_1 := q.2.2.2.2.2.1
    have km6_1 := q.2.2.2.2.2.2
    clear q
    have kz6 := h6.size
    (try simp only [World.size_alloc, World.size_setCell, World.size_drew] at kz6)
    have H6 := Lib.hid h6
    clear h6
    go_wp2
    go_ret
    exact ⟨rfl, by (show Rel _ _; repeat (first | with_reducible exact Rel.refl _ | with_reducible refine Rel.alloc ?_ _ | with_reducible refine Rel.setCell ?_ (by first | (simp; done) | (simp; omega)) _ | with_reducible refine Rel.drew ?_ | with_reducible refine Rel.trans ?_ H6.out | with_reducible refine Rel.trans ?_ H5.out | with_reducible refine Rel.trans ?_ H4.out | with_reducible refine Rel.trans ?_ H3.out | with_reducible refine Rel.trans ?_ H2.out | with_reducible refine Rel.trans ?_ H1.out | with_reducible refine Rel.trans ?_ H0.out))⟩

end Go.Proofs.YtfdajdlbkdfhoaaDoor

/- Walk of the law TokenShortest. No conditions but those printed. -/
import Derived.Test.YtfdajdlbkdfhoaaDoorShrtB
import Derived.Test.YtfdajdlbkdfhoaaDoorRatN
import Derived.Test.YtfdajdlbkdfhoaaDoorTokK
namespace Go.Proofs.YtfdajdlbkdfhoaaDoor
open Go.RowKit Cal Str Tok Frac Txt
attribute [local go_sem] calmUpon
set_option linter.unusedVariables false
set_option linter.unusedSimpArgs false

theorem pnt_snoc (l : List UInt8) (c : UInt8) : pnt (l ++ [c]) = (pnt l || ((c.toNat : Int) == 46)) := by
  induction l with
  | nil => simp [pnt]
  | cons x l ih => simp only [List.cons_append, pnt, ih, Bool.or_assoc]

/-- The text of a value: its last byte, its digits, their last byte. -/
theorem fd_parts {n d x : Int} (h : fdB n d x = true) : ∃ (T G : ByteArray), fdT n d x = T ∧ G.data.toList = bareL n d ∧ G.size ≤ 47 ∧ T.size ≤ 47 ∧ ∃ (hT : 0 < T.size) (hG : 0 < G.size),
    ((¬ ((T[T.size - 1]'(by omega)).toNat : Int) = 100 ∧ ¬ ((T[T.size - 1]'(by omega)).toNat : Int) = 109 ∧ G = T) ∨ (((T[T.size - 1]'(by omega)).toNat : Int) = 100 ∧ G = T.extract 0 (T.size - 1)) ∨ (¬ ((T[T.size - 1]'(by omega)).toNat : Int) = 100 ∧ ((T[T.size - 1]'(by omega)).toNat : Int) = 109 ∧ G = T.extract 0 (T.size - 1))) ∧
    (pnt G.data.toList = false ∨ ¬ ((G[G.size - 1]'(by omega)).toNat : Int) = 48) := by
  obtain ⟨hC, x2, x4, -⟩ := fdB_iff.1 h
  obtain ⟨hs, hb, hpos⟩ := fd_suf hC x2 x4
  have hz := fd_size n d x
  rw [← fd_yes h] at hs hb hpos
  have hbr := br_size (fdT n d x)
  obtain ⟨l, c, e, -, -, hc⟩ := bare_last hC
  have hG : 0 < (brS (fdT n d x)).size := by rw [← size_list, hb, e]; simp
  refine ⟨_, brS (fdT n d x), rfl, hb, by omega, hz, hpos, hG, ?_, ?_⟩
  · by_cases h1 : (((fdT n d x)[(fdT n d x).size - 1]'(by omega)).toNat : Int) = 100
    · exact .inr (.inl ⟨h1, (suf_d hpos h1).2⟩)
    · by_cases h2 : (((fdT n d x)[(fdT n d x).size - 1]'(by omega)).toNat : Int) = 109
      · exact .inr (.inr ⟨h1, h2, (suf_m hpos h2).2⟩)
      · exact .inl ⟨h1, h2, (suf_n hpos h1 h2).2⟩
  · by_cases h0 : 0 < restN n d
    · right
      have h2 := at_list (brS (fdT n d x)) ((brS (fdT n d x)).size - 1) (by omega)
      have h3 : (brS (fdT n d x)).data.toList[(brS (fdT n d x)).size - 1]? = some c := by
        rw [← size_list, hb, e]; simp
      have := Option.some.inj (h2.symm.trans h3)
      rw [this]; exact hc h0
    · left
      have := (bare_parts hC).2.1
      rw [hb, this]; simpa using h0

def tab9 : Array Value := #[.int .i64 1, .int .i64 2, .int .i64 5, .int .i64 10, .int .i64 16, .int .i64 100, .int .i64 1000, .int .i64 10000, .int .i64 3]
theorem tab9_ok : ∀ k, k < 9 → ∃ c : Int, tab9[k]? = some (.int .i64 c) ∧ 1 ≤ c ∧ c ≤ 10000 := by
  intro k hk
  rcases (show k = 0 ∨ k = 1 ∨ k = 2 ∨ k = 3 ∨ k = 4 ∨ k = 5 ∨ k = 6 ∨ k = 7 ∨ k = 8 by omega) with rfl | rfl | rfl | rfl | rfl | rfl | rfl | rfl | rfl <;> exact ⟨_, rfl, by decide, by decide⟩

set_option maxRecDepth 100000 in
set_option maxHeartbeats 8000000 in
theorem walk_TokenShortest (w : World) (ht : TabW w) (a0a a0b a1 a2 a3 : Int) (a4 : Bool) (b0a : -9223372036854775808 ≤ a0a) (c0a : a0a ≤ 9223372036854775807) (b0b : -9223372036854775808 ≤ a0b) (c0b : a0b ≤ 9223372036854775807) (b1 : -9223372036854775808 ≤ a1) (c1 : a1 ≤ 9223372036854775807)
    (b2 : -9223372036854775808 ≤ a2) (c2 : a2 ≤ 9223372036854775807) (b3 : -9223372036854775808 ≤ a3) (c3 : a3 ≤ 9223372036854775807) :
    Calls Tryd.prog 3 #[.agg #[.int .i64 a0a, .int .i64 a0b], .int .i64 a1, .int .i64 a2, .int .i64 a3, .bool a4] w (BRes true w) := by
  have HT := Lib.hid ht
  clear ht
  unfold BRes
  go_enter Tryd.func3, Tryd.ntmps3
  go_upto_if 23 with (fail)
  go_cut [1] (fun s1 wx => ∃ n d x : Int, s1 = .int .i64 x ∧ (-9223372036854775808 ≤ n ∧ n ≤ 9223372036854775807) ∧ (-9223372036854775808 ≤ d ∧ d ≤ 9223372036854775807) ∧ (-9223372036854775808 ≤ x ∧ x ≤ 9223372036854775807) ∧ wx.cell? ⟨w.heap.size, 0, none⟩ = some (.int .i64 n) ∧ wx.cell? ⟨w.heap.size, 1, none⟩ = some (.int .i64 d) ∧ w.heap.size < wx.heap.size ∧ Hid (Rel w wx))
  case first =>
    cases a4
    · obtain ⟨c, hc0, hc1, hc2⟩ := tab9_ok (a3 % 9).toNat (by omega)
      have k0 : 0 ≤ a3 % 9 := by omega
      have k1 : a3 % 9 < 9 := by omega
      have k2 : (a3 % 9).toNat < 9 := by omega
      have hc : ((w.alloc (.cells #[.int .i64 a0a, .int .i64 a0b] 23)).alloc (.cells tab9 3)).cell? ⟨w.heap.size + 1, (a3 % 9).toNat, none⟩ = some (.int .i64 c) := by
        simpa using hc0
      unfold tab9 at hc
      clear hc0
      obtain ⟨⟨m1, m2⟩, m3, m4⟩ := mk_bd (a2 % 2000000000) c
      obtain ⟨E, hE⟩ : ∃ E, mkE (a2 % 2000000000) c = E := ⟨_, rfl⟩
      obtain ⟨N, hN⟩ : ∃ N, mkN (a2 % 2000000000) c = N := ⟨_, rfl⟩
      obtain ⟨D, hD⟩ : ∃ D, mkD (a2 % 2000000000) c = D := ⟨_, rfl⟩
      have M := Lib.hid fun w => rmake_any (a2 % 2000000000) c w (by omega) (by omega) (by omega) (by omega)
      unfold FrRes at M
      rw [hN, hD, hE] at M
      rw [hN] at m1 m2
      rw [hD] at m3 m4
      clear hN hD hE
      go_wp2_with ((go_at_call 7; refine (pick_any _ _ _ (by omega) (by omega) (by omega) (by omega)).mono ?_; rintro e w1 ⟨rfl, rfl⟩))
      go_wp2_with fail
      refine (M.out _).mono ?_
      rintro e w1 ⟨rfl, h1⟩
      have q := keep2 h1 (b := w.heap.size) (by first | (simp; done) | (simp; omega) | omega)
      have kc1_0_0 := q.1
      have kc1_0_1 := q.2.1
      have kf1_0_0 := q.2.2.1
      have kf1_0_1 := q.2.2.2.1
      have kl1_0 := q.2.2.2.2.1
      have kn1_0 := q.2.2.2.2.2.1
      have km1_0 := q.2.2.2.2.2.2
      clear q
      have kz1 := h1.size
      (try simp only [World.size_alloc, World.size_setCell, World.size_drew] at kz1)
      have H1 := Lib.hid h1
      clear h1
      go_wp2_with ((go_at_call 7; refine (pick_any _ _ _ (by omega) (by omega) (by omega) (by omega)).mono ?_; rintro e w2 ⟨rfl, rfl⟩))
      go_meet
      case rel => exact ⟨N, D, a1 % 6, by go_simp, ⟨by omega, by omega⟩, ⟨by omega, by omega⟩, ⟨by omega, by omega⟩, by go_simp, by go_simp, by simp; omega, by show Rel _ _; (show Rel _ _; repeat (first | with_reducible exact Rel.refl _ | with_reducible refine Rel.alloc ?_ _ | with_reducible refine Rel.setCell ?_ (by first | (simp; done) | (simp; omega)) _ | with_reducible refine Rel.drew ?_ | with_reducible refine Rel.trans ?_ H1.out | with_reducible refine Rel.trans ?_ H0.out))⟩
    · go_wp2
      go_meet
      case rel => exact ⟨a0a, a0b, a1, rfl, ⟨b0a, c0a⟩, ⟨b0b, c0b⟩, ⟨b1, c1⟩, by go_simp, by go_simp, by simp, by show Rel _ _; (show Rel _ _; repeat (first | with_reducible exact Rel.refl _ | with_reducible refine Rel.alloc ?_ _ | with_reducible refine Rel.setCell ?_ (by first | (simp; done) | (simp; omega)) _ | with_reducible refine Rel.drew ?_ | with_reducible refine Rel.trans ?_ H0.out))⟩
  case rest =>
    obtain ⟨n, d, x, rfl, ⟨n0, n1⟩, ⟨d0, d1⟩, ⟨x0, x1⟩, hn, hd, hlt, hR⟩ := hcut
    clear b0a c0a b0b c0b b1 c1 b2 c2 b3 c3
    have FM := Lib.hid fun w ht => FormatDecimal_any n d x w ht n0 n1 d0 d1 x0 x1
    have RF := Lib.hid fun w => rFormatDecimal_any n d x w n0 n1 d0 d1 x0 x1
    unfold FdRes at FM RF
    cases hB : fdB n d x
    · have e0 := fd_no hB
      rw [hB, e0] at FM RF
      have C := Lib.hid fun w => Decimal_any ⟨#[]⟩ w (by decide)
      unfold DecRes at C
      obtain ⟨N, hN⟩ : ∃ N, decN ⟨#[]⟩ = N := ⟨_, rfl⟩
      obtain ⟨D, hD⟩ : ∃ D, decD ⟨#[]⟩ = D := ⟨_, rfl⟩
      obtain ⟨X, hX⟩ : ∃ X, decX ⟨#[]⟩ = X := ⟨_, rfl⟩
      obtain ⟨B, hBB⟩ : ∃ B, decB ⟨#[]⟩ = B := ⟨_, rfl⟩
      rw [hN, hD, hX, hBB] at C
      clear hB e0 hN hD hX hBB
      go_wp2_with fail
      refine (FM.out _ (HT.out.rel hR.out)).mono ?_
      rintro e w1 ⟨rfl, h1⟩
      have q := keep2 h1 (b := w.heap.size) (by first | (simp; done) | (simp; omega) | omega)
      have kc1_0_0 := q.1
      have kc1_0_1 := q.2.1
      have kf1_0_0 := q.2.2.1
      have kf1_0_1 := q.2.2.2.1
      have kl1_0 := q.2.2.2.2.1
      have kn1_0 := q.2.2.2.2.2.1
      have km1_0 := q.2.2.2.2.2.2
      clear q
      have kz1 := h1.size
      (try simp only [World.size_alloc, World.size_setCell, World.size_drew] at kz1)
      have H1 := Lib.hid h1
      clear h1
      go_wp2_with fail
      refine (RF.out _).mono ?_
      rintro e w2 ⟨rfl, h2⟩
      have q := keep2 h2 (b := w.heap.size) (by first | (simp; done) | (simp; omega) | omega)
      have kc2_0_0 := q.1
      have kc2_0_1 := q.2.1
      have kf2_0_0 := q.2.2.1
      have kf2_0_1 := q.2.2.2.1
      have kl2_0 := q.2.2.2.2.1
      have kn2_0 := q.2.2.2.2.2.1
      have km2_0 := q.2.2.2.2.2.2
      clear q
      have kz2 := h2.size
      (try simp only [World.size_alloc, World.size_setCell, World.size_drew] at kz2)
      have H2 := Lib.hid h2
      clear h2
      go_wp2_with fail
      refine (tawake_any _).mono ?_
      unfold BRes
      rintro e w3 ⟨rfl, h3⟩
      have q := keep2 h3 (b := w.heap.size) (by first | (simp; done) | (simp; omega) | omega)
      have kc3_0_0 := q.1
      have kc3_0_1 := q.2.1
      have kf3_0_0 := q.2.2.1
      have kf3_0_1 := q.2.2.2.1
      have kl3_0 := q.2.2.2.2.1
      have kn3_0 := q.2.2.2.2.2.1
      have km3_0 := q.2.2.2.2.2.2
      clear q
      have kz3 := h3.size
      (try simp only [World.size_alloc, World.size_setCell, World.size_drew] at kz3)
      have H3 := Lib.hid h3
      clear h3
      go_wp2_with fail
      refine (C.out _).mono ?_
      rintro e w4 ⟨rfl, h4⟩
      have q := keep2 h4 (b := w.heap.size) (by first | (simp; done) | (simp; omega) | omega)
      have kc4_0_0 := q.1
      have kc4_0_1 := q.2.1
      have kf4_0_0 := q.2.2.1
      have kf4_0_1 := q.2.2.2.1
      have kl4_0 := q.2.2.2.2.1
      have kn4_0 := q.2.2.2.2.2.1
      have km4_0 := q.2.2.2.2.2.2
      clear q
      have kz4 := h4.size
      (try simp only [World.size_alloc, World.size_setCell, World.size_drew] at kz4)
      have H4 := Lib.hid h4
      clear h4
      go_wp2
      go_ret
      exact ⟨rfl, by refine hR.out.trans ?_; (show Rel _ _; repeat (first | with_reducible exact Rel.refl _ | with_reducible refine Rel.alloc ?_ _ | with_reducible refine Rel.setCell ?_ (by first | (simp; done) | (simp; omega)) _ | with_reducible refine Rel.drew ?_ | with_reducible refine Rel.trans ?_ H4.out | with_reducible refine Rel.trans ?_ H3.out | with_reducible refine Rel.trans ?_ H2.out | with_reducible refine Rel.trans ?_ H1.out | with_reducible refine Rel.trans ?_ H0.out))⟩
    · obtain ⟨T, G, hT, hGl, hG47, hT47, hTp, hGp, hlast, hpt⟩ := fd_parts hB
      obtain ⟨k1, k2, k3, k4⟩ := fd_back hB
      rw [hB, hT] at FM RF
      rw [hT] at k1 k2 k3 k4
      have C := Lib.hid fun w => Decimal_any T w (by unfold maxLen; omega)
      unfold DecRes at C
      rw [k1, k2, k3, k4] at C
      have i1 : IntKind.i64.wrap ((T.size : Int) - 1) = (T.size : Int) - 1 := IntWalk.i64_in _ ⟨by omega, by omega⟩
      have i2 : ((T.size : Int) - 1).toNat = T.size - 1 := by omega
      have i3 : (0 : Int) ≤ (T.size : Int) - 1 := by omega
      have i4 : (1 : Int) ≤ (T.size : Int) := by omega
      have i5 : T.size - 1 < T.size := by omega
      have j1 : IntKind.i64.wrap ((G.size : Int) - 1) = (G.size : Int) - 1 := IntWalk.i64_in _ ⟨by omega, by omega⟩
      have j2 : ((G.size : Int) - 1).toNat = G.size - 1 := by omega
      have j3 : (0 : Int) ≤ (G.size : Int) - 1 := by omega
      have j4 : (1 : Int) ≤ (G.size : Int) := by omega
      have j5 : G.size - 1 < G.size := by omega
      have HL := Lib.hid hlast
      have HP := Lib.hid hpt
      clear hB hT hGl k1 k2 k3 k4 hlast hpt
      go_wp2_with fail
      refine (FM.out _ (HT.out.rel hR.out)).mono ?_
      rintro e w1 ⟨rfl, h1⟩
      have q := keep2 h1 (b := w.heap.size) (by first | (simp; done) | (simp; omega) | omega)
      have kc1_0_0 := q.1
      have kc1_0_1 := q.2.1
      have kf1_0_0 := q.2.2.1
      have kf1_0_1 := q.2.2.2.1
      have kl1_0 := q.2.2.2.2.1
      have kn1_0 := q.2.2.2.2.2.1
      have km1_0 := q.2.2.2.2.2.2
      clear q
      have kz1 := h1.size
      (try simp only [World.size_alloc, World.size_setCell, World.size_drew] at kz1)
      have H1 := Lib.hid h1
      clear h1
      go_wp2_with fail
      refine (RF.out _).mono ?_
      rintro e w2 ⟨rfl, h2⟩
      have q := keep2 h2 (b := w.heap.size) (by first | (simp; done) | (simp; omega) | omega)
      have kc2_0_0 := q.1
      have kc2_0_1 := q.2.1
      have kf2_0_0 := q.2.2.1
      have kf2_0_1 := q.2.2.2.1
      have kl2_0 := q.2.2.2.2.1
      have kn2_0 := q.2.2.2.2.2.1
      have km2_0 := q.2.2.2.2.2.2
      clear q
      have kz2 := h2.size
      (try simp only [World.size_alloc, World.size_setCell, World.size_drew] at kz2)
      have H2 := Lib.hid h2
      clear h2
      go_wp2_with fail
      refine (tawake_any _).mono ?_
      unfold BRes
      rintro e w3 ⟨rfl, h3⟩
      have q := keep2 h3 (b := w.heap.size) (by first | (simp; done) | (simp; omega) | omega)
      have kc3_0_0 := q.1
      have kc3_0_1 := q.2.1
      have kf3_0_0 := q.2.2.1
      have kf3_0_1 := q.2.2.2.1
      have kl3_0 := q.2.2.2.2.1
      have kn3_0 := q.2.2.2.2.2.1
      have km3_0 := q.2.2.2.2.2.2
      clear q
      have kz3 := h3.size
      (try simp only [World.size_alloc, World.size_setCell, World.size_drew] at kz3)
      have H3 := Lib.hid h3
      clear h3
      go_wp2_with fail
      refine (C.out _).mono ?_
      rintro e w4 ⟨rfl, h4⟩
      have q := keep2 h4 (b := w.heap.size) (by first | (simp; done) | (simp; omega) | omega)
      have kc4_0_0 := q.1
      have kc4_0_1 := q.2.1
      have kf4_0_0 := q.2.2.1
      have kf4_0_1 := q.2.2.2.1
      have kl4_0 := q.2.2.2.2.1
      have kn4_0 := q.2.2.2.2.2.1
      have km4_0 := q.2.2.2.2.2.2
      clear q
      have kz4 := h4.size
      (try simp only [World.size_alloc, World.size_setCell, World.size_drew] at kz4)
      have H4 := Lib.hid h4
      clear h4
      rcases HL.out with ⟨h1, h2, rfl⟩ | ⟨h1, h2⟩ | ⟨h1, h2, h3⟩
      · have q1 : (((G[G.size - 1]'(by omega)).toNat : Int) == 100) = false := by simpa using h1
        have q2 : (((G[G.size - 1]'(by omega)).toNat : Int) == 109) = false := by simpa using h2
        clear h1 h2
        go_wp2_with fail
        skip
        go_loop [20, 21] (fun p i => ∃ k : Nat, k ≤ G.size ∧ i = .int .i64 k ∧ p = .bool (pnt (G.data.toList.take k))) (fun _ i => G.size - (intOf i).toNat)
        case atStart => exact ⟨0, by omega, rfl, rfl⟩
        case round =>
          obtain ⟨k, hk, rfl, rfl⟩ := hrel
          by_cases hlt' : k < G.size
          · have hst := Lib.hid (show pnt (G.data.toList.take (k + 1)) = (pnt (G.data.toList.take k) || ((G[k].toNat : Int) == 46)) by rw [take_snoc G k hlt', pnt_snoc])
            obtain ⟨P, hP⟩ : ∃ P, pnt (G.data.toList.take k) = P := ⟨_, rfl⟩
            rw [hP] at hst ⊢
            clear hP
            cases P
            · go_wp2
              go_round
              case rel => exact ⟨k + 1, by omega, by go_num, by rw [hst.out]; rfl⟩
              case measure => simp [intOf]; omega
            · go_wp2
              go_round
              case rel => exact ⟨k + 1, by omega, by go_num, by rw [hst.out]; rfl⟩
              case measure => simp [intOf]; omega
          · have hall := take_all G k (by omega)
            rw [hall]
            obtain ⟨P, hP⟩ : ∃ P, pnt G.data.toList = P := ⟨_, rfl⟩
            rw [hP] at HP ⊢
            clear hP hall
            cases P
            · go_wp2
              go_ret
              exact ⟨rfl, by refine hR.out.trans ?_; (show Rel _ _; repeat (first | with_reducible exact Rel.refl _ | with_reducible refine Rel.alloc ?_ _ | with_reducible refine Rel.setCell ?_ (by first | (simp; done) | (simp; omega)) _ | with_reducible refine Rel.drew ?_ | with_reducible refine Rel.trans ?_ H4.out | with_reducible refine Rel.trans ?_ H3.out | with_reducible refine Rel.trans ?_ H2.out | with_reducible refine Rel.trans ?_ H1.out | with_reducible refine Rel.trans ?_ H0.out))⟩
            · have q3 : (((G[G.size - 1]'(by omega)).toNat : Int) != 48) = true := by
                rcases HP.out with h | h
                · cases h
                · simpa using h
              go_wp2
              go_ret
              exact ⟨rfl, by refine hR.out.trans ?_; (show Rel _ _; repeat (first | with_reducible exact Rel.refl _ | with_reducible refine Rel.alloc ?_ _ | with_reducible refine Rel.setCell ?_ (by first | (simp; done) | (simp; omega)) _ | with_reducible refine Rel.drew ?_ | with_reducible refine Rel.trans ?_ H4.out | with_reducible refine Rel.trans ?_ H3.out | with_reducible refine Rel.trans ?_ H2.out | with_reducible refine Rel.trans ?_ H1.out | with_reducible refine Rel.trans ?_ H0.out))⟩
      · have q1 : (((T[T.size - 1]'(by omega)).toNat : Int) == 100) = true := by simpa using h1
        have hG := Lib.hid h2
        clear h1 h2
        go_wp2_with fail
        rw [← hG.out]
        go_loop [20, 21] (fun p i => ∃ k : Nat, k ≤ G.size ∧ i = .int .i64 k ∧ p = .bool (pnt (G.data.toList.take k))) (fun _ i => G.size - (intOf i).toNat)
        case atStart => exact ⟨0, by omega, rfl, rfl⟩
        case round =>
          obtain ⟨k, hk, rfl, rfl⟩ := hrel
          by_cases hlt' : k < G.size
          · have hst := Lib.hid (show pnt (G.data.toList.take (k + 1)) = (pnt (G.data.toList.take k) || ((G[k].toNat : Int) == 46)) by rw [take_snoc G k hlt', pnt_snoc])
            obtain ⟨P, hP⟩ : ∃ P, pnt (G.data.toList.take k) = P := ⟨_, rfl⟩
            rw [hP] at hst ⊢
            clear hP
            cases P
            · go_wp2
              go_round
              case rel => exact ⟨k + 1, by omega, by go_num, by rw [hst.out]; rfl⟩
              case measure => simp [intOf]; omega
            · go_wp2
              go_round
              case rel => exact ⟨k + 1, by omega, by go_num, by rw [hst.out]; rfl⟩
              case measure => simp [intOf]; omega
          · have hall := take_all G k (by omega)
            rw [hall]
            obtain ⟨P, hP⟩ : ∃ P, pnt G.data.toList = P := ⟨_, rfl⟩
            rw [hP] at HP ⊢
            clear hP hall
            cases P
            · go_wp2
              go_ret
              exact ⟨rfl, by refine hR.out.trans ?_; (show Rel _ _; repeat (first | with_reducible exact Rel.refl _ | with_reducible refine Rel.alloc ?_ _ | with_reducible refine Rel.setCell ?_ (by first | (simp; done) | (simp; omega)) _ | with_reducible refine Rel.drew ?_ | with_reducible refine Rel.trans ?_ H4.out | with_reducible refine Rel.trans ?_ H3.out | with_reducible refine Rel.trans ?_ H2.out | with_reducible refine Rel.trans ?_ H1.out | with_reducible refine Rel.trans ?_ H0.out))⟩
            · have q3 : (((G[G.size - 1]'(by omega)).toNat : Int) != 48) = true := by
                rcases HP.out with h | h
                · cases h
                · simpa using h
              go_wp2
              go_ret
              exact ⟨rfl, by refine hR.out.trans ?_; (show Rel _ _; repeat (first | with_reducible exact Rel.refl _ | with_reducible refine Rel.alloc ?_ _ | with_reducible refine Rel.setCell ?_ (by first | (simp; done) | (simp; omega)) _ | with_reducible refine Rel.drew ?_ | with_reducible refine Rel.trans ?_ H4.out | with_reducible refine Rel.trans ?_ H3.out | with_reducible refine Rel.trans ?_ H2.out | with_reducible refine Rel.trans ?_ H1.out | with_reducible refine Rel.trans ?_ H0.out))⟩
      · have q1 : (((T[T.size - 1]'(by omega)).toNat : Int) == 100) = false := by simpa using h1
        have q2 : (((T[T.size - 1]'(by omega)).toNat : Int) == 109) = true := by simpa using h2
        have hG := Lib.hid h3
        clear h1 h2 h3
        go_wp2_with fail
        rw [← hG.out]
        go_loop [20, 21] (fun p i => ∃ k : Nat, k ≤ G.size ∧ i = .int .i64 k ∧ p = .bool (pnt (G.data.toList.take k))) (fun _ i => G.size - (intOf i).toNat)
        case atStart => exact ⟨0, by omega, rfl, rfl⟩
        case round =>
          obtain ⟨k, hk, rfl, rfl⟩ := hrel
          by_cases hlt' : k < G.size
          · have hst := Lib.hid (show pnt (G.data.toList.take (k + 1)) = (pnt (G.data.toList.take k) || ((G[k].toNat : Int) == 46)) by rw [take_snoc G k hlt', pnt_snoc])
            obtain ⟨P, hP⟩ : ∃ P, pnt (G.data.toList.take k) = P := ⟨_, rfl⟩
            rw [hP] at hst ⊢
            clear hP
            cases P
            · go_wp2
              go_round
              case rel => exact ⟨k + 1, by omega, by go_num, by rw [hst.out]; rfl⟩
              case measure => simp [intOf]; omega
            · go_wp2
              go_round
              case rel => exact ⟨k + 1, by omega, by go_num, by rw [hst.out]; rfl⟩
              case measure => simp [intOf]; omega
          · have hall := take_all G k (by omega)
            rw [hall]
            obtain ⟨P, hP⟩ : ∃ P, pnt G.data.toList = P := ⟨_, rfl⟩
            rw [hP] at HP ⊢
            clear hP hall
            cases P
            · go_wp2
              go_ret
              exact ⟨rfl, by refine hR.out.trans ?_; (show Rel _ _; repeat (first | with_reducible exact Rel.refl _ | with_reducible refine Rel.alloc ?_ _ | with_reducible refine Rel.setCell ?_ (by first | (simp; done) | (simp; omega)) _ | with_reducible refine Rel.drew ?_ | with_reducible refine Rel.trans ?_ H4.out | with_reducible refine Rel.trans ?_ H3.out | with_reducible refine Rel.trans ?_ H2.out | with_reducible refine Rel.trans ?_ H1.out | with_reducible refine Rel.trans ?_ H0.out))⟩
            · have q3 : (((G[G.size - 1]'(by omega)).toNat : Int) != 48) = true := by
                rcases HP.out with h | h
                · cases h
                · simpa using h
              go_wp2
              go_ret
              exact ⟨rfl, by refine hR.out.trans ?_; (show Rel _ _; repeat (first | with_reducible exact Rel.refl _ | with_reducible refine Rel.alloc ?_ _ | with_reducible refine Rel.setCell ?_ (by first | (simp; done) | (simp; omega)) _ | with_reducible refine Rel.drew ?_ | with_reducible refine Rel.trans ?_ H4.out | with_reducible refine Rel.trans ?_ H3.out | with_reducible refine Rel.trans ?_ H2.out | with_reducible refine Rel.trans ?_ H1.out | with_reducible refine Rel.trans ?_ H0.out))⟩

end Go.Proofs.YtfdajdlbkdfhoaaDoor

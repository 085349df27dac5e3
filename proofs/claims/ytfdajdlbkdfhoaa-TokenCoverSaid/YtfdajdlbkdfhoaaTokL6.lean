/- Walk of the law TokenCover. No conditions but those printed. -/
import Derived.Test.YtfdajdlbkdfhoaaTokL4
import Derived.Test.YtfdajdlbkdfhoaaTokCov
namespace Go.Proofs.Ytfdajdlbkdfhoaa
open Go.RowKit Cal Str Tok Frac
attribute [local go_sem] calmUpon
set_option linter.unusedVariables false
set_option linter.unusedSimpArgs false

theorem allF_err (s : ByteArray) : ∀ (f a : Nat) (acc : List Tk), (allF s f a acc).2.2 = 0 ∨ (allF s f a acc).1 = [] := by
  intro f
  induction f with
  | zero => intro a acc; exact .inl rfl
  | succ f ih =>
    intro a acc
    simp only [allF]
    split
    · exact .inl rfl
    · split
      · exact .inr rfl
      · exact ih _ _
theorem allR_err (s : ByteArray) : (allR s).2.2 = 0 ∨ (allR s).1 = [] := by
  unfold allR
  split
  · exact allF_err s _ _ _
  · exact .inr rfl
theorem allR_good {s : ByteArray} (h : (allR s).2.2 = 0) : ∃ l, allR s = (l, 0, 0) ∧ Good s 0 l ∧ s.size ≤ 8000 := by
  unfold allR at h ⊢
  by_cases h8 : s.size ≤ 8000
  · rw [if_pos h8] at h ⊢
    obtain ⟨l, e, g⟩ := good_of s (s.size + 1) 0 [] (by omega) (by omega) h
    exact ⟨l, by rw [e]; rfl, g, h8⟩
  · rw [if_neg h8] at h; exact absurd h (by decide)
theorem joinL_snoc (l : List Tk) (t : Tk) : joinL (l ++ [t]) = joinL l ++ (t.T.data.toList ++ [32]) := by unfold joinL; simp

set_option maxRecDepth 100000 in
set_option maxHeartbeats 16000000 in
theorem walk_TokenCover (w : World) (a0 : ByteArray) (a1 : Value) (n1 : Nat) (a2 : Int) (b0 : a0.size ≤ 140737488355328) (b1 : IntsIn w a1 n1) (b2 : -9223372036854775808 ≤ a2) (c2 : a2 ≤ 9223372036854775807) :
    Calls Try.prog 5 #[.string a0, a1, .int .i64 a2] w (BRes true w) := by
  unfold BRes
  by_cases hz0 : a0.size = 0
  · have q0 : ((a0.size : Int) == 0) = true := by rw [beq_iff_eq]; omega
    go_enter Try.func5, Try.ntmps5
    go_wp2_with fail
    refine (text_any _ _ _ _ b1 b2 c2).mono ?_
    rintro e w0 ⟨t0, rfl, ht0, h0⟩
    have kz0 := h0.size
    (try simp only [World.size_alloc, World.size_setCell, World.size_drew] at kz0)
    have H0 := Lib.hid h0
    clear h0
    rcases Classical.em ((allR t0).2.2 = 0) with hz | hz
    · obtain ⟨l, hl, hg, h8⟩ := allR_good hz
      have D1 : Hid (∀ w, Calls Try.prog 14 #[.string t0] w fun e w' => ∃ v, e = .returned (.tuple #[v, .int .i64 0, .int .i64 0]) ∧ Rel w w' ∧ w'.ownsRow w.heap.size 26 3 v l.length (encL l)) := fun w => by
        have := All_any t0 w (by omega); unfold AllRes at this; rwa [hl] at this
      have HG := Lib.hid hg
      clear hl hg hz
      go_wp2_with fail
      refine (D1.out _).mono ?_
      rintro e w1 ⟨v1, rfl, h1, o1⟩
      have kz1 := h1.size
      (try simp only [World.size_alloc, World.size_setCell, World.size_drew] at kz1)
      have H1 := Lib.hid h1
      clear h1
      obtain ⟨p1, cap1, rfl, hm, k1⟩ := own_any o1
      have K1 := Lib.hid k1
      unfold maxLen at hm
      clear o1 k1
      go_wp2
      go_loopw [10, 11, 12] (fun s10 s11 s12 wx => ∃ (k e : Nat) (t : ByteArray), s12 = .int .i64 k ∧ s10 = .int .i64 e ∧ s11 = .string t ∧ k ≤ l.length ∧ e ≤ t0.size ∧ t.size ≤ 2 * e ∧ Hid (t.data.toList = joinL (l.take k)) ∧ Hid (Good t0 e (l.drop k)) ∧ Hid (Rel w1 wx)) (fun _ _ i _ => l.length - (intOf i).toNat)
      case atStart => exact ⟨0, 0, ⟨#[]⟩, rfl, rfl, rfl, by omega, by omega, by decide, rfl, HG, Rel.refl _⟩
      case round =>
        obtain ⟨k, en, t, rfl, rfl, rfl, hk, hen, ht, hJ, hGd, hR⟩ := hrel
        by_cases hlt : k < l.length
        · obtain ⟨K, A, T, e1, e2, e3, e4⟩ := encL_at l k hlt
          obtain ⟨g1, rfl, gb1, gl1, gc1⟩ := K1.out (by omega)
          have ed : l.drop k = ⟨K, T, A⟩ :: l.drop (k + 1) := by
            have hk' : k < l.length := hlt
            rw [List.drop_eq_getElem_cons hk']
            rw [List.getElem?_eq_getElem hk'] at e4
            injection e4 with e4; rw [e4]
          have et : l.take (k + 1) = l.take k ++ [⟨K, T, A⟩] := by
            rw [List.take_add_one, e4]; rfl
          have hgd := hGd.out
          rw [ed] at hgd
          obtain ⟨b, n, hab, hb, hn1, hbn, hK, hk0, hn, hT, hA, hsk, hgl⟩ := hgd
          simp only at hT hA
          subst hA
          have hTz : T.size = n := by rw [hT, ByteArray.size_extract]; omega
          have a0' : wr.cell? ⟨g1, k * 3, none⟩ = some (.int .i64 K) := hR.out.cell (gc1 _ _ e1)
          have a1' : wr.cell? ⟨g1, k * 3 + 1, none⟩ = some (.string T) := hR.out.cell (gc1 _ _ e2)
          have a2' : wr.cell? ⟨g1, k * 3 + 2, none⟩ = some (.int .i64 b) := hR.out.cell (gc1 _ _ e3)
          have J2 : Hid ((t ++ (T ++ ⟨#[32]⟩)).data.toList = joinL (l.take (k + 1))) := by
            show _ = _
            rw [et, joinL_snoc]
            have := hJ.out
            simp [this]
          have G2 := Lib.hid hgl
          have hE : t0.extract b (b + n) = T := hT.symm
          have hlt' : (k : Int) < (l.length : Int) := by omega
          have w1' : IntKind.i64.wrap ((b : Int) + (n : Int)) = (b : Int) + (n : Int) := IntWalk.i64_in _ ⟨by omega, by omega⟩
          have w2' : IntKind.i64.wrap ((t0.size : Int) - (b : Int)) = (t0.size : Int) - (b : Int) := IntWalk.i64_in _ ⟨by omega, by omega⟩
          have i1' : ((b : Int) + (n : Int)).toNat = b + n := by omega
          have b1' : (b : Int) ≤ (b : Int) + (n : Int) := by omega
          have b2' : (b : Int) + (n : Int) ≤ (t0.size : Int) := by omega
          have d1' : decide ((b : Int) < (en : Int)) = false := by simp; omega
          have d1n : decide (b < en) = false := by simp; omega
          have d1p : ¬ b < en := by omega
          have d2' : ((n : Int) == 0) = false := by rw [beq_eq_false_iff_ne]; omega
          have d2n : (n == 0) = false := by rw [beq_eq_false_iff_ne]; omega
          have d3' : decide ((t0.size : Int) - (b : Int) < (n : Int)) = false := by simp; omega
          have tz : (t ++ (T ++ (⟨#[32]⟩ : ByteArray))).size ≤ 2 * (b + n) := by
            rw [ByteArray.size_append, ByteArray.size_append]; have e1 : (⟨#[32]⟩ : ByteArray).size = 1 := rfl; omega
          have TZ := Lib.hid tz
          clear e1 e2 e3 e4 gc1 ed et hK hk0 hn hT hsk hgl tz
          go_wp2
          refine wp_region_calm (fun _ w' => w'.cell? ⟨wr.heap.size, 0, none⟩ = some (.int .i64 K) ∧ w'.cell? ⟨wr.heap.size, 1, none⟩ = some (.string T) ∧ w'.cell? ⟨wr.heap.size, 2, none⟩ = some (.int .i64 b)) (fun _ => false) [0, 1, 2, 3, 4, 5, 6, 7, 8, 9, 10, 11, 12, 13, 14, 15, 16, 17, 18, 19, 20, 21, 22, 23, 24, 25, 26, 27, 28, 29, 30, 31, 32, 33, 34, 35] 0 (by kernel_rfl) (by kernel_rfl) ?hst ?hS0 (fun w0 h0 => ?_)
          case hst => exact fun _ _ _ h r => ⟨r.cell h.1, r.cell h.2.1, r.cell h.2.2⟩
          case hS0 => exact ⟨by go_simp, by go_simp, by go_simp⟩
          clear a0' a1' a2'
          iterate 36
            refine wpCalm_go rfl (by kernel_rfl) (fun K hK => ?_)
            apply Exists.intro
            refine ⟨fun M w hM hS => ?_, hK _ ?_⟩
            · have c0 := hS.1
              have c1 := hS.2.1
              have c2 := hS.2.2
              unfold calmAt
              go_simp
              exact ⟨rfl, Rel.refl _⟩
            clear hK K
          refine wpAnyR_end (by kernel_rfl) (fun w9 h9' => ?_)
          (try simp only [Act.put, List.setIfInBounds_toArray, List.set_cons_zero, List.set_cons_succ])
          have h9 := h0.trans h9'
          clear h0 h9'
          have q := keep3 h9 (b := wr.heap.size) (by first | (simp; done) | (simp; omega) | omega)
          have kc9_0_0 := q.1
          have kc9_0_1 := q.2.1
          have kc9_0_2 := q.2.2.1
          have kf9_0_0 := q.2.2.2.1
          have kf9_0_1 := q.2.2.2.2.1
          have kf9_0_2 := q.2.2.2.2.2.1
          have kl9_0 := q.2.2.2.2.2.2.1
          have kn9_0 := q.2.2.2.2.2.2.2.1
          have km9_0 := q.2.2.2.2.2.2.2.2
          clear q
          have kz9 := h9.size
          (try simp only [World.size_alloc, World.size_setCell, World.size_drew] at kz9)
          have H9 := Lib.hid h9
          clear h9
          go_wp2
          go_roundw
          case rel => exact ⟨k + 1, b + n, _, by go_num, by go_num, rfl, by omega, hbn, TZ.out, J2, G2, (hR.out.alloc _).trans H9.out⟩
          case measure => simp [intOf]; omega
        · obtain rfl : k = l.length := by omega
          have hj := hJ.out
          rw [List.take_length] at hj
          by_cases hbig : t.size ≤ 8000
          · obtain ⟨l', hl', hsame⟩ := relex t0 t l 0 HG.out (t.size + 1) 0 [] (by omega) (by omega) (.inl (by rw [List.drop_zero]; exact hj))
            have hr : allR t = (l', 0, 0) := by unfold allR; rw [if_pos hbig, hl']; rfl
            have D2 : Hid (∀ w, Calls Try.prog 14 #[.string t] w fun e w' => ∃ v, e = .returned (.tuple #[v, .int .i64 0, .int .i64 0]) ∧ Rel w w' ∧ w'.ownsRow w.heap.size 26 3 v l'.length (encL l')) := fun w => by
              have := All_any t w (by omega); unfold AllRes at this; rwa [hr] at this
            have HS := Lib.hid hsame
            have hll : l'.length = l.length := same_len hsame
            rw [hll] at D2
            have db : ¬ (8000 : Int) < (t.size : Int) := by omega
            have HLL := Lib.hid hll
            clear hl' hsame hr hj hll
            go_wp2_with fail
            refine (D2.out _).mono ?_
            rintro e w2 ⟨v2, rfl, h2, o2⟩
            have kz2 := h2.size
            (try simp only [World.size_alloc, World.size_setCell, World.size_drew] at kz2)
            have H2 := Lib.hid h2
            clear h2
            obtain ⟨p2, cap2, rfl, _, k2⟩ := own_any o2
            have K2 := Lib.hid k2
            clear o2 k2
            go_wp2
            go_loopw [17] (fun i wx => ∃ k : Nat, i = .int .i64 k ∧ k ≤ l.length ∧ Hid (Rel w2 wx)) (fun i _ => l.length - (intOf i).toNat)
            case atStart => exact ⟨0, rfl, by omega, Rel.refl _⟩
            case round =>
              rename_i wr0 _ _ _ _
              obtain ⟨k, rfl, hk, hR2⟩ := hrel
              by_cases hlt : k < l.length
              · obtain ⟨K, A, T, e1, e2, e3, e4⟩ := encL_at l k hlt
                obtain ⟨K', A', T', f1, f2, f3, f4⟩ := encL_at l' k (by rw [HLL.out]; exact hlt)
                obtain ⟨s1, s2⟩ := same_at HS.out e4 f4
                simp only at s1 s2
                subst s1 s2
                obtain ⟨g1, rfl, gb1, gl1, gc1⟩ := K1.out (by omega)
                obtain ⟨g2, rfl, gb2, gl2, gc2⟩ := K2.out (by omega)
                have r13 : Rel w1 wr := (hR.out.trans H2.out).trans hR2.out
                have a0' : wr.cell? ⟨g1, k * 3, none⟩ = some (.int .i64 K) := r13.cell (gc1 _ _ e1)
                have a1' : wr.cell? ⟨g1, k * 3 + 1, none⟩ = some (.string T) := r13.cell (gc1 _ _ e2)
                have b0' : wr.cell? ⟨g2, k * 3, none⟩ = some (.int .i64 K) := hR2.out.cell (gc2 _ _ f1)
                have b1' : wr.cell? ⟨g2, k * 3 + 1, none⟩ = some (.string T) := hR2.out.cell (gc2 _ _ f2)
                have hlt' : (k : Int) < (l.length : Int) := by omega
                clear e1 e2 e3 e4 f1 f2 f3 f4 gc1 gc2 r13
                go_wp2
                refine wp_region_calm (fun _ w' => w'.cell? ⟨g1, k * 3, none⟩ = some (.int .i64 K) ∧ w'.cell? ⟨g1, k * 3 + 1, none⟩ = some (.string T) ∧ w'.cell? ⟨g2, k * 3, none⟩ = some (.int .i64 K) ∧ w'.cell? ⟨g2, k * 3 + 1, none⟩ = some (.string T)) (fun _ => false) [0, 1, 2, 3, 4, 5, 6, 7, 8, 9, 10, 11, 12, 13, 14, 15, 16, 17, 18, 19, 20, 21, 22, 23] 0 (by kernel_rfl) (by kernel_rfl) ?hst ?hS0 (fun w0 h0 => ?_)
                case hst => exact fun _ _ _ h r => ⟨r.cell h.1, r.cell h.2.1, r.cell h.2.2.1, r.cell h.2.2.2⟩
                case hS0 => exact ⟨a0', a1', b0', b1'⟩
                clear a0' a1' b0' b1'
                iterate 24
                  refine wpCalm_go rfl (by kernel_rfl) (fun K hK => ?_)
                  apply Exists.intro
                  refine ⟨fun M w hM hS => ?_, hK _ ?_⟩
                  · have c0 := hS.1
                    have c1 := hS.2.1
                    have c2 := hS.2.2.1
                    have c3 := hS.2.2.2
                    unfold calmAt
                    go_simp
                    exact ⟨rfl, Rel.refl _⟩
                  clear hK K
                refine wpAnyR_end (by kernel_rfl) (fun w9 h9' => ?_)
                (try simp only [Act.put, List.setIfInBounds_toArray, List.set_cons_zero, List.set_cons_succ])
                have h9 := h0.trans h9'
                clear h0 h9'
                have kz9 := h9.size
                (try simp only [World.size_alloc, World.size_setCell, World.size_drew] at kz9)
                have H9 := Lib.hid h9
                clear h9
                go_wp2
                go_roundw
                case rel => exact ⟨k + 1, by go_num, by omega, hR2.out.trans H9.out⟩
                case measure => simp [intOf]; omega
              · go_wp2_with fail
                refine (tawake_any _).mono ?_
                unfold BRes
                rintro e w3 ⟨rfl, h3⟩
                go_wp2
                go_ret
                exact ⟨rfl, H0.out.trans (((H1.out.trans hR.out).trans H2.out).trans (hR2.out.trans h3))⟩
          · have db : (8000 : Int) < (t.size : Int) := by omega
            go_wp2_with fail
            refine (tawake_any _).mono ?_
            unfold BRes
            rintro e w3 ⟨rfl, h3⟩
            go_wp2
            go_ret
            exact ⟨rfl, H0.out.trans ((H1.out.trans hR.out).trans h3)⟩
    · have hl : (allR t0).1 = [] := (allR_err t0).resolve_left hz
      obtain ⟨x, hx⟩ : ∃ x, (allR t0).2.1 = x := ⟨_, rfl⟩
      obtain ⟨c, hc⟩ : ∃ c, (allR t0).2.2 = c := ⟨_, rfl⟩
      have D1 : Hid (∀ w, Calls Try.prog 14 #[.string t0] w fun e w' => ∃ v, e = .returned (.tuple #[v, .int .i64 x, .int .i64 c]) ∧ Rel w w' ∧ w'.ownsRow w.heap.size 26 3 v 0 []) := fun w => by
        have := All_any t0 w (by omega); unfold AllRes at this; rwa [hl, hx, hc] at this
      rw [hc] at hz
      have cz : (c != 0) = true := by simpa using hz
      clear hl hx hc hz
      go_wp2_with fail
      refine (D1.out _).mono ?_
      rintro e w1 ⟨v1, rfl, h1, o1⟩
      have kz1 := h1.size
      (try simp only [World.size_alloc, World.size_setCell, World.size_drew] at kz1)
      have H1 := Lib.hid h1
      clear h1
      obtain ⟨p1, cap1, rfl, hm, k1⟩ := own_any o1
      clear o1 k1
      go_wp2_with fail
      refine (tawake_any _).mono ?_
      unfold BRes
      rintro e w3 ⟨rfl, h3⟩
      go_wp2
      go_ret
      exact ⟨rfl, H0.out.trans (H1.out.trans h3)⟩
  · cases h5 : (a2.tmod 5 != 0)
    · have q0 : ((a0.size : Int) == 0) = false := by rw [beq_eq_false_iff_ne]; omega
      go_enter Try.func5, Try.ntmps5
      rcases Classical.em ((allR a0).2.2 = 0) with hz | hz
      · obtain ⟨l, hl, hg, h8⟩ := allR_good hz
        have D1 : Hid (∀ w, Calls Try.prog 14 #[.string a0] w fun e w' => ∃ v, e = .returned (.tuple #[v, .int .i64 0, .int .i64 0]) ∧ Rel w w' ∧ w'.ownsRow w.heap.size 26 3 v l.length (encL l)) := fun w => by
          have := All_any a0 w (by omega); unfold AllRes at this; rwa [hl] at this
        have HG := Lib.hid hg
        clear hl hg hz
        go_wp2_with fail
        refine (D1.out _).mono ?_
        rintro e w1 ⟨v1, rfl, h1, o1⟩
        have kz1 := h1.size
        (try simp only [World.size_alloc, World.size_setCell, World.size_drew] at kz1)
        have H1 := Lib.hid h1
        clear h1
        obtain ⟨p1, cap1, rfl, hm, k1⟩ := own_any o1
        have K1 := Lib.hid k1
        unfold maxLen at hm
        clear o1 k1
        go_wp2
        go_loopw [10, 11, 12] (fun s10 s11 s12 wx => ∃ (k e : Nat) (t : ByteArray), s12 = .int .i64 k ∧ s10 = .int .i64 e ∧ s11 = .string t ∧ k ≤ l.length ∧ e ≤ a0.size ∧ t.size ≤ 2 * e ∧ Hid (t.data.toList = joinL (l.take k)) ∧ Hid (Good a0 e (l.drop k)) ∧ Hid (Rel w1 wx)) (fun _ _ i _ => l.length - (intOf i).toNat)
        case atStart => exact ⟨0, 0, ⟨#[]⟩, rfl, rfl, rfl, by omega, by omega, by decide, rfl, HG, Rel.refl _⟩
        case round =>
          obtain ⟨k, en, t, rfl, rfl, rfl, hk, hen, ht, hJ, hGd, hR⟩ := hrel
          by_cases hlt : k < l.length
          · obtain ⟨K, A, T, e1, e2, e3, e4⟩ := encL_at l k hlt
            obtain ⟨g1, rfl, gb1, gl1, gc1⟩ := K1.out (by omega)
            have ed : l.drop k = ⟨K, T, A⟩ :: l.drop (k + 1) := by
              have hk' : k < l.length := hlt
              rw [List.drop_eq_getElem_cons hk']
              rw [List.getElem?_eq_getElem hk'] at e4
              injection e4 with e4; rw [e4]
            have et : l.take (k + 1) = l.take k ++ [⟨K, T, A⟩] := by
              rw [List.take_add_one, e4]; rfl
            have hgd := hGd.out
            rw [ed] at hgd
            obtain ⟨b, n, hab, hb, hn1, hbn, hK, hk0, hn, hT, hA, hsk, hgl⟩ := hgd
            simp only at hT hA
            subst hA
            have hTz : T.size = n := by rw [hT, ByteArray.size_extract]; omega
            have a0' : wr.cell? ⟨g1, k * 3, none⟩ = some (.int .i64 K) := hR.out.cell (gc1 _ _ e1)
            have a1' : wr.cell? ⟨g1, k * 3 + 1, none⟩ = some (.string T) := hR.out.cell (gc1 _ _ e2)
            have a2' : wr.cell? ⟨g1, k * 3 + 2, none⟩ = some (.int .i64 b) := hR.out.cell (gc1 _ _ e3)
            have J2 : Hid ((t ++ (T ++ ⟨#[32]⟩)).data.toList = joinL (l.take (k + 1))) := by
              show _ = _
              rw [et, joinL_snoc]
              have := hJ.out
              simp [this]
            have G2 := Lib.hid hgl
            have hE : a0.extract b (b + n) = T := hT.symm
            have hlt' : (k : Int) < (l.length : Int) := by omega
            have w1' : IntKind.i64.wrap ((b : Int) + (n : Int)) = (b : Int) + (n : Int) := IntWalk.i64_in _ ⟨by omega, by omega⟩
            have w2' : IntKind.i64.wrap ((a0.size : Int) - (b : Int)) = (a0.size : Int) - (b : Int) := IntWalk.i64_in _ ⟨by omega, by omega⟩
            have i1' : ((b : Int) + (n : Int)).toNat = b + n := by omega
            have b1' : (b : Int) ≤ (b : Int) + (n : Int) := by omega
            have b2' : (b : Int) + (n : Int) ≤ (a0.size : Int) := by omega
            have d1' : decide ((b : Int) < (en : Int)) = false := by simp; omega
            have d1n : decide (b < en) = false := by simp; omega
            have d1p : ¬ b < en := by omega
            have d2' : ((n : Int) == 0) = false := by rw [beq_eq_false_iff_ne]; omega
            have d2n : (n == 0) = false := by rw [beq_eq_false_iff_ne]; omega
            have d3' : decide ((a0.size : Int) - (b : Int) < (n : Int)) = false := by simp; omega
            have tz : (t ++ (T ++ (⟨#[32]⟩ : ByteArray))).size ≤ 2 * (b + n) := by
              rw [ByteArray.size_append, ByteArray.size_append]; have e1 : (⟨#[32]⟩ : ByteArray).size = 1 := rfl; omega
            have TZ := Lib.hid tz
            clear e1 e2 e3 e4 gc1 ed et hK hk0 hn hT hsk hgl tz
            go_wp2
            refine wp_region_calm (fun _ w' => w'.cell? ⟨wr.heap.size, 0, none⟩ = some (.int .i64 K) ∧ w'.cell? ⟨wr.heap.size, 1, none⟩ = some (.string T) ∧ w'.cell? ⟨wr.heap.size, 2, none⟩ = some (.int .i64 b)) (fun _ => false) [0, 1, 2, 3, 4, 5, 6, 7, 8, 9, 10, 11, 12, 13, 14, 15, 16, 17, 18, 19, 20, 21, 22, 23, 24, 25, 26, 27, 28, 29, 30, 31, 32, 33, 34, 35] 0 (by kernel_rfl) (by kernel_rfl) ?hst ?hS0 (fun w0 h0 => ?_)
            case hst => exact fun _ _ _ h r => ⟨r.cell h.1, r.cell h.2.1, r.cell h.2.2⟩
            case hS0 => exact ⟨by go_simp, by go_simp, by go_simp⟩
            clear a0' a1' a2'
            iterate 36
              refine wpCalm_go rfl (by kernel_rfl) (fun K hK => ?_)
              apply Exists.intro
              refine ⟨fun M w hM hS => ?_, hK _ ?_⟩
              · have c0 := hS.1
                have c1 := hS.2.1
                have c2 := hS.2.2
                unfold calmAt
                go_simp
                exact ⟨rfl, Rel.refl _⟩
              clear hK K
            refine wpAnyR_end (by kernel_rfl) (fun w9 h9' => ?_)
            (try simp only [Act.put, List.setIfInBounds_toArray, List.set_cons_zero, List.set_cons_succ])
            have h9 := h0.trans h9'
            clear h0 h9'
            have q := keep3 h9 (b := wr.heap.size) (by first | (simp; done) | (simp; omega) | omega)
            have kc9_0_0 := q.1
            have kc9_0_1 := q.2.1
            have kc9_0_2 := q.2.2.1
            have kf9_0_0 := q.2.2.2.1
            have kf9_0_1 := q.2.2.2.2.1
            have kf9_0_2 := q.2.2.2.2.2.1
            have kl9_0 := q.2.2.2.2.2.2.1
            have kn9_0 := q.2.2.2.2.2.2.2.1
            have km9_0 := q.2.2.2.2.2.2.2.2
            clear q
            have kz9 := h9.size
            (try simp only [World.size_alloc, World.size_setCell, World.size_drew] at kz9)
            have H9 := Lib.hid h9
            clear h9
            go_wp2
            go_roundw
            case rel => exact ⟨k + 1, b + n, _, by go_num, by go_num, rfl, by omega, hbn, TZ.out, J2, G2, (hR.out.alloc _).trans H9.out⟩
            case measure => simp [intOf]; omega
          · obtain rfl : k = l.length := by omega
            have hj := hJ.out
            rw [List.take_length] at hj
            by_cases hbig : t.size ≤ 8000
            · obtain ⟨l', hl', hsame⟩ := relex a0 t l 0 HG.out (t.size + 1) 0 [] (by omega) (by omega) (.inl (by rw [List.drop_zero]; exact hj))
              have hr : allR t = (l', 0, 0) := by unfold allR; rw [if_pos hbig, hl']; rfl
              have D2 : Hid (∀ w, Calls Try.prog 14 #[.string t] w fun e w' => ∃ v, e = .returned (.tuple #[v, .int .i64 0, .int .i64 0]) ∧ Rel w w' ∧ w'.ownsRow w.heap.size 26 3 v l'.length (encL l')) := fun w => by
                have := All_any t w (by omega); unfold AllRes at this; rwa [hr] at this
              have HS := Lib.hid hsame
              have hll : l'.length = l.length := same_len hsame
              rw [hll] at D2
              have db : ¬ (8000 : Int) < (t.size : Int) := by omega
              have HLL := Lib.hid hll
              clear hl' hsame hr hj hll
              go_wp2_with fail
              refine (D2.out _).mono ?_
              rintro e w2 ⟨v2, rfl, h2, o2⟩
              have kz2 := h2.size
              (try simp only [World.size_alloc, World.size_setCell, World.size_drew] at kz2)
              have H2 := Lib.hid h2
              clear h2
              obtain ⟨p2, cap2, rfl, _, k2⟩ := own_any o2
              have K2 := Lib.hid k2
              clear o2 k2
              go_wp2
              go_loopw [17] (fun i wx => ∃ k : Nat, i = .int .i64 k ∧ k ≤ l.length ∧ Hid (Rel w2 wx)) (fun i _ => l.length - (intOf i).toNat)
              case atStart => exact ⟨0, rfl, by omega, Rel.refl _⟩
              case round =>
                rename_i wr0 _ _ _ _
                obtain ⟨k, rfl, hk, hR2⟩ := hrel
                by_cases hlt : k < l.length
                · obtain ⟨K, A, T, e1, e2, e3, e4⟩ := encL_at l k hlt
                  obtain ⟨K', A', T', f1, f2, f3, f4⟩ := encL_at l' k (by rw [HLL.out]; exact hlt)
                  obtain ⟨s1, s2⟩ := same_at HS.out e4 f4
                  simp only at s1 s2
                  subst s1 s2
                  obtain ⟨g1, rfl, gb1, gl1, gc1⟩ := K1.out (by omega)
                  obtain ⟨g2, rfl, gb2, gl2, gc2⟩ := K2.out (by omega)
                  have r13 : Rel w1 wr := (hR.out.trans H2.out).trans hR2.out
                  have a0' : wr.cell? ⟨g1, k * 3, none⟩ = some (.int .i64 K) := r13.cell (gc1 _ _ e1)
                  have a1' : wr.cell? ⟨g1, k * 3 + 1, none⟩ = some (.string T) := r13.cell (gc1 _ _ e2)
                  have b0' : wr.cell? ⟨g2, k * 3, none⟩ = some (.int .i64 K) := hR2.out.cell (gc2 _ _ f1)
                  have b1' : wr.cell? ⟨g2, k * 3 + 1, none⟩ = some (.string T) := hR2.out.cell (gc2 _ _ f2)
                  have hlt' : (k : Int) < (l.length : Int) := by omega
                  clear e1 e2 e3 e4 f1 f2 f3 f4 gc1 gc2 r13
                  go_wp2
                  refine wp_region_calm (fun _ w' => w'.cell? ⟨g1, k * 3, none⟩ = some (.int .i64 K) ∧ w'.cell? ⟨g1, k * 3 + 1, none⟩ = some (.string T) ∧ w'.cell? ⟨g2, k * 3, none⟩ = some (.int .i64 K) ∧ w'.cell? ⟨g2, k * 3 + 1, none⟩ = some (.string T)) (fun _ => false) [0, 1, 2, 3, 4, 5, 6, 7, 8, 9, 10, 11, 12, 13, 14, 15, 16, 17, 18, 19, 20, 21, 22, 23] 0 (by kernel_rfl) (by kernel_rfl) ?hst ?hS0 (fun w0 h0 => ?_)
                  case hst => exact fun _ _ _ h r => ⟨r.cell h.1, r.cell h.2.1, r.cell h.2.2.1, r.cell h.2.2.2⟩
                  case hS0 => exact ⟨a0', a1', b0', b1'⟩
                  clear a0' a1' b0' b1'
                  iterate 24
                    refine wpCalm_go rfl (by kernel_rfl) (fun K hK => ?_)
                    apply Exists.intro
                    refine ⟨fun M w hM hS => ?_, hK _ ?_⟩
                    · have c0 := hS.1
                      have c1 := hS.2.1
                      have c2 := hS.2.2.1
                      have c3 := hS.2.2.2
                      unfold calmAt
                      go_simp
                      exact ⟨rfl, Rel.refl _⟩
                    clear hK K
                  refine wpAnyR_end (by kernel_rfl) (fun w9 h9' => ?_)
                  (try simp only [Act.put, List.setIfInBounds_toArray, List.set_cons_zero, List.set_cons_succ])
                  have h9 := h0.trans h9'
                  clear h0 h9'
                  have kz9 := h9.size
                  (try simp only [World.size_alloc, World.size_setCell, World.size_drew] at kz9)
                  have H9 := Lib.hid h9
                  clear h9
                  go_wp2
                  go_roundw
                  case rel => exact ⟨k + 1, by go_num, by omega, hR2.out.trans H9.out⟩
                  case measure => simp [intOf]; omega
                · go_wp2_with fail
                  refine (tawake_any _).mono ?_
                  unfold BRes
                  rintro e w3 ⟨rfl, h3⟩
                  go_wp2
                  go_ret
                  exact ⟨rfl, ((H1.out.trans hR.out).trans H2.out).trans (hR2.out.trans h3)⟩
            · have db : (8000 : Int) < (t.size : Int) := by omega
              go_wp2_with fail
              refine (tawake_any _).mono ?_
              unfold BRes
              rintro e w3 ⟨rfl, h3⟩
              go_wp2
              go_ret
              exact ⟨rfl, (H1.out.trans hR.out).trans h3⟩
      · have hl : (allR a0).1 = [] := (allR_err a0).resolve_left hz
        obtain ⟨x, hx⟩ : ∃ x, (allR a0).2.1 = x := ⟨_, rfl⟩
        obtain ⟨c, hc⟩ : ∃ c, (allR a0).2.2 = c := ⟨_, rfl⟩
        have D1 : Hid (∀ w, Calls Try.prog 14 #[.string a0] w fun e w' => ∃ v, e = .returned (.tuple #[v, .int .i64 x, .int .i64 c]) ∧ Rel w w' ∧ w'.ownsRow w.heap.size 26 3 v 0 []) := fun w => by
          have := All_any a0 w (by omega); unfold AllRes at this; rwa [hl, hx, hc] at this
        rw [hc] at hz
        have cz : (c != 0) = true := by simpa using hz
        clear hl hx hc hz
        go_wp2_with fail
        refine (D1.out _).mono ?_
        rintro e w1 ⟨v1, rfl, h1, o1⟩
        have kz1 := h1.size
        (try simp only [World.size_alloc, World.size_setCell, World.size_drew] at kz1)
        have H1 := Lib.hid h1
        clear h1
        obtain ⟨p1, cap1, rfl, hm, k1⟩ := own_any o1
        clear o1 k1
        go_wp2_with fail
        refine (tawake_any _).mono ?_
        unfold BRes
        rintro e w3 ⟨rfl, h3⟩
        go_wp2
        go_ret
        exact ⟨rfl, H1.out.trans h3⟩
    · have q0 : ((a0.size : Int) == 0) = false := by rw [beq_eq_false_iff_ne]; omega
      go_enter Try.func5, Try.ntmps5
      go_wp2_with fail
      refine (text_any _ _ _ _ b1 b2 c2).mono ?_
      rintro e w0 ⟨t0, rfl, ht0, h0⟩
      have kz0 := h0.size
      (try simp only [World.size_alloc, World.size_setCell, World.size_drew] at kz0)
      have H0 := Lib.hid h0
      clear h0
      rcases Classical.em ((allR t0).2.2 = 0) with hz | hz
      · obtain ⟨l, hl, hg, h8⟩ := allR_good hz
        have D1 : Hid (∀ w, Calls Try.prog 14 #[.string t0] w fun e w' => ∃ v, e = .returned (.tuple #[v, .int .i64 0, .int .i64 0]) ∧ Rel w w' ∧ w'.ownsRow w.heap.size 26 3 v l.length (encL l)) := fun w => by
          have := All_any t0 w (by omega); unfold AllRes at this; rwa [hl] at this
        have HG := Lib.hid hg
        clear hl hg hz
        go_wp2_with fail
        refine (D1.out _).mono ?_
        rintro e w1 ⟨v1, rfl, h1, o1⟩
        have kz1 := h1.size
        (try simp only [World.size_alloc, World.size_setCell, World.size_drew] at kz1)
        have H1 := Lib.hid h1
        clear h1
        obtain ⟨p1, cap1, rfl, hm, k1⟩ := own_any o1
        have K1 := Lib.hid k1
        unfold maxLen at hm
        clear o1 k1
        go_wp2
        go_loopw [10, 11, 12] (fun s10 s11 s12 wx => ∃ (k e : Nat) (t : ByteArray), s12 = .int .i64 k ∧ s10 = .int .i64 e ∧ s11 = .string t ∧ k ≤ l.length ∧ e ≤ t0.size ∧ t.size ≤ 2 * e ∧ Hid (t.data.toList = joinL (l.take k)) ∧ Hid (Good t0 e (l.drop k)) ∧ Hid (Rel w1 wx)) (fun _ _ i _ => l.length - (intOf i).toNat)
        case atStart => exact ⟨0, 0, ⟨#[]⟩, rfl, rfl, rfl, by omega, by omega, by decide, rfl, HG, Rel.refl _⟩
        case round =>
          obtain ⟨k, en, t, rfl, rfl, rfl, hk, hen, ht, hJ, hGd, hR⟩ := hrel
          by_cases hlt : k < l.length
          · obtain ⟨K, A, T, e1, e2, e3, e4⟩ := encL_at l k hlt
            obtain ⟨g1, rfl, gb1, gl1, gc1⟩ := K1.out (by omega)
            have ed : l.drop k = ⟨K, T, A⟩ :: l.drop (k + 1) := by
              have hk' : k < l.length := hlt
              rw [List.drop_eq_getElem_cons hk']
              rw [List.getElem?_eq_getElem hk'] at e4
              injection e4 with e4; rw [e4]
            have et : l.take (k + 1) = l.take k ++ [⟨K, T, A⟩] := by
              rw [List.take_add_one, e4]; rfl
            have hgd := hGd.out
            rw [ed] at hgd
            obtain ⟨b, n, hab, hb, hn1, hbn, hK, hk0, hn, hT, hA, hsk, hgl⟩ := hgd
            simp only at hT hA
            subst hA
            have hTz : T.size = n := by rw [hT, ByteArray.size_extract]; omega
            have a0' : wr.cell? ⟨g1, k * 3, none⟩ = some (.int .i64 K) := hR.out.cell (gc1 _ _ e1)
            have a1' : wr.cell? ⟨g1, k * 3 + 1, none⟩ = some (.string T) := hR.out.cell (gc1 _ _ e2)
            have a2' : wr.cell? ⟨g1, k * 3 + 2, none⟩ = some (.int .i64 b) := hR.out.cell (gc1 _ _ e3)
            have J2 : Hid ((t ++ (T ++ ⟨#[32]⟩)).data.toList = joinL (l.take (k + 1))) := by
              show _ = _
              rw [et, joinL_snoc]
              have := hJ.out
              simp [this]
            have G2 := Lib.hid hgl
            have hE : t0.extract b (b + n) = T := hT.symm
            have hlt' : (k : Int) < (l.length : Int) := by omega
            have w1' : IntKind.i64.wrap ((b : Int) + (n : Int)) = (b : Int) + (n : Int) := IntWalk.i64_in _ ⟨by omega, by omega⟩
            have w2' : IntKind.i64.wrap ((t0.size : Int) - (b : Int)) = (t0.size : Int) - (b : Int) := IntWalk.i64_in _ ⟨by omega, by omega⟩
            have i1' : ((b : Int) + (n : Int)).toNat = b + n := by omega
            have b1' : (b : Int) ≤ (b : Int) + (n : Int) := by omega
            have b2' : (b : Int) + (n : Int) ≤ (t0.size : Int) := by omega
            have d1' : decide ((b : Int) < (en : Int)) = false := by simp; omega
            have d1n : decide (b < en) = false := by simp; omega
            have d1p : ¬ b < en := by omega
            have d2' : ((n : Int) == 0) = false := by rw [beq_eq_false_iff_ne]; omega
            have d2n : (n == 0) = false := by rw [beq_eq_false_iff_ne]; omega
            have d3' : decide ((t0.size : Int) - (b : Int) < (n : Int)) = false := by simp; omega
            have tz : (t ++ (T ++ (⟨#[32]⟩ : ByteArray))).size ≤ 2 * (b + n) := by
              rw [ByteArray.size_append, ByteArray.size_append]; have e1 : (⟨#[32]⟩ : ByteArray).size = 1 := rfl; omega
            have TZ := Lib.hid tz
            clear e1 e2 e3 e4 gc1 ed et hK hk0 hn hT hsk hgl tz
            go_wp2
            refine wp_region_calm (fun _ w' => w'.cell? ⟨wr.heap.size, 0, none⟩ = some (.int .i64 K) ∧ w'.cell? ⟨wr.heap.size, 1, none⟩ = some (.string T) ∧ w'.cell? ⟨wr.heap.size, 2, none⟩ = some (.int .i64 b)) (fun _ => false) [0, 1, 2, 3, 4, 5, 6, 7, 8, 9, 10, 11, 12, 13, 14, 15, 16, 17, 18, 19, 20, 21, 22, 23, 24, 25, 26, 27, 28, 29, 30, 31, 32, 33, 34, 35] 0 (by kernel_rfl) (by kernel_rfl) ?hst ?hS0 (fun w0 h0 => ?_)
            case hst => exact fun _ _ _ h r => ⟨r.cell h.1, r.cell h.2.1, r.cell h.2.2⟩
            case hS0 => exact ⟨by go_simp, by go_simp, by go_simp⟩
            clear a0' a1' a2'
            iterate 36
              refine wpCalm_go rfl (by kernel_rfl) (fun K hK => ?_)
              apply Exists.intro
              refine ⟨fun M w hM hS => ?_, hK _ ?_⟩
              · have c0 := hS.1
                have c1 := hS.2.1
                have c2 := hS.2.2
                unfold calmAt
                go_simp
                exact ⟨rfl, Rel.refl _⟩
              clear hK K
            refine wpAnyR_end (by kernel_rfl) (fun w9 h9' => ?_)
            (try simp only [Act.put, List.setIfInBounds_toArray, List.set_cons_zero, List.set_cons_succ])
            have h9 := h0.trans h9'
            clear h0 h9'
            have q := keep3 h9 (b := wr.heap.size) (by first | (simp; done) | (simp; omega) | omega)
            have kc9_0_0 := q.1
            have kc9_0_1 := q.2.1
            have kc9_0_2 := q.2.2.1
            have kf9_0_0 := q.2.2.2.1
            have kf9_0_1 := q.2.2.2.2.1
            have kf9_0_2 := q.2.2.2.2.2.1
            have kl9_0 := q.2.2.2.2.2.2.1
            have kn9_0 := q.2.2.2.2.2.2.2.1
            have km9_0 := q.2.2.2.2.2.2.2.2
            clear q
            have kz9 := h9.size
            (try simp only [World.size_alloc, World.size_setCell, World.size_drew] at kz9)
            have H9 := Lib.hid h9
            clear h9
            go_wp2
            go_roundw
            case rel => exact ⟨k + 1, b + n, _, by go_num, by go_num, rfl, by omega, hbn, TZ.out, J2, G2, (hR.out.alloc _).trans H9.out⟩
            case measure => simp [intOf]; omega
          · obtain rfl : k = l.length := by omega
            have hj := hJ.out
            rw [List.take_length] at hj
            by_cases hbig : t.size ≤ 8000
            · obtain ⟨l', hl', hsame⟩ := relex t0 t l 0 HG.out (t.size + 1) 0 [] (by omega) (by omega) (.inl (by rw [List.drop_zero]; exact hj))
              have hr : allR t = (l', 0, 0) := by unfold allR; rw [if_pos hbig, hl']; rfl
              have D2 : Hid (∀ w, Calls Try.prog 14 #[.string t] w fun e w' => ∃ v, e = .returned (.tuple #[v, .int .i64 0, .int .i64 0]) ∧ Rel w w' ∧ w'.ownsRow w.heap.size 26 3 v l'.length (encL l')) := fun w => by
                have := All_any t w (by omega); unfold AllRes at this; rwa [hr] at this
              have HS := Lib.hid hsame
              have hll : l'.length = l.length := same_len hsame
              rw [hll] at D2
              have db : ¬ (8000 : Int) < (t.size : Int) := by omega
              have HLL := Lib.hid hll
              clear hl' hsame hr hj hll
              go_wp2_with fail
              refine (D2.out _).mono ?_
              rintro e w2 ⟨v2, rfl, h2, o2⟩
              have kz2 := h2.size
              (try simp only [World.size_alloc, World.size_setCell, World.size_drew] at kz2)
              have H2 := Lib.hid h2
              clear h2
              obtain ⟨p2, cap2, rfl, _, k2⟩ := own_any o2
              have K2 := Lib.hid k2
              clear o2 k2
              go_wp2
              go_loopw [17] (fun i wx => ∃ k : Nat, i = .int .i64 k ∧ k ≤ l.length ∧ Hid (Rel w2 wx)) (fun i _ => l.length - (intOf i).toNat)
              case atStart => exact ⟨0, rfl, by omega, Rel.refl _⟩
              case round =>
                rename_i wr0 _ _ _ _
                obtain ⟨k, rfl, hk, hR2⟩ := hrel
                by_cases hlt : k < l.length
                · obtain ⟨K, A, T, e1, e2, e3, e4⟩ := encL_at l k hlt
                  obtain ⟨K', A', T', f1, f2, f3, f4⟩ := encL_at l' k (by rw [HLL.out]; exact hlt)
                  obtain ⟨s1, s2⟩ := same_at HS.out e4 f4
                  simp only at s1 s2
                  subst s1 s2
                  obtain ⟨g1, rfl, gb1, gl1, gc1⟩ := K1.out (by omega)
                  obtain ⟨g2, rfl, gb2, gl2, gc2⟩ := K2.out (by omega)
                  have r13 : Rel w1 wr := (hR.out.trans H2.out).trans hR2.out
                  have a0' : wr.cell? ⟨g1, k * 3, none⟩ = some (.int .i64 K) := r13.cell (gc1 _ _ e1)
                  have a1' : wr.cell? ⟨g1, k * 3 + 1, none⟩ = some (.string T) := r13.cell (gc1 _ _ e2)
                  have b0' : wr.cell? ⟨g2, k * 3, none⟩ = some (.int .i64 K) := hR2.out.cell (gc2 _ _ f1)
                  have b1' : wr.cell? ⟨g2, k * 3 + 1, none⟩ = some (.string T) := hR2.out.cell (gc2 _ _ f2)
                  have hlt' : (k : Int) < (l.length : Int) := by omega
                  clear e1 e2 e3 e4 f1 f2 f3 f4 gc1 gc2 r13
                  go_wp2
                  refine wp_region_calm (fun _ w' => w'.cell? ⟨g1, k * 3, none⟩ = some (.int .i64 K) ∧ w'.cell? ⟨g1, k * 3 + 1, none⟩ = some (.string T) ∧ w'.cell? ⟨g2, k * 3, none⟩ = some (.int .i64 K) ∧ w'.cell? ⟨g2, k * 3 + 1, none⟩ = some (.string T)) (fun _ => false) [0, 1, 2, 3, 4, 5, 6, 7, 8, 9, 10, 11, 12, 13, 14, 15, 16, 17, 18, 19, 20, 21, 22, 23] 0 (by kernel_rfl) (by kernel_rfl) ?hst ?hS0 (fun w0 h0 => ?_)
                  case hst => exact fun _ _ _ h r => ⟨r.cell h.1, r.cell h.2.1, r.cell h.2.2.1, r.cell h.2.2.2⟩
                  case hS0 => exact ⟨a0', a1', b0', b1'⟩
                  clear a0' a1' b0' b1'
                  iterate 24
                    refine wpCalm_go rfl (by kernel_rfl) (fun K hK => ?_)
                    apply Exists.intro
                    refine ⟨fun M w hM hS => ?_, hK _ ?_⟩
                    · have c0 := hS.1
                      have c1 := hS.2.1
                      have c2 := hS.2.2.1
                      have c3 := hS.2.2.2
                      unfold calmAt
                      go_simp
                      exact ⟨rfl, Rel.refl _⟩
                    clear hK K
                  refine wpAnyR_end (by kernel_rfl) (fun w9 h9' => ?_)
                  (try simp only [Act.put, List.setIfInBounds_toArray, List.set_cons_zero, List.set_cons_succ])
                  have h9 := h0.trans h9'
                  clear h0 h9'
                  have kz9 := h9.size
                  (try simp only [World.size_alloc, World.size_setCell, World.size_drew] at kz9)
                  have H9 := Lib.hid h9
                  clear h9
                  go_wp2
                  go_roundw
                  case rel => exact ⟨k + 1, by go_num, by omega, hR2.out.trans H9.out⟩
                  case measure => simp [intOf]; omega
                · go_wp2_with fail
                  refine (tawake_any _).mono ?_
                  unfold BRes
                  rintro e w3 ⟨rfl, h3⟩
                  go_wp2
                  go_ret
                  exact ⟨rfl, H0.out.trans (((H1.out.trans hR.out).trans H2.out).trans (hR2.out.trans h3))⟩
            · have db : (8000 : Int) < (t.size : Int) := by omega
              go_wp2_with fail
              refine (tawake_any _).mono ?_
              unfold BRes
              rintro e w3 ⟨rfl, h3⟩
              go_wp2
              go_ret
              exact ⟨rfl, H0.out.trans ((H1.out.trans hR.out).trans h3)⟩
      · have hl : (allR t0).1 = [] := (allR_err t0).resolve_left hz
        obtain ⟨x, hx⟩ : ∃ x, (allR t0).2.1 = x := ⟨_, rfl⟩
        obtain ⟨c, hc⟩ : ∃ c, (allR t0).2.2 = c := ⟨_, rfl⟩
        have D1 : Hid (∀ w, Calls Try.prog 14 #[.string t0] w fun e w' => ∃ v, e = .returned (.tuple #[v, .int .i64 x, .int .i64 c]) ∧ Rel w w' ∧ w'.ownsRow w.heap.size 26 3 v 0 []) := fun w => by
          have := All_any t0 w (by omega); unfold AllRes at this; rwa [hl, hx, hc] at this
        rw [hc] at hz
        have cz : (c != 0) = true := by simpa using hz
        clear hl hx hc hz
        go_wp2_with fail
        refine (D1.out _).mono ?_
        rintro e w1 ⟨v1, rfl, h1, o1⟩
        have kz1 := h1.size
        (try simp only [World.size_alloc, World.size_setCell, World.size_drew] at kz1)
        have H1 := Lib.hid h1
        clear h1
        obtain ⟨p1, cap1, rfl, hm, k1⟩ := own_any o1
        clear o1 k1
        go_wp2_with fail
        refine (tawake_any _).mono ?_
        unfold BRes
        rintro e w3 ⟨rfl, h3⟩
        go_wp2
        go_ret
        exact ⟨rfl, H0.out.trans (H1.out.trans h3)⟩

end Go.Proofs.Ytfdajdlbkdfhoaa

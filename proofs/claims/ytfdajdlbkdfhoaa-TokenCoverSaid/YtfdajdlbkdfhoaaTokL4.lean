/- Walk of the law TokenAll. No conditions but those printed. -/
import Derived.Test.YtfdajdlbkdfhoaaTokK
namespace Go.Proofs.Ytfdajdlbkdfhoaa
open Go.RowKit Cal Str Tok Frac
attribute [local go_sem] calmUpon
set_option linter.unusedVariables false
set_option linter.unusedSimpArgs false

theorem encL_at (l : List Tk) (k : Nat) (h : k < l.length) : ∃ (K A : Int) (T : ByteArray), (encL l)[k * 3]? = some (.int .i64 K) ∧ (encL l)[k * 3 + 1]? = some (.string T) ∧ (encL l)[k * 3 + 2]? = some (.int .i64 A) ∧ l[k]? = some ⟨K, T, A⟩ := by
  induction l generalizing k with
  | nil => simp at h
  | cons t l ih =>
    cases k with
    | zero => exact ⟨t.K, t.A, t.T, rfl, rfl, rfl, rfl⟩
    | succ k =>
      obtain ⟨K, A, T, h1, h2, h3, h4⟩ := ih k (by simpa using h)
      have e : ∀ j, (encL (t :: l))[j + 3]? = (encL l)[j]? := fun j => by
        unfold encL; rw [List.flatMap_cons]
        rw [List.getElem?_append_right (by simp [encT])]
        simp [encT]
      refine ⟨K, A, T, ?_, ?_, ?_, by simpa using h4⟩
      · rw [show (k + 1) * 3 = k * 3 + 3 by omega, e]; exact h1
      · rw [show (k + 1) * 3 + 1 = k * 3 + 1 + 3 by omega, e]; exact h2
      · rw [show (k + 1) * 3 + 2 = k * 3 + 2 + 3 by omega, e]; exact h3

/-- A row that is owned: its slice, and its cells where it is not empty. -/
theorem own_any {w : World} {base : Nat} {e : TypeId} {size : Nat} {v : Value} {n : Nat} {xs : List Value} (h : w.ownsRow base e size v n xs) :
    ∃ (p : Option Addr) (cap : Nat), v = .slice p n cap ∧ n ≤ maxLen ∧ (0 < n → ∃ g, p = some ⟨g, 0, none⟩ ∧ base ≤ g ∧ g < w.heap.size ∧ ∀ (j : Nat) u, xs[j]? = some u → w.cell? ⟨g, j, none⟩ = some u) := by
  by_cases hn : 0 < n
  · obtain ⟨g, cap, rfl, hb, hg, h1, h2, hc⟩ := own_some h hn
    exact ⟨_, cap, rfl, by omega, fun _ => ⟨g, rfl, hb, hg, hc⟩⟩
  · rcases h.2 with ⟨rfl, h0⟩ | ⟨g, cap, cur, rfl, hb, hg, h1, h2, _, _⟩
    · exact ⟨none, 0, by rw [h0], by unfold maxLen; omega, fun h => absurd h hn⟩
    · exact ⟨_, cap, rfl, by omega, fun h => absurd h hn⟩

set_option maxHeartbeats 8000000 in
theorem walk_TokenAll (w : World) (a0 : ByteArray) (a1 : Value) (n1 : Nat) (a2 : Int) (b0 : a0.size ≤ 140737488355328) (b1 : IntsIn w a1 n1) (b2 : -9223372036854775808 ≤ a2) (c2 : a2 ≤ 9223372036854775807) :
    Calls Try.prog 4 #[.string a0, a1, .int .i64 a2] w (BRes true w) := by
  have HS := Lib.hid fun (s : ByteArray) (hs : s.size ≤ 140737488355328) (w : World) => And.intro (All_any s w hs) (rAll_any s w hs)
  unfold BRes
  by_cases hz : a0.size = 0
  · have q0 : ((a0.size : Int) == 0) = true := by rw [beq_iff_eq]; omega
    go_enter Try.func4, Try.ntmps4
    go_wp2_with fail
    refine (text_any _ _ _ _ b1 b2 c2).mono ?_
    rintro e w0 ⟨t, rfl, ht, h0⟩
    have kz0 := h0.size
    (try simp only [World.size_alloc, World.size_setCell, World.size_drew] at kz0)
    have H0 := Lib.hid h0
    clear h0
    obtain ⟨l, hl⟩ : ∃ l, (allR t).1 = l := ⟨_, rfl⟩
    obtain ⟨x, hx⟩ : ∃ x, (allR t).2.1 = x := ⟨_, rfl⟩
    obtain ⟨c, hc⟩ : ∃ c, (allR t).2.2 = c := ⟨_, rfl⟩
    have D1 : Hid (∀ w, Calls Try.prog 14 #[.string t] w fun e w' => ∃ v, e = .returned (.tuple #[v, .int .i64 x, .int .i64 c]) ∧ Rel w w' ∧ w'.ownsRow w.heap.size 26 3 v l.length (encL l)) := fun w => by
      have := (HS.out t (by omega) w).1; unfold AllRes at this; rwa [hl, hx, hc] at this
    have D2 : Hid (∀ w, Calls Try.prog 15 #[.string t] w fun e w' => ∃ v, e = .returned (.tuple #[v, .int .i64 x, .int .i64 c]) ∧ Rel w w' ∧ w'.ownsRow w.heap.size 26 3 v l.length (encL l)) := fun w => by
      have := (HS.out t (by omega) w).2; unfold AllRes at this; rwa [hl, hx, hc] at this
    clear hl hx hc
    go_wp2_with fail
    refine (D1.out _).mono ?_
    rintro e w1 ⟨v1, rfl, h1, o1⟩
    have kz1 := h1.size
    (try simp only [World.size_alloc, World.size_setCell, World.size_drew] at kz1)
    have H1 := Lib.hid h1
    clear h1
    obtain ⟨p1, cap1, rfl, hm, k1⟩ := own_any o1
    have K1 := Lib.hid k1
    clear o1 k1
    go_wp2_with fail
    refine (D2.out _).mono ?_
    rintro e w2 ⟨v2, rfl, h2, o2⟩
    have kz2 := h2.size
    (try simp only [World.size_alloc, World.size_setCell, World.size_drew] at kz2)
    have H2 := Lib.hid h2
    clear h2
    obtain ⟨p2, cap2, rfl, _, k2⟩ := own_any o2
    have K2 := Lib.hid k2
    unfold maxLen at hm
    clear o2 k2
    go_wp2_with fail
    refine (tawake_any _).mono ?_
    unfold BRes
    rintro e w3 ⟨rfl, h3⟩
    have kz3 := h3.size
    (try simp only [World.size_alloc, World.size_setCell, World.size_drew] at kz3)
    have H3 := Lib.hid h3
    clear h3
    go_wp2
    go_loopw [13] (fun i wx => ∃ k : Nat, i = .int .i64 k ∧ k ≤ l.length ∧ Hid (Rel w3 wx)) (fun i _ => l.length - (intOf i).toNat)
    case atStart => exact ⟨0, rfl, by omega, Rel.refl _⟩
    case round =>
      obtain ⟨k, rfl, hk, hR⟩ := hrel
      by_cases hlt : k < l.length
      · obtain ⟨K, A, T, e1, e2, e3, _⟩ := encL_at l k hlt
        obtain ⟨g1, rfl, gb1, gl1, gc1⟩ := K1.out (by omega)
        obtain ⟨g2, rfl, gb2, gl2, gc2⟩ := K2.out (by omega)
        have r13 : Rel w1 wr := (H2.out.trans H3.out).trans hR.out
        have r23 : Rel w2 wr := H3.out.trans hR.out
        have a0' : wr.cell? ⟨g1, k * 3, none⟩ = some (.int .i64 K) := r13.cell (gc1 _ _ e1)
        have a1' : wr.cell? ⟨g1, k * 3 + 1, none⟩ = some (.string T) := r13.cell (gc1 _ _ e2)
        have a2' : wr.cell? ⟨g1, k * 3 + 2, none⟩ = some (.int .i64 A) := r13.cell (gc1 _ _ e3)
        have b0' : wr.cell? ⟨g2, k * 3, none⟩ = some (.int .i64 K) := r23.cell (gc2 _ _ e1)
        have b1' : wr.cell? ⟨g2, k * 3 + 1, none⟩ = some (.string T) := r23.cell (gc2 _ _ e2)
        have b2' : wr.cell? ⟨g2, k * 3 + 2, none⟩ = some (.int .i64 A) := r23.cell (gc2 _ _ e3)
        have hlt' : (k : Int) < (l.length : Int) := by omega
        clear e1 e2 e3 gc1 gc2 r13 r23
        go_wp2
        refine wp_region_calm (fun _ w' => w'.cell? ⟨g1, k * 3, none⟩ = some (.int .i64 K) ∧ w'.cell? ⟨g1, k * 3 + 1, none⟩ = some (.string T) ∧ w'.cell? ⟨g1, k * 3 + 2, none⟩ = some (.int .i64 A) ∧ w'.cell? ⟨g2, k * 3, none⟩ = some (.int .i64 K) ∧ w'.cell? ⟨g2, k * 3 + 1, none⟩ = some (.string T) ∧ w'.cell? ⟨g2, k * 3 + 2, none⟩ = some (.int .i64 A)) (fun _ => false) [0, 1, 2, 3, 4, 5, 6, 7, 8] 0 (by kernel_rfl) (by kernel_rfl) ?hst ?hS0 (fun w0 h0 => ?_)
        case hst => exact fun _ _ _ h r => ⟨r.cell h.1, r.cell h.2.1, r.cell h.2.2.1, r.cell h.2.2.2.1, r.cell h.2.2.2.2.1, r.cell h.2.2.2.2.2⟩
        case hS0 => exact ⟨a0', a1', a2', b0', b1', b2'⟩
        clear a0' a1' a2' b0' b1' b2'
        iterate 9
          refine wpCalm_go rfl (by kernel_rfl) (fun K hK => ?_)
          apply Exists.intro
          refine ⟨fun M w hM hS => ?_, hK _ ?_⟩
          · have c0 := hS.1
            have c1 := hS.2.1
            have c2 := hS.2.2.1
            have c3 := hS.2.2.2.1
            have c4 := hS.2.2.2.2.1
            have c5 := hS.2.2.2.2.2
            unfold calmAt
            go_simp
            exact ⟨rfl, Rel.refl _⟩
          clear hK K
        refine wpAnyR_end (by kernel_rfl) (fun w9 h9' => ?_)
        (try simp only [Act.put, List.setIfInBounds_toArray, List.set_cons_zero, List.set_cons_succ])
        have h9 := h0.trans h9'
        clear h0 h9'
        have kz9 := h9.size
        (try simp only [World.size_alloc, World.size_setCell, World.size_drew] at kz9)
        have H9 := Lib.hid h9
        clear h9
        go_wp2
        go_roundw
        case rel => exact ⟨k + 1, by go_num, by omega, hR.out.trans H9.out⟩
        case measure => simp [intOf]; omega
      · go_wp2
        go_ret
        exact ⟨rfl, by
          have h := hR.out
          have H8 := Lib.hid h
          (show Rel _ _; repeat (first | with_reducible exact Rel.refl _ | with_reducible refine Rel.alloc ?_ _ | with_reducible refine Rel.setCell ?_ (by first | (simp; done) | (simp; omega)) _ | with_reducible refine Rel.drew ?_ | with_reducible refine Rel.trans ?_ H8.out | with_reducible refine Rel.trans ?_ H7.out | with_reducible refine Rel.trans ?_ H6.out | with_reducible refine Rel.trans ?_ H5.out | with_reducible refine Rel.trans ?_ H4.out | with_reducible refine Rel.trans ?_ H3.out | with_reducible refine Rel.trans ?_ H2.out | with_reducible refine Rel.trans ?_ H1.out | with_reducible refine Rel.trans ?_ H0.out))⟩
  · cases h5 : (a2.tmod 5 != 0)
    · have q0 : ((a0.size : Int) == 0) = false := by rw [beq_eq_false_iff_ne]; omega
      go_enter Try.func4, Try.ntmps4
      obtain ⟨l, hl⟩ : ∃ l, (allR a0).1 = l := ⟨_, rfl⟩
      obtain ⟨x, hx⟩ : ∃ x, (allR a0).2.1 = x := ⟨_, rfl⟩
      obtain ⟨c, hc⟩ : ∃ c, (allR a0).2.2 = c := ⟨_, rfl⟩
      have D1 : Hid (∀ w, Calls Try.prog 14 #[.string a0] w fun e w' => ∃ v, e = .returned (.tuple #[v, .int .i64 x, .int .i64 c]) ∧ Rel w w' ∧ w'.ownsRow w.heap.size 26 3 v l.length (encL l)) := fun w => by
        have := (HS.out a0 (by omega) w).1; unfold AllRes at this; rwa [hl, hx, hc] at this
      have D2 : Hid (∀ w, Calls Try.prog 15 #[.string a0] w fun e w' => ∃ v, e = .returned (.tuple #[v, .int .i64 x, .int .i64 c]) ∧ Rel w w' ∧ w'.ownsRow w.heap.size 26 3 v l.length (encL l)) := fun w => by
        have := (HS.out a0 (by omega) w).2; unfold AllRes at this; rwa [hl, hx, hc] at this
      clear hl hx hc
      go_wp2_with fail
      refine (D1.out _).mono ?_
      rintro e w1 ⟨v1, rfl, h1, o1⟩
      have kz1 := h1.size
      (try simp only [World.size_alloc, World.size_setCell, World.size_drew] at kz1)
      have H1 := Lib.hid h1
      clear h1
      obtain ⟨p1, cap1, rfl, hm, k1⟩ := own_any o1
      have K1 := Lib.hid k1
      clear o1 k1
      go_wp2_with fail
      refine (D2.out _).mono ?_
      rintro e w2 ⟨v2, rfl, h2, o2⟩
      have kz2 := h2.size
      (try simp only [World.size_alloc, World.size_setCell, World.size_drew] at kz2)
      have H2 := Lib.hid h2
      clear h2
      obtain ⟨p2, cap2, rfl, _, k2⟩ := own_any o2
      have K2 := Lib.hid k2
      unfold maxLen at hm
      clear o2 k2
      go_wp2_with fail
      refine (tawake_any _).mono ?_
      unfold BRes
      rintro e w3 ⟨rfl, h3⟩
      have kz3 := h3.size
      (try simp only [World.size_alloc, World.size_setCell, World.size_drew] at kz3)
      have H3 := Lib.hid h3
      clear h3
      go_wp2
      go_loopw [13] (fun i wx => ∃ k : Nat, i = .int .i64 k ∧ k ≤ l.length ∧ Hid (Rel w3 wx)) (fun i _ => l.length - (intOf i).toNat)
      case atStart => exact ⟨0, rfl, by omega, Rel.refl _⟩
      case round =>
        obtain ⟨k, rfl, hk, hR⟩ := hrel
        by_cases hlt : k < l.length
        · obtain ⟨K, A, T, e1, e2, e3, _⟩ := encL_at l k hlt
          obtain ⟨g1, rfl, gb1, gl1, gc1⟩ := K1.out (by omega)
          obtain ⟨g2, rfl, gb2, gl2, gc2⟩ := K2.out (by omega)
          have r13 : Rel w1 wr := (H2.out.trans H3.out).trans hR.out
          have r23 : Rel w2 wr := H3.out.trans hR.out
          have a0' : wr.cell? ⟨g1, k * 3, none⟩ = some (.int .i64 K) := r13.cell (gc1 _ _ e1)
          have a1' : wr.cell? ⟨g1, k * 3 + 1, none⟩ = some (.string T) := r13.cell (gc1 _ _ e2)
          have a2' : wr.cell? ⟨g1, k * 3 + 2, none⟩ = some (.int .i64 A) := r13.cell (gc1 _ _ e3)
          have b0' : wr.cell? ⟨g2, k * 3, none⟩ = some (.int .i64 K) := r23.cell (gc2 _ _ e1)
          have b1' : wr.cell? ⟨g2, k * 3 + 1, none⟩ = some (.string T) := r23.cell (gc2 _ _ e2)
          have b2' : wr.cell? ⟨g2, k * 3 + 2, none⟩ = some (.int .i64 A) := r23.cell (gc2 _ _ e3)
          have hlt' : (k : Int) < (l.length : Int) := by omega
          clear e1 e2 e3 gc1 gc2 r13 r23
          go_wp2
          refine wp_region_calm (fun _ w' => w'.cell? ⟨g1, k * 3, none⟩ = some (.int .i64 K) ∧ w'.cell? ⟨g1, k * 3 + 1, none⟩ = some (.string T) ∧ w'.cell? ⟨g1, k * 3 + 2, none⟩ = some (.int .i64 A) ∧ w'.cell? ⟨g2, k * 3, none⟩ = some (.int .i64 K) ∧ w'.cell? ⟨g2, k * 3 + 1, none⟩ = some (.string T) ∧ w'.cell? ⟨g2, k * 3 + 2, none⟩ = some (.int .i64 A)) (fun _ => false) [0, 1, 2, 3, 4, 5, 6, 7, 8] 0 (by kernel_rfl) (by kernel_rfl) ?hst ?hS0 (fun w0 h0 => ?_)
          case hst => exact fun _ _ _ h r => ⟨r.cell h.1, r.cell h.2.1, r.cell h.2.2.1, r.cell h.2.2.2.1, r.cell h.2.2.2.2.1, r.cell h.2.2.2.2.2⟩
          case hS0 => exact ⟨a0', a1', a2', b0', b1', b2'⟩
          clear a0' a1' a2' b0' b1' b2'
          iterate 9
            refine wpCalm_go rfl (by kernel_rfl) (fun K hK => ?_)
            apply Exists.intro
            refine ⟨fun M w hM hS => ?_, hK _ ?_⟩
            · have c0 := hS.1
              have c1 := hS.2.1
              have c2 := hS.2.2.1
              have c3 := hS.2.2.2.1
              have c4 := hS.2.2.2.2.1
              have c5 := hS.2.2.2.2.2
              unfold calmAt
              go_simp
              exact ⟨rfl, Rel.refl _⟩
            clear hK K
          refine wpAnyR_end (by kernel_rfl) (fun w9 h9' => ?_)
          (try simp only [Act.put, List.setIfInBounds_toArray, List.set_cons_zero, List.set_cons_succ])
          have h9 := h0.trans h9'
          clear h0 h9'
          have kz9 := h9.size
          (try simp only [World.size_alloc, World.size_setCell, World.size_drew] at kz9)
          have H9 := Lib.hid h9
          clear h9
          go_wp2
          go_roundw
          case rel => exact ⟨k + 1, by go_num, by omega, hR.out.trans H9.out⟩
          case measure => simp [intOf]; omega
        · go_wp2
          go_ret
          exact ⟨rfl, by
            have h := hR.out
            have H8 := Lib.hid h
            (show Rel _ _; repeat (first | with_reducible exact Rel.refl _ | with_reducible refine Rel.alloc ?_ _ | with_reducible refine Rel.setCell ?_ (by first | (simp; done) | (simp; omega)) _ | with_reducible refine Rel.drew ?_ | with_reducible refine Rel.trans ?_ H8.out | with_reducible refine Rel.trans ?_ H7.out | with_reducible refine Rel.trans ?_ H6.out | with_reducible refine Rel.trans ?_ H5.out | with_reducible refine Rel.trans ?_ H4.out | with_reducible refine Rel.trans ?_ H3.out | with_reducible refine Rel.trans ?_ H2.out | with_reducible refine Rel.trans ?_ H1.out | with_reducible refine Rel.trans ?_ H0.out))⟩
    · have q0 : ((a0.size : Int) == 0) = false := by rw [beq_eq_false_iff_ne]; omega
      go_enter Try.func4, Try.ntmps4
      go_wp2_with fail
      refine (text_any _ _ _ _ b1 b2 c2).mono ?_
      rintro e w0 ⟨t, rfl, ht, h0⟩
      have kz0 := h0.size
      (try simp only [World.size_alloc, World.size_setCell, World.size_drew] at kz0)
      have H0 := Lib.hid h0
      clear h0
      obtain ⟨l, hl⟩ : ∃ l, (allR t).1 = l := ⟨_, rfl⟩
      obtain ⟨x, hx⟩ : ∃ x, (allR t).2.1 = x := ⟨_, rfl⟩
      obtain ⟨c, hc⟩ : ∃ c, (allR t).2.2 = c := ⟨_, rfl⟩
      have D1 : Hid (∀ w, Calls Try.prog 14 #[.string t] w fun e w' => ∃ v, e = .returned (.tuple #[v, .int .i64 x, .int .i64 c]) ∧ Rel w w' ∧ w'.ownsRow w.heap.size 26 3 v l.length (encL l)) := fun w => by
        have := (HS.out t (by omega) w).1; unfold AllRes at this; rwa [hl, hx, hc] at this
      have D2 : Hid (∀ w, Calls Try.prog 15 #[.string t] w fun e w' => ∃ v, e = .returned (.tuple #[v, .int .i64 x, .int .i64 c]) ∧ Rel w w' ∧ w'.ownsRow w.heap.size 26 3 v l.length (encL l)) := fun w => by
        have := (HS.out t (by omega) w).2; unfold AllRes at this; rwa [hl, hx, hc] at this
      clear hl hx hc
      go_wp2_with fail
      refine (D1.out _).mono ?_
      rintro e w1 ⟨v1, rfl, h1, o1⟩
      have kz1 := h1.size
      (try simp only [World.size_alloc, World.size_setCell, World.size_drew] at kz1)
      have H1 := Lib.hid h1
      clear h1
      obtain ⟨p1, cap1, rfl, hm, k1⟩ := own_any o1
      have K1 := Lib.hid k1
      clear o1 k1
      go_wp2_with fail
      refine (D2.out _).mono ?_
      rintro e w2 ⟨v2, rfl, h2, o2⟩
      have kz2 := h2.size
      (try simp only [World.size_alloc, World.size_setCell, World.size_drew] at kz2)
      have H2 := Lib.hid h2
      clear h2
      obtain ⟨p2, cap2, rfl, _, k2⟩ := own_any o2
      have K2 := Lib.hid k2
      unfold maxLen at hm
      clear o2 k2
      go_wp2_with fail
      refine (tawake_any _).mono ?_
      unfold BRes
      rintro e w3 ⟨rfl, h3⟩
      have kz3 := h3.size
      (try simp only [World.size_alloc, World.size_setCell, World.size_drew] at kz3)
      have H3 := Lib.hid h3
      clear h3
      go_wp2
      go_loopw [13] (fun i wx => ∃ k : Nat, i = .int .i64 k ∧ k ≤ l.length ∧ Hid (Rel w3 wx)) (fun i _ => l.length - (intOf i).toNat)
      case atStart => exact ⟨0, rfl, by omega, Rel.refl _⟩
      case round =>
        obtain ⟨k, rfl, hk, hR⟩ := hrel
        by_cases hlt : k < l.length
        · obtain ⟨K, A, T, e1, e2, e3, _⟩ := encL_at l k hlt
          obtain ⟨g1, rfl, gb1, gl1, gc1⟩ := K1.out (by omega)
          obtain ⟨g2, rfl, gb2, gl2, gc2⟩ := K2.out (by omega)
          have r13 : Rel w1 wr := (H2.out.trans H3.out).trans hR.out
          have r23 : Rel w2 wr := H3.out.trans hR.out
          have a0' : wr.cell? ⟨g1, k * 3, none⟩ = some (.int .i64 K) := r13.cell (gc1 _ _ e1)
          have a1' : wr.cell? ⟨g1, k * 3 + 1, none⟩ = some (.string T) := r13.cell (gc1 _ _ e2)
          have a2' : wr.cell? ⟨g1, k * 3 + 2, none⟩ = some (.int .i64 A) := r13.cell (gc1 _ _ e3)
          have b0' : wr.cell? ⟨g2, k * 3, none⟩ = some (.int .i64 K) := r23.cell (gc2 _ _ e1)
          have b1' : wr.cell? ⟨g2, k * 3 + 1, none⟩ = some (.string T) := r23.cell (gc2 _ _ e2)
          have b2' : wr.cell? ⟨g2, k * 3 + 2, none⟩ = some (.int .i64 A) := r23.cell (gc2 _ _ e3)
          have hlt' : (k : Int) < (l.length : Int) := by omega
          clear e1 e2 e3 gc1 gc2 r13 r23
          go_wp2
          refine wp_region_calm (fun _ w' => w'.cell? ⟨g1, k * 3, none⟩ = some (.int .i64 K) ∧ w'.cell? ⟨g1, k * 3 + 1, none⟩ = some (.string T) ∧ w'.cell? ⟨g1, k * 3 + 2, none⟩ = some (.int .i64 A) ∧ w'.cell? ⟨g2, k * 3, none⟩ = some (.int .i64 K) ∧ w'.cell? ⟨g2, k * 3 + 1, none⟩ = some (.string T) ∧ w'.cell? ⟨g2, k * 3 + 2, none⟩ = some (.int .i64 A)) (fun _ => false) [0, 1, 2, 3, 4, 5, 6, 7, 8] 0 (by kernel_rfl) (by kernel_rfl) ?hst ?hS0 (fun w0 h0 => ?_)
          case hst => exact fun _ _ _ h r => ⟨r.cell h.1, r.cell h.2.1, r.cell h.2.2.1, r.cell h.2.2.2.1, r.cell h.2.2.2.2.1, r.cell h.2.2.2.2.2⟩
          case hS0 => exact ⟨a0', a1', a2', b0', b1', b2'⟩
          clear a0' a1' a2' b0' b1' b2'
          iterate 9
            refine wpCalm_go rfl (by kernel_rfl) (fun K hK => ?_)
            apply Exists.intro
            refine ⟨fun M w hM hS => ?_, hK _ ?_⟩
            · have c0 := hS.1
              have c1 := hS.2.1
              have c2 := hS.2.2.1
              have c3 := hS.2.2.2.1
              have c4 := hS.2.2.2.2.1
              have c5 := hS.2.2.2.2.2
              unfold calmAt
              go_simp
              exact ⟨rfl, Rel.refl _⟩
            clear hK K
          refine wpAnyR_end (by kernel_rfl) (fun w9 h9' => ?_)
          (try simp only [Act.put, List.setIfInBounds_toArray, List.set_cons_zero, List.set_cons_succ])
          have h9 := h0.trans h9'
          clear h0 h9'
          have kz9 := h9.size
          (try simp only [World.size_alloc, World.size_setCell, World.size_drew] at kz9)
          have H9 := Lib.hid h9
          clear h9
          go_wp2
          go_roundw
          case rel => exact ⟨k + 1, by go_num, by omega, hR.out.trans H9.out⟩
          case measure => simp [intOf]; omega
        · go_wp2
          go_ret
          exact ⟨rfl, by
            have h := hR.out
            have H8 := Lib.hid h
            (show Rel _ _; repeat (first | with_reducible exact Rel.refl _ | with_reducible refine Rel.alloc ?_ _ | with_reducible refine Rel.setCell ?_ (by first | (simp; done) | (simp; omega)) _ | with_reducible refine Rel.drew ?_ | with_reducible refine Rel.trans ?_ H8.out | with_reducible refine Rel.trans ?_ H7.out | with_reducible refine Rel.trans ?_ H6.out | with_reducible refine Rel.trans ?_ H5.out | with_reducible refine Rel.trans ?_ H4.out | with_reducible refine Rel.trans ?_ H3.out | with_reducible refine Rel.trans ?_ H2.out | with_reducible refine Rel.trans ?_ H1.out | with_reducible refine Rel.trans ?_ H0.out))⟩

end Go.Proofs.Ytfdajdlbkdfhoaa

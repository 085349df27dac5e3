/- Bundle of texts: each says at its head what it proves; no conditions but those printed. -/
import Derived.Test.YtnhmebhmlbofgaaDoorB15
import Derived.Test.YtnhmebhmlbofgaaDoorB14
import Derived.Laws.OwnMore
/- Walk of the law TypingMade. No conditions but those printed. -/
namespace Go.Proofs.YtnhmebhmlbofgaaDoor
open Go.RowKit Cal Str Tok Frac Txt Tree
attribute [local go_sem] calmUpon
set_option linter.unusedVariables false
set_option linter.unusedSimpArgs false

theorem ints_rel {w w' : World} {v : Value} {n : Nat} (h : IntsIn w v n) (r : Rel w w') : IntsIn w' v n := by
  obtain ⟨a0, cap, rfl, hn, hc⟩ := h
  refine ⟨a0, cap, rfl, hn, fun h0 => ?_⟩
  obtain ⟨b, off, zs, rfl, hb, hz⟩ := hc h0
  exact ⟨b, off, zs, rfl, Nat.lt_of_lt_of_le hb r.size, fun j hj => ⟨r.cell (hz j hj).1, (hz j hj).2⟩⟩
theorem wNm_ok : ∀ i, i < 4 → namB (wNm i) = true ∧ inpI (wNm i) = 0 ∧ (wNm i).size ≤ 20 := by
  intro i hi
  rcases (show i = 0 ∨ i = 1 ∨ i = 2 ∨ i = 3 by omega) with rfl | rfl | rfl | rfl <;> exact ⟨by kernel_rfl, by kernel_rfl, by decide⟩
theorem wNm_one : ∀ i j, i < 4 → j < 4 → (wNm i).data.toList = (wNm j).data.toList → i = j := by
  intro i j hi hj h
  rcases (show i = 0 ∨ i = 1 ∨ i = 2 ∨ i = 3 by omega) with rfl | rfl | rfl | rfl <;> rcases (show j = 0 ∨ j = 1 ∨ j = 2 ∨ j = 3 by omega) with rfl | rfl | rfl | rfl <;> first | rfl | (exfalso; simp [wNm] at h)
/-- The made bindings: a, b, c, d, with dimensions from 1 to 4. -/
def MadeB (L : List (ByteArray × Int)) : Prop := ∀ (i : Nat) (p : ByteArray × Int), L[i]? = some p → p.1 = wNm i ∧ 1 ≤ p.2 ∧ p.2 ≤ 4
theorem madeB_env {L : List (ByteArray × Int)} (h : MadeB L) (hl : L.length ≤ 4) : EnvG (nmO L) (dmO L) L.length := by
  have at' : ∀ i, i < L.length → nmO L i = wNm i ∧ 1 ≤ dmO L i ∧ dmO L i ≤ 4 := fun i hi => by
    obtain ⟨p, hp⟩ : ∃ p, L[i]? = some p := ⟨_, List.getElem?_eq_getElem hi⟩
    obtain ⟨e1, e2⟩ := nmO_at hp
    rw [e1, e2]; exact h i p hp
  exact ⟨fun i hi => (at' i hi).2, fun i hi => by rw [(at' i hi).1]; exact (wNm_ok i (by omega)).1, fun i hi => by rw [(at' i hi).1]; exact (wNm_ok i (by omega)).2.1, fun i j hi hj e => by
    rw [(at' i hi).1, (at' j hj).1] at e
    exact wNm_one i j (by omega) (by omega) e⟩
theorem madeB_snoc {L : List (ByteArray × Int)} {k : Nat} (h : MadeB L) (hl : L.length = k) {d : Int} (hd : 1 ≤ d ∧ d ≤ 4) : MadeB (L ++ [(wNm k, d)]) := fun i p hi => by
  by_cases hlt : i < L.length
  · rw [List.getElem?_append_left hlt] at hi
    exact h i p hi
  · rw [List.getElem?_append_right (by omega)] at hi
    have h0 : i - L.length = 0 := by
      by_cases e : i - L.length = 0
      · exact e
      · rw [List.getElem?_eq_none (by simp; omega)] at hi; cases hi
    rw [h0] at hi
    simp at hi
    subst hi
    exact ⟨by rw [show i = k by omega], hd⟩
theorem madeB_ok {L : List (ByteArray × Int)} (h : MadeB L) (hl : L.length ≤ 4) : ∀ p ∈ L, BndOk p := fun p hp => by
  obtain ⟨i, hi⟩ := List.getElem?_of_mem hp
  obtain ⟨e, h1, h2⟩ := h i p hi
  have : i < L.length := (List.getElem?_eq_some_iff.1 hi).1
  have := (wNm_ok i (by omega)).2.2
  exact ⟨by rw [e]; omega, by omega, by omega⟩
def tabA : Array Value := #[.string ⟨#[97]⟩, .string ⟨#[98]⟩, .string ⟨#[99]⟩, .string ⟨#[100]⟩]
theorem tabA_ok : ∀ k, k < 4 → tabA[k]? = some (.string (wNm k)) := by
  intro k hk
  rcases (show k = 0 ∨ k = 1 ∨ k = 2 ∨ k = 3 by omega) with rfl | rfl | rfl | rfl <;> rfl

set_option maxRecDepth 20000 in
set_option maxHeartbeats 8000000 in
theorem walk_TypingMade (w : World) (ht : TabW w) (a0 : Value) (n0 : Nat) (a1 : Int) (a2 : Value) (n2 : Nat) (m2 : Nat → ByteArray) (d2 : Nat → Int) (b0 : IntsIn w a0 n0) (b1 : -9223372036854775808 ≤ a1) (c1 : a1 ≤ 9223372036854775807) (b2 : BindsIn w a2 n2 m2 d2) :
    Calls Tryd.prog 5 #[a0, .int .i64 a1, a2] w (BRes true w) := by
  obtain ⟨s0, p0, rfl, hn0, -⟩ := id b0
  obtain ⟨s2, p2, rfl, hn2, hE⟩ := b2
  have HT := Lib.hid ht
  have B0 := Lib.hid b0
  have HE := Lib.hid hE
  clear ht b0 hE
  unfold BRes
  by_cases h2 : 200 < n0
  · have e1 : decide ((200 : Int) < (n0 : Int)) = true := decide_eq_true (by omega)
    go_enter Tryd.func5, Tryd.ntmps5
    go_wp2
    go_ret
    exact ⟨rfl, by (show Rel _ _; repeat (first | with_reducible exact Rel.refl _ | with_reducible refine Rel.alloc ?_ _ | with_reducible refine Rel.setCell ?_ (by first | (simp; done) | (simp; omega)) _ | with_reducible refine Rel.drew ?_ | with_reducible refine Rel.trans ?_ H0.out))⟩
  · have e1 : decide ((200 : Int) < (n0 : Int)) = false := decide_eq_false (by omega)
    have hi3 : (Tryd.prog.info? 42).map (fun i => (i.zero, i.size, i.bytes)) = some (some (.agg #[.string ByteArray.empty, .int .i64 0]), 2, 24) := by kernel_rfl
    obtain ⟨i0, hi, hx⟩ := Option.map_eq_some_iff.1 hi3
    simp only [Prod.mk.injEq] at hx
    obtain ⟨hz0, hz1, hz2⟩ := hx
    have HI1 := Lib.hid hi
    have HZ0 := Lib.hid hz0
    have HZ1 := Lib.hid hz1
    have HZ2 := Lib.hid hz2
    clear hi3 hi hz0 hz1 hz2
    have P1 := Lib.hid fun w => pick_any a1 4 w b1 c1 (by decide) (by decide)
    obtain ⟨y, hy, hy0, hy4⟩ : ∃ y, a1 % 4 = y ∧ 0 ≤ y ∧ y < 4 := ⟨_, rfl, by omega, by omega⟩
    rw [hy] at P1
    obtain ⟨dim, hdim⟩ : ∃ dim, 1 + y = dim := ⟨_, rfl⟩
    have wy : IntKind.i64.wrap (1 + y) = dim := by rw [← hdim]; exact IntWalk.i64_in _ ⟨by omega, by omega⟩
    have dim1 : 1 ≤ dim := by omega
    have dim4 : dim ≤ 4 := by omega
    clear hy hdim
    go_enter Tryd.func5, Tryd.ntmps5
    go_wp2_with fail
    refine (P1.out _).mono ?_
    rintro e w1 ⟨rfl, rfl⟩
    go_wp2_with fail
    clear wy
    go_loopw [7, 8] (fun ov i wx => ∃ (k : Nat) (L' : List (ByteArray × Int)) (ra : Option Addr) (rc : Nat), Hid (L'.length = k) ∧ k ≤ n2 ∧ k ≤ 4 ∧ i = .int .i64 k ∧ ov = .slice ra k rc ∧ Hid (MadeB L') ∧ Hid (wx.ownsRow w.heap.size 42 2 (.slice ra k rc) k (bndL L')) ∧ Hid (Rel w wx)) (fun _ i _ => 4 - (intOf i).toNat)
    case atStart => exact ⟨0, [], none, 0, rfl, by omega, by omega, rfl, rfl, fun i p h => by simp at h, World.ownsRow_nil _ _ _ _, Rel.refl _⟩
    case round =>
      obtain ⟨k, L', ra, rc, hLk, hkn, hk8, rfl, rfl, hOk, hO, hR⟩ := hrel
      have rsz := hR.out.size
      by_cases hlt : k < n2 ∧ k < 4
      · obtain ⟨l1, l2⟩ := hlt
        have e1 : decide ((k : Int) < (n2 : Int)) = true := decide_eq_true (by omega)
        have e2 : decide ((k : Int) < 4) = true := decide_eq_true (by omega)
        have l2i : (k : Int) < 4 := by omega
        obtain ⟨g, off, rfl, hg, hc⟩ := HE.out (by omega)
        obtain ⟨-, q1, -, q3, q4⟩ := hc k l1
        obtain ⟨z, hz⟩ : ∃ z, d2 k = z := ⟨_, rfl⟩
        rw [hz] at q1 q3 q4
        have c1 := hR.out.cell q1
        have P2 := Lib.hid fun w => pick_any z 4 w (by omega) (by omega) (by decide) (by decide)
        obtain ⟨u, hu, hu0, hu4⟩ : ∃ u, z % 4 = u ∧ 0 ≤ u ∧ u < 4 := ⟨_, rfl, by omega, by omega⟩
        rw [hu] at P2
        obtain ⟨v, hv⟩ : ∃ v, 1 + u = v := ⟨_, rfl⟩
        have wv : IntKind.i64.wrap (1 + u) = v := by rw [← hv]; exact IntWalk.i64_in _ ⟨by omega, by omega⟩
        have v1 : 1 ≤ v := by omega
        have v4 : v ≤ 4 := by omega
        obtain ⟨s, hs⟩ : ∃ s, wNm k = s := ⟨_, rfl⟩
        have HTA := Lib.hid (tabA_ok k l2)
        rw [hs] at HTA
        have HS := Lib.hid hs
        clear q1 hz hc hu hv hs
        go_wp2_with fail
        refine wp_region_calm (fun M w' => M.getD 12 false = false → w'.cell? ⟨g, off + k * 2 + 1, none⟩ = some (.int .i64 z)) (fun i => i == 12) [0, 2, 5, 6, 7, 8, 9, 10, 11] 7 (by kernel_rfl) (by kernel_rfl) ?hst ?hS0 (fun w0 h0 => ?_)
        case hst => exact fun _ _ _ h r hM => r.cell (h hM)
        case hS0 => exact fun _ => c1
        iterate 1
          refine wpCalm_go rfl (by kernel_rfl) (fun K hK => ?_)
          apply Exists.intro
          refine ⟨fun M w hM hS => ?_, hK _ ?_⟩
          · unfold calmAt
            go_simp
            exact ⟨rfl, Rel.refl _⟩
          clear hK K
        iterate 6
          refine wpCalm_go rfl (by kernel_rfl) (fun K hK => ?_)
          apply Exists.intro
          refine ⟨fun M w hM hS => ?_, hK _ ?_⟩
          · have hS := hS (hM 12 (by kernel_rfl))
            have d1 := hS
            unfold calmAt
            go_simp
            exact ⟨rfl, Rel.refl _⟩
          clear hK K
        refine wpCalm_go rfl (by kernel_rfl) (fun K hK => ?_)
        apply Exists.intro
        refine ⟨fun M w hM hS => ?_, hK _ ?_⟩
        · have hS := hS (hM 12 (by kernel_rfl))
          have d1 := hS
          unfold calmAt
          go_simp
          with_reducible refine (P2.out _).mono ?_
          rintro e w1 ⟨rfl, rfl⟩
          exact ⟨rfl, Rel.refl _⟩
        clear hK K
        iterate 1
          refine wpCalm_go rfl (by kernel_rfl) (fun K hK => ?_)
          apply Exists.intro
          refine ⟨fun M w hM hS => ?_, hK _ ?_⟩
          · have hS := hS (hM 12 (by kernel_rfl))
            have d1 := hS
            unfold calmAt
            go_simp
            exact ⟨rfl, Rel.refl _⟩
          clear hK K
        refine wpCalm_nil ?_
        have kz3 := h0.size
        (try simp only [World.size_alloc, World.size_setCell, World.size_drew] at kz3)
        have H3 := Lib.hid h0
        clear h0
        refine wpAnyR_ready (rs := [1]) (by kernel_rfl) (by simp) (AllR.cons rfl (fun w4 h4 K' hK' => ?_) AllR.nil)
        have kz4 := h4.size
        (try simp only [World.size_alloc, World.size_setCell, World.size_drew] at kz4)
        have H4 := Lib.hid h4
        clear h4
        go_simp
        refine hK'.out _ _ (fun _ => ((Rel.refl _).alloc _).cell ((H3.out.trans H4.out).cell c1)) ?_
        clear hK' K'
        refine wpAnyR_ready (rs := [3]) (by kernel_rfl) (by simp) (AllR.cons rfl (fun w5 h5 K' hK' => ?_) AllR.nil)
        have k4 : (w4.alloc (.cells tabA 9)).cell? ⟨w4.heap.size, k, none⟩ = some (.string s) := by simpa using HTA.out
        have k5 := h5.cell k4
        have kz5 := h5.size
        (try simp only [World.size_alloc, World.size_setCell, World.size_drew] at kz5)
        have H5 := Lib.hid h5
        clear h5
        go_simp
        refine hK'.out _ _ (fun _ => (H5.out).cell (((Rel.refl _).alloc _).cell ((H3.out.trans H4.out).cell c1))) ?_
        clear hK' K'
        refine wpAnyR_ready (rs := [4]) (by kernel_rfl) (by simp) (AllR.cons rfl (fun w6 h6 K' hK' => ?_) AllR.nil)
        have k6 := h6.cell k5
        have kz6 := h6.size
        (try simp only [World.size_alloc, World.size_setCell, World.size_drew] at kz6)
        have H6 := Lib.hid h6
        clear h6
        go_simp
        refine hK'.out _ _ (fun _ => (H6.out).cell ((H5.out).cell (((Rel.refl _).alloc _).cell ((H3.out.trans H4.out).cell c1)))) ?_
        clear hK' K' k4 k5 k6
        refine wpAnyR_ready (rs := [12]) (by kernel_rfl) (by simp) (AllR.cons rfl (fun w7 h7 K' hK' => ?_) AllR.nil)
        have kz7 := h7.size
        (try simp only [World.size_alloc, World.size_setCell, World.size_drew] at kz7)
        have H7 := Lib.hid h7
        clear h7
        go_simp
        refine hK'.out _ _ (fun h => absurd (h.symm.trans (by kernel_rfl : _ = true)) (by simp)) ?_
        clear hK' K'
        refine wpAnyR_ready (rs := [13]) (by kernel_rfl) (by simp) (AllR.cons rfl (fun w8 h8 K' hK' => ?_) AllR.nil)
        have kz8 := h8.size
        (try simp only [World.size_alloc, World.size_setCell, World.size_drew] at kz8)
        have H8 := Lib.hid h8
        clear h8
        go_simp
        refine hK'.out _ _ (fun h => absurd (h.symm.trans (by kernel_rfl : _ = true)) (by simp)) ?_
        clear hK' K'
        refine wpAnyR_ready (rs := [14]) (by kernel_rfl) (by simp) (AllR.cons rfl (fun w9 h9 K' hK' => ?_) AllR.nil)
        have R9 : Hid (Rel wr w9) := ((((H3.out.trans H4.out).alloc _).trans ((H5.out.trans H6.out).trans H7.out)).trans ((H8.out).alloc _)).trans h9
        have q := keep2 h9 (b := w8.heap.size) (by first | (simp; done) | (simp; omega) | omega)
        have kc9_0_0 := q.1
        have kc9_0_1 := q.2.1
        have kf9_0_0 := q.2.2.1
        have kf9_0_1 := q.2.2.2.1
        have kl9_0 := q.2.2.2.2.1
        have kn9_0 := q.2.2.2.2.2.1
        have km9_0 := q.2.2.2.2.2.2
        clear q
        have kz9 := h9.size
        (try simp only [World.size_alloc, World.size_setCell, World.size_drew] at kz9)
        have H9 := Lib.hid h9
        clear h9
        have O9 := Lib.hid (own_rel hO.out R9.out)
        have N9 := Lib.hid (fun j u h => H9.out.cell (new2 w8 (s, v) 42 rfl j u h))
        rw [if_pos (by kernel_rfl)]
        refine wp_append_lies w9 (.tmp 27) (.tmp 40) 29 rfl w.heap.size 42 i0 (.agg #[.string ByteArray.empty, .int .i64 0]) 2 24 Tryd.underlying29 HI1.out HZ0.out HZ1.out HZ2.out rfl (by decide) (.slice ra k rc) k (bndL L') rfl O9.out ⟨w8.heap.size, 0, none⟩ 1 1 [.string s, .int .i64 v] rfl rfl N9.out ?c2 (by decide) ?c3 ?c4 ?c5 w9.heap.size rfl ?_
        case c2 => intro u hu; simp at hu; rcases hu with rfl | rfl <;> rfl
        case c3 => unfold maxLen; omega
        case c4 => omega
        case c5 => have := R9.out.size; omega
        intro g2 cap2 w10 hown hgrow hat' hlt'
        have rb := hO.out.lt
        have R10 : Hid (Rel w w10) := Below.grown (hR.out.trans R9.out) hgrow (by have := R9.out.size; omega) (fun q hq => (rb q hq).1)
        have O10 := Lib.hid hown
        clear hown hgrow hat'
        refine hK'.out _ _ (fun h => absurd (h.symm.trans (by kernel_rfl : _ = true)) (by simp)) ?_
        clear hK' K'
        refine wpAnyR_ready (rs := [15]) (by kernel_rfl) (by simp) (AllR.cons rfl (fun w11 h11 K' hK' => ?_) AllR.nil)
        have kz11 := h11.size
        (try simp only [World.size_alloc, World.size_setCell, World.size_drew] at kz11)
        have H11 := Lib.hid h11
        clear h11
        go_simp
        refine hK'.out _ _ (fun h => absurd (h.symm.trans (by kernel_rfl : _ = true)) (by simp)) ?_
        clear hK' K'
        refine wpAnyR_end (by kernel_rfl) (fun w12 h12 => ?_)
        have R12 := Lib.hid ((R10.out.trans H11.out).trans h12)
        have O12 := Lib.hid (own_rel O10.out (H11.out.trans h12))
        clear h12
        go_wp2
        go_roundw
        case rel => exact ⟨k + 1, L' ++ [(wNm k, v)], some ⟨g2, 0, none⟩, cap2, (by show _ = _; rw [List.length_append, hLk.out]; rfl), by omega, by omega, by go_num, rfl, madeB_snoc hOk.out hLk.out ⟨by omega, by omega⟩, (by show World.ownsRow _ _ _ _ _ _ _; rw [bndL_snoc, HS.out]; exact O12.out), R12⟩
        case measure => simp [intOf]; omega
      · have hkk : k = n2 ∧ k < 4 ∨ k = 4 ∧ k < n2 ∨ k = 4 ∧ k = n2 := by omega
        rcases hkk with ⟨rfl, h8⟩ | ⟨rfl, hn8⟩ | ⟨rfl, rfl⟩
        · have e1 : decide ((k : Int) < (k : Int)) = false := decide_eq_false (by omega)
          have hEE := Lib.hid (own_env hO.out hLk.out (madeB_ok hOk.out (by rw [hLk.out]; omega)))
          have hGG := madeB_env hOk.out (by rw [hLk.out]; omega)
          rw [hLk.out] at hGG
          have HG := Lib.hid hGG
          clear hGG
          obtain ⟨nm, hnm⟩ : ∃ f, nmO L' = f := ⟨_, rfl⟩
          obtain ⟨dm, hdm⟩ : ∃ f, dmO L' = f := ⟨_, rfl⟩
          rw [hnm, hdm] at hEE HG
          clear hnm hdm hOk hO
          go_wp2_with fail
          refine (Expr_any _ n0 dim ra k rc nm dm _ (ints_rel B0.out hR.out) hEE.out (by omega) HG.out ⟨dim1, dim4⟩).mono ?_
          unfold TyRes
          rintro e w3 ⟨t, x, rfl, hK, hz, h3, hT⟩
          obtain ⟨xa, xc, rfl⟩ := kids_slice (kidsB_to hK)
          have HK := Lib.hid (kidsB_to hK)
          have R3 := Lib.hid (hR.out.trans h3)
          have E3 := Lib.hid (env_rel hEE.out h3)
          have HV : Hid (infV t nm dm k = (dim, 0)) := by
            show _ = _
            unfold infV
            rw [hT.1, envG_B HG.out]; exact hT.2
          clear hK h3 hT
          go_wp2_with fail
          refine (Infer_any ra k rc nm dm _ E3.out (by omega) t _ HK.out (by omega) (HT.out.rel R3.out)).mono ?_
          unfold InfRes
          rw [HV.out]
          rintro e w4 ⟨rfl, h4⟩
          have R4 := Lib.hid (R3.out.trans h4)
          clear h4
          go_wp2_with fail
          refine (awake_any _ (HT.out.rel R4.out)).mono ?_
          unfold BRes
          rintro e w5 ⟨rfl, h5⟩
          have R5 := Lib.hid (R4.out.trans h5)
          clear h5
          go_wp2
          go_ret
          exact ⟨ret_b2 (by simp), R5.out⟩
        · have e1 : decide ((4 : Int) < (n2 : Int)) = true := decide_eq_true (by omega)
          have hEE := Lib.hid (own_env hO.out hLk.out (madeB_ok hOk.out (by rw [hLk.out]; omega)))
          have hGG := madeB_env hOk.out (by rw [hLk.out]; omega)
          rw [hLk.out] at hGG
          have HG := Lib.hid hGG
          clear hGG
          obtain ⟨nm, hnm⟩ : ∃ f, nmO L' = f := ⟨_, rfl⟩
          obtain ⟨dm, hdm⟩ : ∃ f, dmO L' = f := ⟨_, rfl⟩
          rw [hnm, hdm] at hEE HG
          clear hnm hdm hOk hO
          go_wp2_with fail
          refine (Expr_any _ n0 dim ra 4 rc nm dm _ (ints_rel B0.out hR.out) hEE.out (by omega) HG.out ⟨dim1, dim4⟩).mono ?_
          unfold TyRes
          rintro e w3 ⟨t, x, rfl, hK, hz, h3, hT⟩
          obtain ⟨xa, xc, rfl⟩ := kids_slice (kidsB_to hK)
          have HK := Lib.hid (kidsB_to hK)
          have R3 := Lib.hid (hR.out.trans h3)
          have E3 := Lib.hid (env_rel hEE.out h3)
          have HV : Hid (infV t nm dm 4 = (dim, 0)) := by
            show _ = _
            unfold infV
            rw [hT.1, envG_B HG.out]; exact hT.2
          clear hK h3 hT
          go_wp2_with fail
          refine (Infer_any ra 4 rc nm dm _ E3.out (by omega) t _ HK.out (by omega) (HT.out.rel R3.out)).mono ?_
          unfold InfRes
          rw [HV.out]
          rintro e w4 ⟨rfl, h4⟩
          have R4 := Lib.hid (R3.out.trans h4)
          clear h4
          go_wp2_with fail
          refine (awake_any _ (HT.out.rel R4.out)).mono ?_
          unfold BRes
          rintro e w5 ⟨rfl, h5⟩
          have R5 := Lib.hid (R4.out.trans h5)
          clear h5
          go_wp2
          go_ret
          exact ⟨ret_b2 (by simp), R5.out⟩
        · have e1 : decide ((4 : Int) < (4 : Int)) = false := decide_eq_false (by omega)
          have hEE := Lib.hid (own_env hO.out hLk.out (madeB_ok hOk.out (by rw [hLk.out]; omega)))
          have hGG := madeB_env hOk.out (by rw [hLk.out]; omega)
          rw [hLk.out] at hGG
          have HG := Lib.hid hGG
          clear hGG
          obtain ⟨nm, hnm⟩ : ∃ f, nmO L' = f := ⟨_, rfl⟩
          obtain ⟨dm, hdm⟩ : ∃ f, dmO L' = f := ⟨_, rfl⟩
          rw [hnm, hdm] at hEE HG
          clear hnm hdm hOk hO
          go_wp2_with fail
          refine (Expr_any _ n0 dim ra 4 rc nm dm _ (ints_rel B0.out hR.out) hEE.out (by omega) HG.out ⟨dim1, dim4⟩).mono ?_
          unfold TyRes
          rintro e w3 ⟨t, x, rfl, hK, hz, h3, hT⟩
          obtain ⟨xa, xc, rfl⟩ := kids_slice (kidsB_to hK)
          have HK := Lib.hid (kidsB_to hK)
          have R3 := Lib.hid (hR.out.trans h3)
          have E3 := Lib.hid (env_rel hEE.out h3)
          have HV : Hid (infV t nm dm 4 = (dim, 0)) := by
            show _ = _
            unfold infV
            rw [hT.1, envG_B HG.out]; exact hT.2
          clear hK h3 hT
          go_wp2_with fail
          refine (Infer_any ra 4 rc nm dm _ E3.out (by omega) t _ HK.out (by omega) (HT.out.rel R3.out)).mono ?_
          unfold InfRes
          rw [HV.out]
          rintro e w4 ⟨rfl, h4⟩
          have R4 := Lib.hid (R3.out.trans h4)
          clear h4
          go_wp2_with fail
          refine (awake_any _ (HT.out.rel R4.out)).mono ?_
          unfold BRes
          rintro e w5 ⟨rfl, h5⟩
          have R5 := Lib.hid (R4.out.trans h5)
          clear h5
          go_wp2
          go_ret
          exact ⟨ret_b2 (by simp), R5.out⟩

end Go.Proofs.YtnhmebhmlbofgaaDoor

/- Walk of the law TypingReplace. No conditions but those printed. -/
namespace Go.Proofs.YtnhmebhmlbofgaaDoor
open Go.RowKit Cal Str Tok Frac Txt Tree
attribute [local go_sem] calmUpon
set_option linter.unusedVariables false
set_option linter.unusedSimpArgs false

def noNm : Nat → ByteArray := fun _ => ⟨#[]⟩
def noDm : Nat → Int := fun _ => 0
theorem noEnv : EnvG noNm noDm 0 := ⟨fun i hi => by omega, fun i hi => by omega, fun i hi => by omega, fun i j hi => by omega⟩
theorem noAt (w : World) : EnvAt w 0 noNm noDm none := fun h => by omega
theorem kids_grow {base g n cap : Nat} {wr w9 w10 : World} {rv : Value} {L : List (Ex × Value)} {p : Ex × Value} (h : Rel wr w9) (hg : w9.grownBy w10 rv.ownBlock) (hrv : ∀ q, rv.ownBlock = some q → q < wr.heap.size) (hat : rv.ownBlock = some g ∨ g = w9.heap.size) (hbr : base ≤ wr.heap.size)
    (hK : ∀ (i : Nat) (p : Ex × Value), L[i]? = some p → ExKidsB (fun q => base ≤ q ∧ rv.ownBlock ≠ some q) p.1 wr p.2) (hp : ExKidsB (fun q => wr.heap.size ≤ q) p.1 w9 p.2) :
    ∀ (i : Nat) (p' : Ex × Value), (L ++ [p])[i]? = some p' → ExKidsB (fun q => base ≤ q ∧ Value.ownBlock (.slice (some ⟨g, 0, none⟩) n cap) ≠ some q) p'.1 w10 p'.2 := by
  have newP : ∀ q, q < w9.heap.size → rv.ownBlock ≠ some q → Value.ownBlock (.slice (some ⟨g, 0, none⟩) n cap) ≠ some q := fun q hq hne => by
    intro e
    simp [Value.ownBlock] at e
    rcases hat with hat | hat
    · exact hne (by rw [hat, e])
    · omega
  have hs := h.size
  intro i p' hi
  by_cases hlt : i < L.length
  · rw [List.getElem?_append_left hlt] at hi
    refine kidsB_keep (by have := hg.size; omega) (fun q hq hpq => ?_) (hK i p' hi)
    exact ⟨(hg.block q (by omega) (fun e => hpq.2 e.symm)).trans (Below.block h q hq), hpq.1, newP q (by omega) hpq.2⟩
  · rw [List.getElem?_append_right (by omega)] at hi
    have hi0 : i - L.length = 0 := by
      by_cases e : i - L.length = 0
      · exact e
      · rw [List.getElem?_eq_none (by simp; omega)] at hi; cases hi
    rw [hi0] at hi
    simp at hi
    subst hi
    refine kidsB_keep hg.size (fun q hq hpq => ?_) hp
    have hne : rv.ownBlock ≠ some q := fun e => by have := hrv q e; omega
    exact ⟨hg.block q hq (fun e => hne e.symm), by omega, newP q hq hne⟩
theorem all_snoc {Q : Nat → Ex × Value → Prop} {L : List (Ex × Value)} {k : Nat} {p : Ex × Value} (hl : L.length = k) (h : ∀ (i : Nat) (p : Ex × Value), L[i]? = some p → Q i p) (hp : Q k p) : ∀ (i : Nat) (p' : Ex × Value), (L ++ [p])[i]? = some p' → Q i p' := fun i p' hi => by
  by_cases hlt : i < L.length
  · rw [List.getElem?_append_left hlt] at hi
    exact h i p' hi
  · rw [List.getElem?_append_right (by omega)] at hi
    have h0 : i - L.length = 0 := by
      by_cases e : i - L.length = 0
      · exact e
      · rw [List.getElem?_eq_none (by simp; omega)] at hi; cases hi
    rw [h0] at hi
    simp at hi
    subst hi
    rw [show i = k by omega]; exact hp
theorem ints_drop {w : World} {s0 : Option Addr} {n0 p0 K1 : Nat} (h : IntsIn w (.slice s0 n0 p0) n0) (hk : K1 ≤ n0) : IntsIn w (.slice (if p0 = K1 then s0 else Option.map (fun x => x.add K1) s0) (n0 - K1) (p0 - K1)) (n0 - K1) := by
  obtain ⟨a, c, e, hn, hc⟩ := h
  simp only [Value.slice.injEq] at e
  obtain ⟨rfl, -, rfl⟩ := e
  refine ⟨_, _, rfl, by omega, fun h0 => ?_⟩
  obtain ⟨b, off, zs, rfl, hb, hz⟩ := hc (by omega)
  by_cases hp : p0 = K1
  · rw [if_pos hp]
    exact ⟨b, off, zs, rfl, hb, fun j hj => hz j (by omega)⟩
  · rw [if_neg hp]
    refine ⟨b, off + K1, zs.drop K1, ?_, hb, fun j hj => ?_⟩
    · simp [Addr.add]
    · have := hz (K1 + j) (by rw [Nat.add_comm]; exact Nat.add_lt_of_lt_sub hj)
      have e : (zs.drop K1).getD j 0 = zs.getD (K1 + j) 0 := by simp [List.getD]
      rw [e, show off + K1 + j = off + (K1 + j) by omega]; exact this
/-- A made operand: valid, of a dimension. -/
def MadeT (i : Nat) (p : Ex × Value) : Prop := ∃ d, 1 ≤ d ∧ d ≤ 4 ∧ TyV noNm noDm 0 d p.1

theorem set_other {W : World} {g o m : Nat} {v : Value} (h : m ≠ o) : (W.setCell ⟨g, o, none⟩ v).cell? ⟨g, m, none⟩ = W.cell? ⟨g, m, none⟩ := World.cell?_setCell_other _ _ _ _ (by intro e; injection e; omega)
/-- A row of trees at a block. -/
def RowAt (W : World) (g : Nat) (L : List (Ex × Value)) : Prop := ∀ m u, (celL L)[m]? = some u → W.cell? ⟨g, m, none⟩ = some u
def putRow6 (W : World) (g o : Nat) (v0 v1 v2 v3 v4 v5 : Value) : World := (((((W.setCell ⟨g, o, none⟩ v0).setCell ⟨g, o + 1, none⟩ v1).setCell ⟨g, o + 2, none⟩ v2).setCell ⟨g, o + 3, none⟩ v3).setCell ⟨g, o + 4, none⟩ v4).setCell ⟨g, o + 5, none⟩ v5
theorem cel_out {L : List (Ex × Value)} {m : Nat} {u : Value} (h : (celL L)[m]? = some u) : m / 6 < L.length ∧ ∃ q, L[m / 6]? = some q ∧ (cel q)[m % 6]? = some u := by
  have hm : m < (celL L).length := (List.getElem?_eq_some_iff.1 h).1
  rw [celL_len] at hm
  have h6 : m / 6 < L.length := by omega
  obtain ⟨q, hq⟩ : ∃ q, L[m / 6]? = some q := ⟨_, List.getElem?_eq_getElem h6⟩
  have := celL_at (j := m % 6) (by omega) hq
  rw [show m / 6 * 6 + m % 6 = m by omega] at this
  exact ⟨h6, q, hq, this ▸ h⟩
theorem row_at {W : World} {g : Nat} {L : List (Ex × Value)} (h : RowAt W g L) {i : Nat} {p : Ex × Value} (hp : L[i]? = some p) : W.cell? ⟨g, i * 6, none⟩ = some (.int .i64 p.1.op) ∧ W.cell? ⟨g, i * 6 + 1, none⟩ = some (.int .i64 p.1.va) ∧ W.cell? ⟨g, i * 6 + 2, none⟩ = some (.int .i64 p.1.vb) ∧ W.cell? ⟨g, i * 6 + 3, none⟩ = some (.int .i64 p.1.dm) ∧ W.cell? ⟨g, i * 6 + 4, none⟩ = some (.string p.1.nm) ∧ W.cell? ⟨g, i * 6 + 5, none⟩ = some p.2 :=
  ⟨h _ _ (celL_at (j := 0) (by omega) hp), h _ _ (celL_at (j := 1) (by omega) hp), h _ _ (celL_at (j := 2) (by omega) hp), h _ _ (celL_at (j := 3) (by omega) hp), h _ _ (celL_at (j := 4) (by omega) hp), h _ _ (celL_at (j := 5) (by omega) hp)⟩
theorem kidsB_old {P : Nat → Prop} {t : Ex} {w : World} {x : Value} (h : ExKidsB P t w x) : ExKidsB (fun q => q < w.heap.size) t w x := kidsB_keep (Nat.le_refl _) (fun q hq _ => ⟨rfl, hq⟩) h
theorem row_set {W : World} {g j : Nat} {L : List (Ex × Value)} {p q : Ex × Value} (h : RowAt W g L) (hq : L[j]? = some q) : RowAt (putRow6 W g (j * 6) (.int .i64 p.1.op) (.int .i64 p.1.va) (.int .i64 p.1.vb) (.int .i64 p.1.dm) (.string p.1.nm) p.2) g (L.set j p) := by
  have hj : j < L.length := (List.getElem?_eq_some_iff.1 hq).1
  obtain ⟨c0, c1, c2, c3, c4, c5⟩ := row_at h hq
  intro m u hu
  obtain ⟨h6, r, hr, hru⟩ := cel_out hu
  unfold putRow6
  by_cases hm : m / 6 = j
  · rw [hm, List.getElem?_set_self hj] at hr
    cases hr
    rcases (show m = j * 6 ∨ m = j * 6 + 1 ∨ m = j * 6 + 2 ∨ m = j * 6 + 3 ∨ m = j * 6 + 4 ∨ m = j * 6 + 5 by omega) with rfl | rfl | rfl | rfl | rfl | rfl
    · rw [show j * 6 % 6 = 0 by omega] at hru; cases hru
      rw [set_other (by omega), set_other (by omega), set_other (by omega), set_other (by omega), set_other (by omega)]
      exact World.cell?_setCell_same _ _ _ c0
    · rw [show (j * 6 + 1) % 6 = 1 by omega] at hru; cases hru
      rw [set_other (by omega), set_other (by omega), set_other (by omega), set_other (by omega)]
      exact World.cell?_setCell_same _ _ _ ((set_other (by omega)).trans c1)
    · rw [show (j * 6 + 2) % 6 = 2 by omega] at hru; cases hru
      rw [set_other (by omega), set_other (by omega), set_other (by omega)]
      exact World.cell?_setCell_same _ _ _ ((set_other (by omega)).trans ((set_other (by omega)).trans c2))
    · rw [show (j * 6 + 3) % 6 = 3 by omega] at hru; cases hru
      rw [set_other (by omega), set_other (by omega)]
      exact World.cell?_setCell_same _ _ _ ((set_other (by omega)).trans ((set_other (by omega)).trans ((set_other (by omega)).trans c3)))
    · rw [show (j * 6 + 4) % 6 = 4 by omega] at hru; cases hru
      rw [set_other (by omega)]
      exact World.cell?_setCell_same _ _ _ ((set_other (by omega)).trans ((set_other (by omega)).trans ((set_other (by omega)).trans ((set_other (by omega)).trans c4))))
    · rw [show (j * 6 + 5) % 6 = 5 by omega] at hru; cases hru
      exact World.cell?_setCell_same _ _ _ ((set_other (by omega)).trans ((set_other (by omega)).trans ((set_other (by omega)).trans ((set_other (by omega)).trans ((set_other (by omega)).trans c5)))))
  · rw [set_other (by omega), set_other (by omega), set_other (by omega), set_other (by omega), set_other (by omega), set_other (by omega)]
    rw [List.getElem?_set_ne (fun e => hm e.symm)] at hr
    have := celL_at (j := m % 6) (by omega) hr
    rw [show m / 6 * 6 + m % 6 = m by omega, hru] at this
    exact h m u this
theorem tree_row {W : World} {g k cap : Nat} {op : Int} {L : List (Ex × Value)} (hl : L.length = k) (hk : k ≤ 3) (hop : 4 ≤ op ∧ op ≤ 21) (hg : g < W.heap.size) (hr : RowAt W g L) (hK : ∀ (i : Nat) (p : Ex × Value), L[i]? = some p → ExKids p.1 W p.2) :
    ExKids (.mk op 0 0 0 ⟨#[]⟩ k (kidL L)) W (.slice (some ⟨g, 0, none⟩) k cap) := by
  refine ⟨⟨by omega, by omega, by decide, by decide, by decide, by decide, by decide, by decide, by decide⟩, by omega, _, _, rfl, fun _ => ⟨g, 0, rfl, hg, fun i hi => ?_⟩⟩
  obtain ⟨p, hp⟩ : ∃ p, L[i]? = some p := ⟨_, List.getElem?_eq_getElem (by omega)⟩
  obtain ⟨c0, c1, c2, c3, c4, c5⟩ := row_at hr hp
  rw [kidL_at hp, Nat.zero_add]
  exact ⟨p.2, ⟨c0, c1, c2, c3, c4, c5⟩, hK i p hp⟩
theorem tree_size {k : Nat} {op : Int} {L : List (Ex × Value)} (hl : L.length = k) (hk : k ≤ 3) (hz : ∀ (i : Nat) (p : Ex × Value), L[i]? = some p → p.1.size ≤ 60) : (Ex.mk op 0 0 0 ⟨#[]⟩ k (kidL L)).size ≤ 1000 := by
  rw [size_mk]
  have h := smK_mul (f := fun i => (kidL L i).size) (B := 60) (n := k) (fun i hi => by
    obtain ⟨p, hp⟩ : ∃ p, L[i]? = some p := ⟨_, List.getElem?_eq_getElem (by omega)⟩
    show (kidL L i).size ≤ 60
    rw [kidL_at hp]; exact hz i p hp)
  omega
theorem celL_one {L : List (Ex × Value)} (h : ∀ (i : Nat) (p : Ex × Value), L[i]? = some p → ∃ a n c, p.2 = .slice a n c) : ∀ u ∈ celL L, u.oneCell' = true := by
  intro u hu
  obtain ⟨m, hm⟩ := List.getElem?_of_mem hu
  obtain ⟨-, q, hq, hqu⟩ := cel_out hm
  obtain ⟨a, n, c, e⟩ := h _ q hq
  have : u ∈ cel q := List.mem_of_getElem? hqu
  unfold cel at this
  rw [e] at this
  simp at this
  rcases this with rfl | rfl | rfl | rfl | rfl | rfl <;> rfl
theorem inf_repl {op : Int} {k j : Nat} {L : List (Ex × Value)} {p q : Ex × Value} {d : Int} (hop : 4 ≤ op) (hl : L.length = k) (hp : L[j]? = some p) (h1 : p.1.inf noNm noDm 0 = (d, 0)) (h2 : q.1.inf noNm noDm 0 = (d, 0)) :
    (Ex.mk op 0 0 0 ⟨#[]⟩ k (kidL (L.set j q))).inf noNm noDm 0 = (Ex.mk op 0 0 0 ⟨#[]⟩ k (kidL L)).inf noNm noDm 0 := by
  have e : (fun i => (kidL (L.set j q) i).inf noNm noDm 0) = (fun i => (kidL L i).inf noNm noDm 0) := by
    funext i
    by_cases hij : i = j
    · subst hij
      have hi : i < L.length := (List.getElem?_eq_some_iff.1 hp).1
      rw [kidL_at hp, kidL_at (List.getElem?_set_self hi), h1, h2]
    · unfold kidL; rw [List.getElem?_set_ne (fun e => hij e.symm)]
  rw [inf_mk, inf_mk, if_neg (by omega), if_neg (by omega), if_neg (by omega), if_neg (by omega), if_neg (by omega), if_neg (by omega), e]
theorem opD_code {op : Int} {n : Nat} {f : Nat → Int × Int} (h : ∀ i, i < n → (f i).2 = 0) : (opD op n f).2 ≠ 1 := by
  rw [opD_ok (erK_all0 h)]
  split <;> simp
/-- Either a tree of the two is not valid, or both answers are the same. -/
theorem repl_fin {op : Int} {k j : Nat} {L : List (Ex × Value)} {p q : Ex × Value} {d : Int} (hop : 4 ≤ op) (hl : L.length = k) (hp : L[j]? = some p) (h1 : p.1.inf noNm noDm 0 = (d, 0)) (h2 : q.1.inf noNm noDm 0 = (d, 0)) :
    (infV (Ex.mk op 0 0 0 ⟨#[]⟩ k (kidL L)) noNm noDm 0).2 = 1 ∨ (infV (Ex.mk op 0 0 0 ⟨#[]⟩ k (kidL (L.set j q))) noNm noDm 0).2 = 1 ∨ infV (Ex.mk op 0 0 0 ⟨#[]⟩ k (kidL L)) noNm noDm 0 = infV (Ex.mk op 0 0 0 ⟨#[]⟩ k (kidL (L.set j q))) noNm noDm 0 := by
  unfold infV
  rw [inf_repl hop hl hp h1 h2]
  by_cases a : ((Ex.mk op 0 0 0 ⟨#[]⟩ k (kidL L)).valid && envB noDm 0) = true
  · by_cases b : ((Ex.mk op 0 0 0 ⟨#[]⟩ k (kidL (L.set j q))).valid && envB noDm 0) = true
    · rw [if_pos a, if_pos b]; exact .inr (.inr rfl)
    · rw [if_neg b]; exact .inr (.inl rfl)
  · rw [if_neg a]; exact .inl rfl

set_option maxRecDepth 20000 in
set_option maxHeartbeats 8000000 in
theorem walk_TypingReplace (w : World) (ht : TabW w) (a0 : Value) (n0 : Nat) (a1 : Value) (n1 : Nat) (a2 a3 : Int) (b0 : IntsIn w a0 n0) (b1 : IntsIn w a1 n1) (b2 : -9223372036854775808 ≤ a2) (c2 : a2 ≤ 9223372036854775807) (b3 : -9223372036854775808 ≤ a3) (c3 : a3 ≤ 9223372036854775807) :
    Calls Tryd.prog 6 #[a0, a1, .int .i64 a2, .int .i64 a3] w (BRes true w) := by
  obtain ⟨s0, p0, rfl, hn0, -⟩ := id b0
  obtain ⟨s1, p1, rfl, hn1, -⟩ := id b1
  have HT := Lib.hid ht
  have B0 := Lib.hid b0
  have B1 := Lib.hid b1
  clear ht b0 b1
  unfold BRes
  by_cases h2 : 100 < n0 ∨ 100 < n1
  · by_cases h3 : 100 < n0
    · have e1 : decide ((100 : Int) < (n0 : Int)) = true := decide_eq_true (by omega)
      go_enter Tryd.func6, Tryd.ntmps6
      go_wp2
      go_ret
      exact ⟨rfl, by (show Rel _ _; repeat (first | with_reducible exact Rel.refl _ | with_reducible refine Rel.alloc ?_ _ | with_reducible refine Rel.setCell ?_ (by first | (simp; done) | (simp; omega)) _ | with_reducible refine Rel.drew ?_ | with_reducible refine Rel.trans ?_ H0.out))⟩
    · have e1 : decide ((100 : Int) < (n0 : Int)) = false := decide_eq_false (by omega)
      have e2 : decide ((100 : Int) < (n1 : Int)) = true := decide_eq_true (by omega)
      go_enter Tryd.func6, Tryd.ntmps6
      go_wp2
      go_ret
      exact ⟨rfl, by (show Rel _ _; repeat (first | with_reducible exact Rel.refl _ | with_reducible refine Rel.alloc ?_ _ | with_reducible refine Rel.setCell ?_ (by first | (simp; done) | (simp; omega)) _ | with_reducible refine Rel.drew ?_ | with_reducible refine Rel.trans ?_ H0.out))⟩
  · have e1 : decide ((100 : Int) < (n0 : Int)) = false := decide_eq_false (by omega)
    have e2 : decide ((100 : Int) < (n1 : Int)) = false := decide_eq_false (by omega)
    have hi3 : (Tryd.prog.info? 34).map (fun i => (i.zero, i.size, i.bytes)) = some (some (.agg #[.int .i64 0, .int .i64 0, .int .i64 0, .int .i64 0, .string ByteArray.empty, .slice none 0 0]), 6, 72) := by kernel_rfl
    obtain ⟨i0, hi, hx⟩ := Option.map_eq_some_iff.1 hi3
    simp only [Prod.mk.injEq] at hx
    obtain ⟨hz0, hz1, hz2⟩ := hx
    have HI1 := Lib.hid hi
    have HZ0 := Lib.hid hz0
    have HZ1 := Lib.hid hz1
    have HZ2 := Lib.hid hz2
    clear hi3 hi hz0 hz1 hz2
    have P1 := Lib.hid fun w => pick_any a2 18 w b2 c2 (by decide) (by decide)
    obtain ⟨y, hy, hy0, hy4⟩ : ∃ y, a2 % 18 = y ∧ 0 ≤ y ∧ y < 18 := ⟨_, rfl, by omega, by omega⟩
    rw [hy] at P1
    obtain ⟨op, hop⟩ : ∃ op, 4 + y = op := ⟨_, rfl⟩
    have wy : IntKind.i64.wrap (4 + y) = op := by rw [← hop]; exact IntWalk.i64_in _ ⟨by omega, by omega⟩
    have hop0 : 4 ≤ op := by omega
    have hop1 : op ≤ 21 := by omega
    clear hy hop
    obtain ⟨N, hN, hN1, hN3⟩ : ∃ N : Nat, arI op = N ∧ 1 ≤ N ∧ N ≤ 3 := by
      unfold arI
      rcases (show op ≤ 6 ∨ (7 ≤ op ∧ op ≤ 20) ∨ op = 21 by omega) with h | h | h
      · exact ⟨1, by rw [if_neg (by omega), if_pos (by omega)]; rfl, by omega, by omega⟩
      · exact ⟨2, by rw [if_neg (by omega), if_neg (by omega), if_pos (by omega)]; rfl, by omega, by omega⟩
      · exact ⟨3, by rw [if_neg (by omega), if_neg (by omega), if_neg (by omega), if_pos h]; rfl, by omega, by omega⟩
    have AR := Lib.hid fun w => Args_any op w
    rw [hN] at AR
    have HN := Lib.hid hN
    clear hN
    go_enter Tryd.func6, Tryd.ntmps6
    go_wp2_with fail
    refine (P1.out _).mono ?_
    rintro e w1 ⟨rfl, rfl⟩
    go_wp2_with fail
    refine (AR.out _).mono ?_
    rintro e w1 ⟨rfl, rfl⟩
    go_wp2_with fail
    clear wy
    go_loopw [10, 11, 12] (fun ov i kv wx => ∃ (k : Nat) (L' : List (Ex × Value)) (ra : Option Addr) (rc : Nat), Hid (L'.length = k) ∧ k ≤ N ∧ i = .int .i64 k ∧ ov = .slice ra k rc ∧ Hid (∀ (i : Nat) (p : Ex × Value), L'[i]? = some p → MadeT i p) ∧ Hid (wx.ownsRow w.heap.size 34 6 (.slice ra k rc) k (celL L')) ∧ Hid (∀ (i : Nat) (p : Ex × Value), L'[i]? = some p → ExKidsB (fun q => w.heap.size ≤ q ∧ Value.ownBlock (.slice ra k rc) ≠ some q) p.1 wx p.2) ∧ Hid (Rel w wx)) (fun _ i _ _ => N - (intOf i).toNat)
    case atStart => exact ⟨0, [], none, 0, rfl, by omega, rfl, rfl, fun i p h => by simp at h, World.ownsRow_nil _ _ _ _, fun i p h => by simp at h, Rel.refl _⟩
    case round =>
      obtain ⟨k, L', ra, rc, hLk, hkn, rfl, rfl, hOk, hO, hKK, hR⟩ := hrel
      have rsz := hR.out.size
      by_cases hlt : k < N
      · have e3 : decide ((k : Int) < (N : Int)) = true := decide_eq_true (by omega)
        have hpb : n0 * k ≤ 100 * 3 := Nat.mul_le_mul (by omega) (by omega)
        obtain ⟨P, hP⟩ : ∃ P : Int, (n0 : Int) * (k : Int) = P := ⟨_, rfl⟩
        have hPc : ((n0 * k : Nat) : Int) = P := by rw [← hP]; simp
        have wm : IntKind.i64.wrap ((n0 : Int) * (k : Int)) = P := by rw [hP]; exact IntWalk.i64_in _ ⟨by omega, by omega⟩
        obtain ⟨K1, hK1, hK1n⟩ : ∃ K1 : Nat, Int.tdiv P (N : Int) = (K1 : Int) ∧ K1 ≤ n0 := by
          refine ⟨n0 * k / N, ?_, ?_⟩
          · rw [← hPc, Int.tdiv_eq_ediv_of_nonneg (by omega)]; rfl
          · refine Nat.div_le_of_le_mul ?_
            rw [Nat.mul_comm N]; exact Nat.mul_le_mul (Nat.le_refl _) (by omega)
        have wk : IntKind.i64.wrap (K1 : Int) = (K1 : Int) := IntWalk.i64_in _ ⟨by omega, by omega⟩
        have zN : ((N : Int) == 0) = false := by rw [beq_eq_false_iff_ne]; omega
        have zN' : ¬ (N : Int) = 0 := by omega
        have wk1 : IntKind.i64.wrap ((k : Int) + 1) = (k : Int) + 1 := IntWalk.i64_in _ ⟨by omega, by omega⟩
        have zk1 : ((k : Int) + 1 == 0) = false := by rw [beq_eq_false_iff_ne]; omega
        have zk1' : ¬ (k : Int) + 1 = 0 := by omega
        obtain ⟨Q, hQ, hQ0, hQ1⟩ : ∃ Q, Int.tdiv a3 ((k : Int) + 1) = Q ∧ -9223372036854775808 ≤ Q ∧ Q ≤ 9223372036854775807 := by
          refine ⟨_, rfl, ?_, ?_⟩
          · have h1 : (Int.tdiv a3 ((k : Int) + 1)).natAbs = a3.natAbs / ((k : Int) + 1).natAbs := Int.natAbs_tdiv a3 ((k : Int) + 1)
            have h2 := Nat.div_le_self a3.natAbs ((k : Int) + 1).natAbs
            omega
          · have h1 : (Int.tdiv a3 ((k : Int) + 1)).natAbs = a3.natAbs / ((k : Int) + 1).natAbs := Int.natAbs_tdiv a3 ((k : Int) + 1)
            have h2 := Nat.div_le_self a3.natAbs ((k : Int) + 1).natAbs
            by_cases h3 : k = 0
            · subst h3; simp; omega
            · have h4 : a3.natAbs / ((k : Int) + 1).natAbs ≤ a3.natAbs / 2 := Nat.div_le_div_left (by omega) (by omega)
              omega
        have wQ : IntKind.i64.wrap Q = Q := IntWalk.i64_in _ ⟨by omega, by omega⟩
        have P2 := Lib.hid fun w => pick_any Q 4 w (by omega) (by omega) (by decide) (by decide)
        obtain ⟨u, hu, hu0, hu4⟩ : ∃ u, Q % 4 = u ∧ 0 ≤ u ∧ u < 4 := ⟨_, rfl, by omega, by omega⟩
        rw [hu] at P2
        obtain ⟨v, hv⟩ : ∃ v, 1 + u = v := ⟨_, rfl⟩
        have wv : IntKind.i64.wrap (1 + u) = v := by rw [← hv]; exact IntWalk.i64_in _ ⟨by omega, by omega⟩
        have v1 : 1 ≤ v := by omega
        have v4 : v ≤ 4 := by omega
        clear hP hPc hu hv hpb
        go_wp2_with fail
        refine wp_region_calm (fun _ _ => True) (fun _ => false) [0, 1, 2, 3, 4, 5, 6, 7, 8, 9] 4 (by kernel_rfl) (by kernel_rfl) (fun _ _ _ _ _ => trivial) trivial (fun w0 h0 => ?_)
        iterate 8
          refine wpCalm_go rfl (by kernel_rfl) (fun K hK => ?_)
          apply Exists.intro
          refine ⟨fun M w hM hS => ?_, hK _ ?_⟩
          · unfold calmAt
            go_simp
            exact ⟨rfl, Rel.refl _⟩
          clear hK K
        refine wpCalm_go rfl (by kernel_rfl) (fun K hK => ?_)
        apply Exists.intro
        refine ⟨fun M w hM hS => ?_, hK _ ?_⟩
        · unfold calmAt
          go_simp
          with_reducible refine (P2.out _).mono ?_
          rintro e w1 ⟨rfl, rfl⟩
          exact ⟨rfl, Rel.refl _⟩
        clear hK K
        iterate 1
          refine wpCalm_go rfl (by kernel_rfl) (fun K hK => ?_)
          apply Exists.intro
          refine ⟨fun M w hM hS => ?_, hK _ ?_⟩
          · unfold calmAt
            go_simp
            exact ⟨rfl, Rel.refl _⟩
          clear hK K
        refine wpCalm_nil ?_
        have kz3 := h0.size
        (try simp only [World.size_alloc, World.size_setCell, World.size_drew] at kz3)
        have H3 := Lib.hid h0
        clear h0
        refine wpAnyR_ready (rs := [10]) (by kernel_rfl) (by simp) (AllR.cons rfl (fun w4 h4 K' hK' => ?_) AllR.nil)
        have kz4 := h4.size
        (try simp only [World.size_alloc, World.size_setCell, World.size_drew] at kz4)
        have H4 := Lib.hid h4
        clear h4
        go_simp
        refine (Expr_any _ (n0 - K1) v none 0 0 noNm noDm _ (ints_rel (ints_drop B0.out hK1n) (hR.out.trans (H3.out.trans H4.out))) (noAt _) (by decide) noEnv ⟨v1, v4⟩).mono ?_
        unfold TyRes
        rintro e w5 ⟨t, x, rfl, hK, hz, h5, hT⟩
        obtain ⟨xa, xc, rfl⟩ := kids_slice (kidsB_to hK)
        have HK := Lib.hid hK
        have HP := Lib.hid hT
        have R5 := Lib.hid ((H3.out.trans H4.out).trans h5)
        have sz5 := R5.out.size
        have sz4 := (H3.out.trans H4.out).size
        clear hK hT h5
        refine hK'.out _ _ trivial ?_
        clear hK' K'
        refine wpAnyR_ready (rs := [11]) (by kernel_rfl) (by simp) (AllR.cons rfl (fun w6 h6 K' hK' => ?_) AllR.nil)
        have kz6 := h6.size
        (try simp only [World.size_alloc, World.size_setCell, World.size_drew] at kz6)
        have H6 := Lib.hid h6
        clear h6
        go_simp
        refine hK'.out _ _ trivial ?_
        clear hK' K'
        refine wpAnyR_ready (rs := [12]) (by kernel_rfl) (by simp) (AllR.cons rfl (fun w7 h7 K' hK' => ?_) AllR.nil)
        have T7 := Lib.hid (((H6.out).alloc (.cells #[.int .i64 t.op, .int .i64 t.va, .int .i64 t.vb, .int .i64 t.dm, .string t.nm, .slice xa t.cnt xc] 34)).trans h7)
        have R7 := Lib.hid (R5.out.trans T7.out)
        have O7 := Lib.hid (own_rel hO.out R7.out)
        have N7 := Lib.hid (fun j u h => h7.cell (new6 w6 (t, .slice xa t.cnt xc) 34 j u h))
        have K7 := Lib.hid (kidsB_rel HK.out T7.out)
        clear h7
        rw [if_pos (by kernel_rfl)]
        refine wp_append_lies w7 (.tmp 44) (.tmp 55) 32 rfl w.heap.size 34 i0 (.agg #[.int .i64 0, .int .i64 0, .int .i64 0, .int .i64 0, .string ByteArray.empty, .slice none 0 0]) 6 72 Tryd.underlying32 HI1.out HZ0.out HZ1.out HZ2.out rfl (by decide) (.slice ra k rc) k (celL L') rfl O7.out ⟨w6.heap.size, 0, none⟩ 1 1 (cel (t, .slice xa t.cnt xc)) rfl rfl N7.out ?c2 (by decide) ?c3 ?c4 ?c5 w7.heap.size rfl ?_
        case c2 => intro u hu; simp [cel] at hu; rcases hu with rfl | rfl | rfl | rfl | rfl | rfl <;> rfl
        case c3 => unfold maxLen; omega
        case c4 => omega
        case c5 => have := R7.out.size; omega
        intro g2 cap2 w8 hown hgrow hat' hlt'
        have rb := hO.out.lt
        have R8 : Hid (Rel w w8) := Below.grown (hR.out.trans R7.out) hgrow (by have := R7.out.size; omega) (fun q hq => (rb q hq).1)
        have O8 := Lib.hid hown
        have K8 := Lib.hid (kids_grow (n := k + 1) (cap := cap2) R7.out hgrow (fun q hq => (rb q hq).2) hat' rsz hKK.out (p := (t, .slice xa t.cnt xc)) (kidsB_keep (Nat.le_refl _) (fun q _ hq => ⟨rfl, by omega⟩) K7.out))
        clear hown hgrow hat'
        refine hK'.out _ _ trivial ?_
        clear hK' K'
        refine wpAnyR_ready (rs := [13]) (by kernel_rfl) (by simp) (AllR.cons rfl (fun w9 h9 K' hK' => ?_) AllR.nil)
        have kz9 := h9.size
        (try simp only [World.size_alloc, World.size_setCell, World.size_drew] at kz9)
        have H9 := Lib.hid h9
        clear h9
        go_simp
        refine hK'.out _ _ trivial ?_
        clear hK' K'
        refine wpAnyR_end (by kernel_rfl) (fun w12 h12 => ?_)
        have T12 := Lib.hid (H9.out.trans h12)
        have R12 := Lib.hid (R8.out.trans T12.out)
        have O12 := Lib.hid (own_rel O8.out T12.out)
        have K12 := Lib.hid (fun (i : Nat) (p : Ex × Value) hp => kidsB_rel (K8.out i p hp) T12.out)
        clear h12
        go_wp2
        go_roundw
        case rel => exact ⟨k + 1, L' ++ [(t, .slice xa t.cnt xc)], some ⟨g2, 0, none⟩, cap2, (by show _ = _; rw [List.length_append, hLk.out]; rfl), by omega, by go_num, rfl, (by show ∀ (_ : Nat) (_ : Ex × Value), _ → _; exact all_snoc hLk.out hOk.out ⟨v, v1, v4, HP.out⟩), (by show World.ownsRow _ _ _ _ _ _ _; rw [celL_snoc]; exact O12.out), (by show ∀ (_ : Nat) (_ : Ex × Value), _ → _; exact K12.out), R12⟩
        case measure => simp [intOf]; omega
      · have : k = N := by omega
        subst this
        have e3 : decide ((k : Int) < (k : Int)) = false := decide_eq_false (by omega)
        obtain ⟨g, cap, hv, hgb, hgl⟩ := World.ownsRow.form hO.out (by omega)
        simp only [Value.slice.injEq] at hv
        obtain ⟨rfl, -, rfl⟩ := hv
        have P3 := Lib.hid fun w => pick_any a3 (k : Int) w b3 c3 (by omega) (by omega)
        obtain ⟨j, hj, hjk⟩ : ∃ j : Nat, a3 % (k : Int) = j ∧ j < k := by
          have m0 := Int.emod_nonneg a3 (show (k : Int) ≠ 0 by omega)
          have m1 := Int.emod_lt_of_pos a3 (show (0 : Int) < k by omega)
          exact ⟨(a3 % (k : Int)).toNat, by omega, by omega⟩
        rw [hj] at P3
        have hjki : (j : Int) < (k : Int) := by omega
        obtain ⟨⟨t, x⟩, hp⟩ : ∃ p, L'[j]? = some p := ⟨_, List.getElem?_eq_getElem (by have := hLk.out; omega)⟩
        obtain ⟨d, d1, d4, hT⟩ := hOk.out j _ hp
        have hKt := kidsB_to (hKK.out j _ hp)
        obtain ⟨xa, xc, hx⟩ := kids_slice hKt
        dsimp only at hx hT hKt
        subst hx
        have RW : Hid (RowAt wr g L') := fun m u hu => by
          have h2 := hO.out.cells (g := g) rfl m u hu
          have hadd : (⟨g, 0, none⟩ : Addr).add m = ⟨g, m, none⟩ := by unfold Addr.add; split <;> simp_all
          rwa [hadd] at h2
        obtain ⟨q0, q1, q2, q3, q4, q5⟩ := row_at RW.out hp
        dsimp only at q0 q1 q2 q3 q4 q5
        have HP := Lib.hid hp
        have HTy := Lib.hid hT
        have HKt := Lib.hid hKt
        have tz := valid_size hT.1
        have HV : Hid (infV t noNm noDm 0 = (d, 0)) := by
          show _ = _
          unfold infV
          rw [hT.1, envG_B noEnv]; exact hT.2
        have HZ : Hid (∀ (i : Nat) (p : Ex × Value), L'[i]? = some p → p.1.size ≤ 60) := fun i p hp => by
          obtain ⟨d', -, -, h⟩ := hOk.out i p hp
          exact valid_size h.1
        have HKb := Lib.hid hKK.out
        have HKa : Hid (∀ (i : Nat) (p : Ex × Value), L'[i]? = some p → ExKids p.1 wr p.2) := fun i p hp => kidsB_to (hKK.out i p hp)
        clear hp hT hKt hj
        go_wp2_with fail
        refine (P3.out _).mono ?_
        rintro e w1 ⟨rfl, rfl⟩
        go_wp2_with fail
        refine (Infer_any none 0 0 noNm noDm _ (noAt _) (by decide) t _ HKt.out (by omega) (HT.out.rel hR.out)).mono ?_
        unfold InfRes
        rw [HV.out]
        rintro e w2 ⟨rfl, h2⟩
        have T2 := Lib.hid h2
        clear h2 q0 q1 q2 q3 q4 q5
        go_wp2_with fail
        refine (awake_any _ (HT.out.rel (hR.out.trans T2.out))).mono ?_
        unfold BRes
        rintro e w3 ⟨rfl, h3⟩
        have T3 := Lib.hid (T2.out.trans h3)
        clear h3
        have hg3 : g < w3.heap.size := Nat.lt_of_lt_of_le hgl T3.out.size
        have R3 : Hid (RowAt w3 g L') := fun m u hu => T3.out.cell (RW.out m u hu)
        have K3 := Lib.hid (tree_row (cap := rc) (op := op) hLk.out (by omega) ⟨hop0, hop1⟩ hg3 R3.out (fun i p hp => kids_rel (HKa.out i p hp) T3.out))
        have Z3 := Lib.hid (tree_size (op := op) hLk.out (by omega) HZ.out)
        have z3 := Z3.out
        obtain ⟨T1, hT1⟩ : ∃ T, Ex.mk op 0 0 0 ⟨#[]⟩ k (kidL L') = T := ⟨_, rfl⟩
        have HT1 := Lib.hid hT1
        have ho1 : T1.op = op := by rw [← hT1]; rfl
        have ha1 : T1.va = 0 := by rw [← hT1]; rfl
        have hb1 : T1.vb = 0 := by rw [← hT1]; rfl
        have hd1 : T1.dm = 0 := by rw [← hT1]; rfl
        have hn1' : T1.nm = ⟨#[]⟩ := by rw [← hT1]; rfl
        rw [hT1] at K3 z3
        have I1 := Lib.hid (Infer_any none 0 0 noNm noDm w3 (noAt _) (by decide) T1 _ K3.out (by omega) (HT.out.rel (hR.out.trans T3.out)))
        rw [ho1, ha1, hb1, hd1, hn1'] at I1
        unfold InfRes at I1
        obtain ⟨x1, hx1⟩ : ∃ r, (infV T1 noNm noDm 0).1 = r := ⟨_, rfl⟩
        obtain ⟨y1, hy1⟩ : ∃ r, (infV T1 noNm noDm 0).2 = r := ⟨_, rfl⟩
        rw [hx1, hy1] at I1
        have HX1 := Lib.hid hx1
        have HY1 := Lib.hid hy1
        clear hT1 ho1 ha1 hb1 hd1 hn1' hx1 hy1 z3
        go_wp2_with fail
        refine I1.out.mono ?_
        rintro e w4 ⟨rfl, h4⟩
        have T4 := Lib.hid (T3.out.trans h4)
        clear h4
        have sz4 := T4.out.size
        go_wp2_with (at_builtin; refine wpList_append_lies _ rfl _ _ 32 rfl w.heap.size 34 i0 (.agg #[.int .i64 0, .int .i64 0, .int .i64 0, .int .i64 0, .string ByteArray.empty, .slice none 0 0]) 6 72 Tryd.underlying32 HI1.out HZ0.out HZ1.out HZ2.out rfl (by decide) (.slice none 0 0) 0 [] rfl (World.ownsRow_nil _ _ _ _) ⟨g, 0, none⟩ k rc (celL L') rfl ?c0 ?c1 ?c2 ?c7 ?c3 ?c4 ?c5 w4.heap.size ?c6 ?_)
        case c0 => rw [celL_len, hLk.out]
        case c1 => intro m u hu; have hadd : (⟨g, 0, none⟩ : Addr).add m = ⟨g, m, none⟩ := (by unfold Addr.add; split <;> simp_all); rw [hadd]; exact T4.out.cell (RW.out m u hu)
        case c2 => exact celL_one (fun i p hp => by obtain ⟨a, c, e⟩ := kids_slice (HKa.out i p hp); exact ⟨a, _, c, e⟩)
        case c7 => omega
        case c3 => unfold maxLen; omega
        case c4 => omega
        case c5 => omega
        case c6 => rfl
        intro g3 cap3 w5 hown hgrow hat' hlt'
        have hg3e : g3 = w4.heap.size := by simpa [Value.ownBlock] using hat'
        subst hg3e
        (try rw [List.nil_append] at hown)
        (try simp only [Nat.zero_add] at hown ⊢)
        have G5 : Hid (Rel w4 w5) := Below.grown (Rel.refl _) hgrow (Nat.le_refl _) (fun q hq => by simp [Value.ownBlock] at hq)
        have O5 := Lib.hid hown
        clear hown hgrow hat'
        have R5' := Lib.hid (hR.out.trans (T4.out.trans G5.out))
        go_wp2_with fail
        refine (Expr_any _ n1 d none 0 0 noNm noDm _ (ints_rel B1.out R5'.out) (noAt _) (by decide) noEnv ⟨d1, d4⟩).mono ?_
        unfold TyRes
        rintro e w6 ⟨t2, x2, rfl, hK2, hz2, h6, hT2⟩
        obtain ⟨xa2, xc2, rfl⟩ := kids_slice (kidsB_to hK2)
        have HK2 := Lib.hid hK2
        have HT2 := Lib.hid hT2
        have G6 := Lib.hid (G5.out.trans h6)
        have T6 := Lib.hid (T4.out.trans G6.out)
        have O6 := Lib.hid (own_rel O5.out h6)
        have sz5 := Nat.le_trans (Nat.le_of_lt hlt') h6.size
        have RW6 : Hid (RowAt w6 w4.heap.size L') := fun m u hu => by
          have h2 := O6.out.cells (g := w4.heap.size) rfl m u hu
          have hadd : (⟨w4.heap.size, 0, none⟩ : Addr).add m = ⟨w4.heap.size, m, none⟩ := by unfold Addr.add; split <;> simp_all
          rwa [hadd] at h2
        obtain ⟨q0, q1, q2, q3, q4, q5⟩ := row_at RW6.out HP.out
        dsimp only at q0 q1 q2 q3 q4 q5
        have f0 := World.ownsRow.frozenAt O6.out (j * 6)
        have f1 := World.ownsRow.frozenAt O6.out (j * 6 + 1)
        have f2 := World.ownsRow.frozenAt O6.out (j * 6 + 2)
        have f3 := World.ownsRow.frozenAt O6.out (j * 6 + 3)
        have f4 := World.ownsRow.frozenAt O6.out (j * 6 + 4)
        have f5 := World.ownsRow.frozenAt O6.out (j * 6 + 5)
        have sz6 : w4.heap.size ≤ w5.heap.size := G5.out.size
        have lt5 : w4.heap.size < w5.heap.size := hlt'
        have H6' := Lib.hid h6
        clear hK2 hT2 h6
        go_wp2_with fail
        have W7 : Hid (Rel w (putRow6 w6 w4.heap.size (j * 6) (.int .i64 t2.op) (.int .i64 t2.va) (.int .i64 t2.vb) (.int .i64 t2.dm) (.string t2.nm) (.slice xa2 t2.cnt xc2))) := by
          have hw : w.heap.size ≤ w4.heap.size := by omega
          exact (((((((hR.out.trans T6.out).setCell (p := ⟨w4.heap.size, j * 6, none⟩) hw _).setCell (p := ⟨w4.heap.size, j * 6 + 1, none⟩) hw _).setCell (p := ⟨w4.heap.size, j * 6 + 2, none⟩) hw _).setCell (p := ⟨w4.heap.size, j * 6 + 3, none⟩) hw _).setCell (p := ⟨w4.heap.size, j * 6 + 4, none⟩) hw _).setCell (p := ⟨w4.heap.size, j * 6 + 5, none⟩) hw _)
        have RW7 := Lib.hid (row_set (p := (t2, Value.slice xa2 t2.cnt xc2)) RW6.out HP.out)
        have hl7 : Hid ((L'.set j (t2, Value.slice xa2 t2.cnt xc2)).length = k) := by show _ = _; rw [List.length_set]; exact hLk.out
        have K7a : Hid (∀ (i : Nat) (p : Ex × Value), (L'.set j (t2, Value.slice xa2 t2.cnt xc2))[i]? = some p → ExKids p.1 (putRow6 w6 w4.heap.size (j * 6) (.int .i64 t2.op) (.int .i64 t2.va) (.int .i64 t2.vb) (.int .i64 t2.dm) (.string t2.nm) (.slice xa2 t2.cnt xc2)) p.2) := fun i p hp => by
          have key : ∀ q, q ≠ w4.heap.size → (putRow6 w6 w4.heap.size (j * 6) (.int .i64 t2.op) (.int .i64 t2.va) (.int .i64 t2.vb) (.int .i64 t2.dm) (.string t2.nm) (.slice xa2 t2.cnt xc2)).heap[q]? = w6.heap[q]? := fun q hne => by
            unfold putRow6
            rw [Below.heap_setCell _ _ _ _ hne, Below.heap_setCell _ _ _ _ hne, Below.heap_setCell _ _ _ _ hne, Below.heap_setCell _ _ _ _ hne, Below.heap_setCell _ _ _ _ hne, Below.heap_setCell _ _ _ _ hne]
          have hsz : w6.heap.size ≤ (putRow6 w6 w4.heap.size (j * 6) (.int .i64 t2.op) (.int .i64 t2.va) (.int .i64 t2.vb) (.int .i64 t2.dm) (.string t2.nm) (.slice xa2 t2.cnt xc2)).heap.size := by unfold putRow6; simp [World.setCell]
          by_cases hij : i = j
          · subst hij
            rw [List.getElem?_set_self (by have := hLk.out; omega)] at hp
            cases hp
            exact kidsB_to (kidsB_keep (Q := fun _ => True) hsz (fun q _ hq => ⟨key q (by have hq' : w5.heap.size ≤ q := hq; omega), trivial⟩) HK2.out)
          · rw [List.getElem?_set_ne (fun e => hij e.symm)] at hp
            have h4 := kidsB_old (kidsB_rel (HKb.out i p hp) T4.out)
            exact kidsB_to (kidsB_keep (Q := fun _ => True) hsz (fun q _ hq => ⟨key q (by have hq' : q < w4.heap.size := hq; omega), trivial⟩) (kidsB_rel h4 G6.out))
        have hg7 : w4.heap.size < (putRow6 w6 w4.heap.size (j * 6) (.int .i64 t2.op) (.int .i64 t2.va) (.int .i64 t2.vb) (.int .i64 t2.dm) (.string t2.nm) (.slice xa2 t2.cnt xc2)).heap.size := Nat.lt_of_lt_of_le (show w4.heap.size < w6.heap.size from Nat.lt_of_lt_of_le lt5 H6'.out.size) (by unfold putRow6; simp [World.setCell])
        have K7 := Lib.hid (tree_row (cap := cap3) (op := op) hl7.out (by omega) ⟨hop0, hop1⟩ hg7 RW7.out K7a.out)
        have z7 := tree_size (op := op) hl7.out (by omega) (fun i p hp => by
          by_cases hij : i = j
          · subst hij
            rw [List.getElem?_set_self (by have := hLk.out; omega)] at hp
            cases hp
            exact hz2
          · rw [List.getElem?_set_ne (fun e => hij e.symm)] at hp
            exact HZ.out i p hp)
        have FIN := repl_fin (op := op) (q := (t2, Value.slice xa2 t2.cnt xc2)) hop0 hLk.out HP.out HTy.out.2 HT2.out.2
        rw [HT1.out] at FIN
        obtain ⟨T2', hT2'⟩ : ∃ T, Ex.mk op 0 0 0 ⟨#[]⟩ k (kidL (L'.set j (t2, Value.slice xa2 t2.cnt xc2))) = T := ⟨_, rfl⟩
        have ho1 : T2'.op = op := by rw [← hT2']; rfl
        have ha1 : T2'.va = 0 := by rw [← hT2']; rfl
        have hb1 : T2'.vb = 0 := by rw [← hT2']; rfl
        have hd1 : T2'.dm = 0 := by rw [← hT2']; rfl
        have hn1' : T2'.nm = ⟨#[]⟩ := by rw [← hT2']; rfl
        rw [hT2'] at K7 z7 FIN
        have I2 := Lib.hid (Infer_any none 0 0 noNm noDm _ (noAt _) (by decide) T2' _ K7.out (by omega) (HT.out.rel W7.out))
        rw [ho1, ha1, hb1, hd1, hn1'] at I2
        unfold InfRes at I2
        have hp1 : infV T1 noNm noDm 0 = (x1, y1) := Prod.ext HX1.out HY1.out
        obtain ⟨x2', hx2⟩ : ∃ r, (infV T2' noNm noDm 0).1 = r := ⟨_, rfl⟩
        obtain ⟨y2', hy2⟩ : ∃ r, (infV T2' noNm noDm 0).2 = r := ⟨_, rfl⟩
        have hp2 : infV T2' noNm noDm 0 = (x2', y2') := Prod.ext hx2 hy2
        rw [hp1, hp2] at FIN
        rw [hx2, hy2] at I2
        clear hT2' ho1 ha1 hb1 hd1 hn1' hx2 hy2 hp1 hp2 z7 q0 q1 q2 q3 q4 q5 f0 f1 f2 f3 f4 f5
        refine I2.out.mono ?_
        rintro e w8 ⟨rfl, h8⟩
        have R8 := Lib.hid (W7.out.trans h8)
        clear h8
        have FF : y1 = 1 ∨ (¬ y1 = 1 ∧ y2' = 1) ∨ (¬ y1 = 1 ∧ ¬ y2' = 1 ∧ x1 = x2' ∧ y1 = y2') := by
          rcases FIN with h | h | h
          · exact .inl h
          · by_cases h1 : y1 = 1
            · exact .inl h1
            · exact .inr (.inl ⟨h1, h⟩)
          · cases h
            by_cases h1 : y1 = 1
            · exact .inl h1
            · exact .inr (.inr ⟨h1, h1, rfl, rfl⟩)
        clear FIN
        rcases FF with rfl | ⟨h1, rfl⟩ | ⟨h1, -, rfl, rfl⟩
        · go_wp2
          go_ret
          exact ⟨rfl, R8.out⟩
        · have e5 : (y1 == 1) = false := by rw [beq_eq_false_iff_ne]; exact h1
          go_wp2
          go_ret
          exact ⟨rfl, R8.out⟩
        · have e5 : (y1 == 1) = false := by rw [beq_eq_false_iff_ne]; exact h1
          go_wp2
          go_ret
          exact ⟨ret_b2 (by simp), R8.out⟩

end Go.Proofs.YtnhmebhmlbofgaaDoor

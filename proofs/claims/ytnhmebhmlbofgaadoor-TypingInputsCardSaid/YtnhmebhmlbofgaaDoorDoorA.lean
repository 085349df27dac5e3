/- The library's variables that are listed, and contracts of Itoa, Atoi, Cut at a slash, and of both Formats. No conditions but those printed. -/
import Derived.Test.YtnhmebhmlbofgaaDoorRatTxt
import Derived.Test.YtnhmebhmlbofgaaDoorCalS
import Derived.Test.YtnhmebhmlbofgaaDoorRatJ
import Derived.Test.YtnhmebhmlbofgaaDoorTokB
import Derived.Lib.AppendIntMem

namespace Go.Proofs.YtnhmebhmlbofgaaDoor
open Go.RowKit Cal Str Tok Frac Txt
attribute [local go_sem] calmUpon
set_option linter.unusedVariables false
set_option linter.unusedSimpArgs false

/-- The table of powers of ten, and the two errors. -/
def TabW (w : World) : Prop := Lib.TabIs Tryd.prog w "internal/strconv.uint64pow10" .u64 Lib.pow10Tab
def ErrW (w : World) : Prop := (∃ tp p, w.var? Tryd.prog "strconv.ErrSyntax" = some #[.iface tp p]) ∧ (∃ tp p, w.var? Tryd.prog "strconv.ErrRange" = some #[.iface tp p])
theorem var_rel {w w' : World} (r : Rel w w') {P : Program} {name : String} {cs : Array Value} (h : w.var? P name = some cs) : w'.var? P name = some cs := by
  unfold World.var? at h ⊢
  cases hg : P.globalNamed name with
  | none => rw [hg] at h; exact h
  | some g =>
    rw [hg] at h
    simp only [Option.bind_some] at h ⊢
    have hlt : g < w.heap.size := by
      rcases Nat.lt_or_ge g w.heap.size with h' | h'
      · exact h'
      · rw [Array.getElem?_eq_none h'] at h; cases h
    rw [Below.block r g hlt]; exact h
theorem TabW.rel {w w' : World} (h : TabW w) (r : Rel w w') : TabW w' := by
  unfold TabW Lib.TabIs at *
  exact var_rel r h
theorem ErrW.rel {w w' : World} (h : ErrW w) (r : Rel w w') : ErrW w' := by
  obtain ⟨⟨t, p, h1⟩, ⟨t', p', h2⟩⟩ := h
  exact ⟨⟨t, p, var_rel r h1⟩, ⟨t', p', var_rel r h2⟩⟩

theorem itoa_any (n : Int) (w : World) (ht : TabW w) (h0 : -1000000000000000000 ≤ n) (h1 : n ≤ 1000000000000000000) :
    Calls Tryd.prog 72 #[.int .i64 n] w fun e w' => e = .returned (.string (numS n)) ∧ Rel w w' := by
  refine (Tryd.strconv_Itoa n (by omega) (by omega) w ht).mono ?_
  rintro e w' ⟨he, k, os, rfl⟩
  rw [itoa_numL n h0 h1] at he
  exact ⟨he, Lib.below_grow _ _ (Nat.le_refl _) _ _⟩

theorem ret_str {a b : ByteArray} (h : a = b) : Ending.returned (.string a) = .returned (.string b) := by rw [h]
def StrRes (t : ByteArray) (w : World) (e : Ending) (w' : World) : Prop := e = .returned (.string t) ∧ Rel w w'

theorem dgt_numL (n : Int) (h : 0 ≤ n) : dgt n 1 = numS n := by
  unfold dgt numS numL; rw [if_neg (by omega), show n.toNat = n.natAbs by omega]; rfl
theorem neg_numL (n : Int) (h : n < 0) : (⟨#[45]⟩ : ByteArray) ++ dgt (n.natAbs : Int) 1 = numS n := by
  apply ba_ext
  unfold dgt numS numL; rw [if_pos h, show ((n.natAbs : Int)).toNat = n.natAbs by omega]; simp

set_option maxHeartbeats 4000000 in
theorem rFormat_any (n d : Int) (w : World) (n0 : -9223372036854775808 ≤ n) (n1 : n ≤ 9223372036854775807) (d0 : -9223372036854775808 ≤ d) (d1 : d ≤ 9223372036854775807) :
    Calls Tryd.prog 70 #[.agg #[.int .i64 n, .int .i64 d]] w (StrRes (fmtS n d) w) := by
  unfold StrRes
  have z2 := numS_size d
  have V := Lib.hid fun w => rvalid_any n d w n0 n1 d0 d1
  cases hv : validB n d
  · rw [fmt_no hv]
    rw [hv] at V
    clear hv
    go_enter Tryd.func70, Tryd.ntmps70
    go_wp2_with fail
    refine (V.out _).mono ?_
    unfold BRes
    rintro e w1 ⟨rfl, h1⟩
    have q := keep2 h1 (b := w.heap.size) (by first | (simp; done) | (simp; omega) | omega)
    have kc1_0_0 := q.1
    have kc1_0_1 := q.2.1
    have kf1_0_0 := q.2.2.1
    have kf1_0_1 := q.2.2.2.1
    have kl1_0 := q.2.2.2.2.1
    have kn1_0 := q.2.2.2.2.2.1
    have km1_0 := q.2.2.2.2.2.2
    clear q
    have kz1 := h1.size
    (try simp only [World.size_alloc, World.size_setCell, World.size_drew] at kz1)
    have H1 := Lib.hid h1
    clear h1
    go_wp2
    go_ret
    exact ⟨rfl, by (show Rel _ _; repeat (first | with_reducible exact Rel.refl _ | with_reducible refine Rel.alloc ?_ _ | with_reducible refine Rel.setCell ?_ (by first | (simp; done) | (simp; omega)) _ | with_reducible refine Rel.drew ?_ | with_reducible refine Rel.trans ?_ H1.out | with_reducible refine Rel.trans ?_ H0.out))⟩
  · have b := valid_bd hv
    rw [hv] at V
    have hdd : dgt d 1 = numS d := dgt_numL d (by omega)
    obtain ⟨D, hD⟩ : ∃ D, dgt d 1 = D := ⟨_, rfl⟩
    have SZ := Lib.hid fun w => rsize_any n w n0 n1
    have DG := Lib.hid fun w => rdigits_any (n.natAbs : Int) 1 w (by omega) (by omega) (by omega) (by omega)
    have DD := Lib.hid fun w => rdigits_any d 1 w (by omega) (by omega) (by omega) (by omega)
    have bn : 0 ≤ (n.natAbs : Int) ∧ (n.natAbs : Int) ≤ 1000000000000000 := by omega
    obtain ⟨m, hm⟩ : ∃ m, (n.natAbs : Int) = m := ⟨_, rfl⟩
    have hneg := fun h => neg_numL n h
    have hpos : 0 ≤ n → dgt m 1 = numS n := fun h => by rw [← hm, show (n.natAbs : Int) = n by omega]; exact dgt_numL n h
    rw [hm] at SZ DG hneg bn
    obtain ⟨G, hG⟩ : ∃ G, dgt m 1 = G := ⟨_, rfl⟩
    have zG : G.size ≤ 40 := by rw [← hG]; exact dgt_size _ _
    have e45 : (⟨#[45]⟩ : ByteArray).size = 1 := rfl
    have zG2 : ((⟨#[45]⟩ : ByteArray) ++ G).size ≤ 41 := by rw [ByteArray.size_append]; omega
    rw [hG] at DG hneg hpos
    rw [hdd] at DD
    have b1 := bn.1
    have b2 := bn.2
    by_cases hd : d = 1
    · rw [fmt_1 hv hd]
      by_cases hn : n < 0
      · have EQ := Lib.hid (hneg hn)
        subst hd
        clear hv hm hneg hpos hG hdd hD bn e45
        go_enter Tryd.func70, Tryd.ntmps70
        go_wp2_with fail
        refine (V.out _).mono ?_
        unfold BRes
        rintro e w1 ⟨rfl, h1⟩
        have q := keep2 h1 (b := w.heap.size) (by first | (simp; done) | (simp; omega) | omega)
        have kc1_0_0 := q.1
        have kc1_0_1 := q.2.1
        have kf1_0_0 := q.2.2.1
        have kf1_0_1 := q.2.2.2.1
        have kl1_0 := q.2.2.2.2.1
        have kn1_0 := q.2.2.2.2.2.1
        have km1_0 := q.2.2.2.2.2.2
        clear q
        have kz1 := h1.size
        (try simp only [World.size_alloc, World.size_setCell, World.size_drew] at kz1)
        have H1 := Lib.hid h1
        clear h1
        go_wp2_with fail
        refine (SZ.out _).mono ?_
        rintro e w2 ⟨rfl, rfl⟩
        go_wp2_with fail
        refine (DG.out _).mono ?_
        rintro e w2 ⟨rfl, rfl⟩
        go_wp2
        go_ret
        exact ⟨ret_str EQ.out, by (show Rel _ _; repeat (first | with_reducible exact Rel.refl _ | with_reducible refine Rel.alloc ?_ _ | with_reducible refine Rel.setCell ?_ (by first | (simp; done) | (simp; omega)) _ | with_reducible refine Rel.drew ?_ | with_reducible refine Rel.trans ?_ H1.out | with_reducible refine Rel.trans ?_ H0.out))⟩
      · have EQ := Lib.hid (hpos (by omega))
        subst hd
        clear hv hm hneg hpos hG hdd hD bn e45
        go_enter Tryd.func70, Tryd.ntmps70
        go_wp2_with fail
        refine (V.out _).mono ?_
        unfold BRes
        rintro e w1 ⟨rfl, h1⟩
        have q := keep2 h1 (b := w.heap.size) (by first | (simp; done) | (simp; omega) | omega)
        have kc1_0_0 := q.1
        have kc1_0_1 := q.2.1
        have kf1_0_0 := q.2.2.1
        have kf1_0_1 := q.2.2.2.1
        have kl1_0 := q.2.2.2.2.1
        have kn1_0 := q.2.2.2.2.2.1
        have km1_0 := q.2.2.2.2.2.2
        clear q
        have kz1 := h1.size
        (try simp only [World.size_alloc, World.size_setCell, World.size_drew] at kz1)
        have H1 := Lib.hid h1
        clear h1
        go_wp2_with fail
        refine (SZ.out _).mono ?_
        rintro e w2 ⟨rfl, rfl⟩
        go_wp2_with fail
        refine (DG.out _).mono ?_
        rintro e w2 ⟨rfl, rfl⟩
        go_wp2
        go_ret
        exact ⟨ret_str EQ.out, by (show Rel _ _; repeat (first | with_reducible exact Rel.refl _ | with_reducible refine Rel.alloc ?_ _ | with_reducible refine Rel.setCell ?_ (by first | (simp; done) | (simp; omega)) _ | with_reducible refine Rel.drew ?_ | with_reducible refine Rel.trans ?_ H1.out | with_reducible refine Rel.trans ?_ H0.out))⟩
    · rw [fmt_2 hv hd]
      have hdn : (d != 1) = true := by simpa using hd
      by_cases hn : n < 0
      · have EQ := Lib.hid (hneg hn)
        clear hv hm hneg hpos hG hdd hD bn hd e45
        go_enter Tryd.func70, Tryd.ntmps70
        go_wp2_with fail
        refine (V.out _).mono ?_
        unfold BRes
        rintro e w1 ⟨rfl, h1⟩
        have q := keep2 h1 (b := w.heap.size) (by first | (simp; done) | (simp; omega) | omega)
        have kc1_0_0 := q.1
        have kc1_0_1 := q.2.1
        have kf1_0_0 := q.2.2.1
        have kf1_0_1 := q.2.2.2.1
        have kl1_0 := q.2.2.2.2.1
        have kn1_0 := q.2.2.2.2.2.1
        have km1_0 := q.2.2.2.2.2.2
        clear q
        have kz1 := h1.size
        (try simp only [World.size_alloc, World.size_setCell, World.size_drew] at kz1)
        have H1 := Lib.hid h1
        clear h1
        go_wp2_with fail
        refine (SZ.out _).mono ?_
        rintro e w2 ⟨rfl, rfl⟩
        go_wp2_with fail
        refine (DG.out _).mono ?_
        rintro e w2 ⟨rfl, rfl⟩
        go_wp2_with fail
        refine (DD.out _).mono ?_
        rintro e w2 ⟨rfl, rfl⟩
        go_wp2
        go_ret
        exact ⟨ret_str (by rw [EQ.out, ByteArray.append_assoc]), by (show Rel _ _; repeat (first | with_reducible exact Rel.refl _ | with_reducible refine Rel.alloc ?_ _ | with_reducible refine Rel.setCell ?_ (by first | (simp; done) | (simp; omega)) _ | with_reducible refine Rel.drew ?_ | with_reducible refine Rel.trans ?_ H1.out | with_reducible refine Rel.trans ?_ H0.out))⟩
      · have EQ := Lib.hid (hpos (by omega))
        clear hv hm hneg hpos hG hdd hD bn hd e45
        go_enter Tryd.func70, Tryd.ntmps70
        go_wp2_with fail
        refine (V.out _).mono ?_
        unfold BRes
        rintro e w1 ⟨rfl, h1⟩
        have q := keep2 h1 (b := w.heap.size) (by first | (simp; done) | (simp; omega) | omega)
        have kc1_0_0 := q.1
        have kc1_0_1 := q.2.1
        have kf1_0_0 := q.2.2.1
        have kf1_0_1 := q.2.2.2.1
        have kl1_0 := q.2.2.2.2.1
        have kn1_0 := q.2.2.2.2.2.1
        have km1_0 := q.2.2.2.2.2.2
        clear q
        have kz1 := h1.size
        (try simp only [World.size_alloc, World.size_setCell, World.size_drew] at kz1)
        have H1 := Lib.hid h1
        clear h1
        go_wp2_with fail
        refine (SZ.out _).mono ?_
        rintro e w2 ⟨rfl, rfl⟩
        go_wp2_with fail
        refine (DG.out _).mono ?_
        rintro e w2 ⟨rfl, rfl⟩
        go_wp2_with fail
        refine (DD.out _).mono ?_
        rintro e w2 ⟨rfl, rfl⟩
        go_wp2
        go_ret
        exact ⟨ret_str (by rw [EQ.out, ByteArray.append_assoc]), by (show Rel _ _; repeat (first | with_reducible exact Rel.refl _ | with_reducible refine Rel.alloc ?_ _ | with_reducible refine Rel.setCell ?_ (by first | (simp; done) | (simp; omega)) _ | with_reducible refine Rel.drew ?_ | with_reducible refine Rel.trans ?_ H1.out | with_reducible refine Rel.trans ?_ H0.out))⟩

end Go.Proofs.YtnhmebhmlbofgaaDoor

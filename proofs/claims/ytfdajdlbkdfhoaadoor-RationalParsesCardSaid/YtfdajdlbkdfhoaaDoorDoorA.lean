/- The library's variables that are listed, and contracts of Itoa, Atoi, Cut at a slash, and of both Formats. No conditions but those printed. -/
import Derived.Test.YtfdajdlbkdfhoaaDoorRatTxt
import Derived.Test.YtfdajdlbkdfhoaaDoorCalS
import Derived.Test.YtfdajdlbkdfhoaaDoorRatJ
import Derived.Test.YtfdajdlbkdfhoaaDoorTokB
import Derived.Lib.AppendIntMem
import Derived.Lib.AtoiErrMem
namespace Go.Proofs.YtfdajdlbkdfhoaaDoor
open Go.RowKit Cal Str Tok Frac Txt
attribute [local go_sem] calmUpon
set_option linter.unusedVariables false
set_option linter.unusedSimpArgs false

/-- The table of powers of ten, and the two errors. -/
def TabW (w : World) : Prop := Lib.TabIs Tryd.prog w "internal/strconv.uint64pow10" .u64 Lib.pow10Tab
def ErrW (w : World) : Prop := (∃ tp p, w.var? Tryd.prog "strconv.ErrSyntax" = some #[.iface tp p]) ∧ (∃ tp p, w.var? Tryd.prog "strconv.ErrRange" = some #[.iface tp p])
theorem var_rel {w w' : World} (r : Rel w w') {P : Program} {name : String} {cs : Array Value} (h : w.var? P name = some cs) : w'.var? P name = some cs := by
  unfold World.var? at h ⊢
  cases hg : P.globalNamed name with
  | none => rw [hg] at h; exact h
  | some g =>
    rw [hg] at h
    simp only [Option.bind_some] at h ⊢
    have hlt : g < w.heap.size := by
      rcases Nat.lt_or_ge g w.heap.size with h' | h'
      · exact h'
      · rw [Array.getElem?_eq_none h'] at h; cases h
    rw [Below.block r g hlt]; exact h
theorem TabW.rel {w w' : World} (h : TabW w) (r : Rel w w') : TabW w' := by
  unfold TabW Lib.TabIs at *
  exact var_rel r h
theorem ErrW.rel {w w' : World} (h : ErrW w) (r : Rel w w') : ErrW w' := by
  obtain ⟨⟨t, p, h1⟩, ⟨t', p', h2⟩⟩ := h
  exact ⟨⟨t, p, var_rel r h1⟩, ⟨t', p', var_rel r h2⟩⟩

theorem itoa_any (n : Int) (w : World) (ht : TabW w) (h0 : -1000000000000000000 ≤ n) (h1 : n ≤ 1000000000000000000) :
    Calls Tryd.prog 21 #[.int .i64 n] w fun e w' => e = .returned (.string (numS n)) ∧ Rel w w' := by
  refine (Tryd.strconv_Itoa n (by omega) (by omega) w ht).mono ?_
  rintro e w' ⟨he, k, os, rfl⟩
  rw [itoa_numL n h0 h1] at he
  exact ⟨he, Lib.below_grow _ _ (Nat.le_refl _) _ _⟩

/-- What Atoi returns: a number, and an error or none. -/
def AtoiRes (s : ByteArray) (w : World) (e : Ending) (w' : World) : Prop :=
  (∃ v : Int, Lib.atoiAll s.data.toList = .ok v ∧ e = .returned (.tuple #[.int .i64 v, .nilIface]) ∧ Rel w w') ∨
  ((∀ v : Int, Lib.atoiAll s.data.toList ≠ .ok v) ∧ ∃ (v : Int) (tp : TypeId) (p : Value), e = .returned (.tuple #[.int .i64 v, .iface tp p]) ∧ Rel w w')
theorem atoi_any (s : ByteArray) (w : World) (hs : s.size ≤ 140737488355328) (he : ErrW w) : Calls Tryd.prog 26 #[.string s] w (AtoiRes s w) := by
  obtain ⟨⟨t1, p1, e1⟩, ⟨t2, p2, e2⟩⟩ := he
  by_cases hok : ∃ v, Lib.atoiAll s.data.toList = .ok v
  · obtain ⟨v, h⟩ := hok
    refine (Tryd.strconv_Atoi_ok s (by omega) v h w).mono ?_
    rintro e w' ⟨rfl, hw⟩
    refine .inl ⟨v, h, rfl, ?_⟩
    rcases hw with rfl | ⟨t, rfl⟩
    · exact Rel.refl _
    · exact Lib.bytesWorld_below _ _ _
  · have hno : ∀ v, Lib.atoiAll s.data.toList ≠ .ok v := fun v hv => hok ⟨v, hv⟩
    by_cases h : Lib.atoiAll s.data.toList = .range
    · refine (Tryd.strconv_Atoi_range_var s (by omega) h t2 p2 w e2).mono ?_
      rintro e w' ⟨N, rfl, _, _, hb⟩
      exact .inr ⟨hno, _, _, _, rfl, hb⟩
    · refine (Tryd.strconv_Atoi_syn_var s (by omega) ⟨hno, h⟩ t1 p1 w e1).mono ?_
      rintro e w' ⟨N, rfl, _, _, hb⟩
      exact .inr ⟨hno, _, _, _, rfl, hb⟩

def asS (s : ByteArray) : ByteArray := ⟨(ahs s.data.toList).toArray⟩
def bsS (s : ByteArray) : ByteArray := ⟨(bhs s.data.toList).toArray⟩
theorem index47_any (s : ByteArray) (w : World) : Calls Tryd.prog 46 #[.string s, .string ⟨#[47]⟩] w fun e w' => e = .returned (.int .i64 (Lib.indexByte s.data.toList 47)) ∧ w = w' :=
  (Tryd.stringslite_Index_one s 47 w).mono fun e w' ⟨a, b⟩ => ⟨a, b.symm⟩
theorem asS_take (s : ByteArray) {n : Nat} (h : (ahs s.data.toList).length = n) : s.extract 0 n = asS s := by
  apply ba_ext
  rw [ext_data, asS, mk_list, ← h, List.drop_zero, Nat.sub_zero, as_take]
theorem bsS_drop (s : ByteArray) {n : Nat} (hp : pns s.data.toList = true) (h : (ahs s.data.toList).length = n) : s.extract (n + 1) s.size = bsS s := by
  apply ba_ext
  rw [ext_data, bsS, mk_list, ← h, bs_drop hp]
  apply List.take_of_length_le
  have hl := size_list s
  have h3 := congrArg List.length (pns_split hp)
  simp only [List.length_append, List.length_cons] at h3
  omega
theorem noSs (s : ByteArray) (hp : pns s.data.toList = false) : asS s = s ∧ bsS s = ⟨#[]⟩ := by
  have := bhs_no hp
  exact ⟨ba_ext (by rw [asS, mk_list, this.2]), ba_ext (by rw [bsS, mk_list, this.1])⟩

set_option maxHeartbeats 1000000 in
theorem cut47_one (s : ByteArray) (w : World) (hs : s.size ≤ maxLen) :
    Calls Tryd.prog 34 #[.string s, .string ⟨#[47]⟩] w fun e w' => e = .returned (.tuple #[.string (asS s), .string (bsS s), .bool (pns s.data.toList)]) ∧ Rel w w' := by
  unfold maxLen at hs
  obtain ⟨B, hB⟩ : ∃ B, pns s.data.toList = B := ⟨_, rfl⟩
  rcases idx_pns s.data.toList with ⟨hp, hi⟩ | ⟨hp, hi, hl⟩
  · have hr := Lib.hid (noSs s hp)
    rw [hp] at hB
    subst hB
    rw [hp]
    have hI := Lib.hid hi
    clear hp hi
    go_enter Tryd.func34, Tryd.ntmps34
    go_wp2_with (go_at_call 46; refine (index47_any _ _).mono ?_; rw [hI.out]; rintro e w1 ⟨rfl, rfl⟩)
    refine bodyPost_ret ?_ rfl ⟨rfl, Rel.refl _⟩
    rw [hr.out.1, hr.out.2]
    simp [results, Tryd.results34, go_sem]
  · obtain ⟨n, hn⟩ : ∃ n, (ahs s.data.toList).length = n := ⟨_, rfl⟩
    have hlen := size_list s
    rw [hn] at hi hl
    rw [hlen] at hl
    have e1 := Lib.hid (asS_take s hn)
    have e2 := Lib.hid (bsS_drop s hp hn)
    rw [hp]
    have hI := Lib.hid hi
    clear hp hi hn hlen hB
    have q1 : IntKind.i64.wrap ((n : Int) + 1) = (n : Int) + 1 := IntWalk.i64_in _ ⟨by omega, by omega⟩
    have q2 : ((n : Int) + 1).toNat = n + 1 := by omega
    have q3 : (0 : Int) ≤ (n : Int) + 1 := by omega
    have q4 : (n : Int) + 1 ≤ (s.size : Int) := by omega
    have q5 : (n : Int) ≤ (s.size : Int) := by omega
    go_enter Tryd.func34, Tryd.ntmps34
    go_wp2_with (go_at_call 46; refine (index47_any _ _).mono ?_; rw [hI.out]; rintro e w1 ⟨rfl, rfl⟩)
    refine wp_region_calm (fun _ _ => True) (fun _ => false) [0, 1, 2, 3, 4, 5, 6, 7, 8, 9, 10, 11] 0 (by kernel_rfl) (by kernel_rfl) (fun _ _ _ _ _ => trivial) trivial (fun w0 h0 => ?_)
    iterate 12
      refine wpCalm_go rfl (by kernel_rfl) (fun K hK => ?_)
      apply Exists.intro
      refine ⟨fun M w hM hS => ?_, hK _ ?_⟩
      · unfold calmAt
        go_simp
        exact ⟨rfl, Rel.refl _⟩
      clear hK K
    refine wpCalm_nil (wpAnyR_end (by kernel_rfl) (fun w1 h1 => ?_))
    simp only [Act.put, List.setIfInBounds_toArray, List.set_cons_zero, List.set_cons_succ]
    go_wp2
    refine bodyPost_ret ?_ rfl ⟨rfl, h0.trans h1⟩
    rw [← e1.out, ← e2.out]
    simp [results, Tryd.results34, go_sem]
theorem cut47_any (s : ByteArray) (w : World) (hs : s.size ≤ maxLen) :
    Calls Tryd.prog 23 #[.string s, .string ⟨#[47]⟩] w fun e w' => e = .returned (.tuple #[.string (asS s), .string (bsS s), .bool (pns s.data.toList)]) ∧ Rel w w' := by
  go_enter Tryd.func23, Tryd.ntmps23
  go_wp2_with (go_at_call 34; refine (cut47_one _ _ hs).mono ?_; rintro e w1 ⟨rfl, hb⟩)
  refine bodyPost_ret ?_ rfl ⟨rfl, hb⟩
  simp [results, Tryd.results23, go_sem]

theorem ret_str {a b : ByteArray} (h : a = b) : Ending.returned (.string a) = .returned (.string b) := by rw [h]
def StrRes (t : ByteArray) (w : World) (e : Ending) (w' : World) : Prop := e = .returned (.string t) ∧ Rel w w'

set_option maxHeartbeats 4000000 in
theorem Format_any (n d : Int) (w : World) (ht : TabW w) (n0 : -9223372036854775808 ≤ n) (n1 : n ≤ 9223372036854775807) (d0 : -9223372036854775808 ≤ d) (d1 : d ≤ 9223372036854775807) :
    Calls Tryd.prog 13 #[.agg #[.int .i64 n, .int .i64 d]] w (StrRes (fmtS n d) w) := by
  unfold StrRes
  have z1 := numS_size n
  have z2 := numS_size d
  have z3 : ((⟨#[47]⟩ : ByteArray) ++ numS d).size ≤ 42 := by
    have e1 : (⟨#[47]⟩ : ByteArray).size = 1 := rfl
    rw [ByteArray.size_append]; omega
  have V := Lib.hid fun w => valid_any n d w n0 n1 d0 d1
  cases hv : validB n d
  · rw [fmt_no hv]
    rw [hv] at V
    clear hv
    go_enter Tryd.func13, Tryd.ntmps13
    go_wp2_with fail
    refine (V.out _).mono ?_
    unfold BRes
    rintro e w1 ⟨rfl, h1⟩
    have q := keep2 h1 (b := w.heap.size) (by first | (simp; done) | (simp; omega) | omega)
    have kc1_0_0 := q.1
    have kc1_0_1 := q.2.1
    have kf1_0_0 := q.2.2.1
    have kf1_0_1 := q.2.2.2.1
    have kl1_0 := q.2.2.2.2.1
    have kn1_0 := q.2.2.2.2.2.1
    have km1_0 := q.2.2.2.2.2.2
    clear q
    have kz1 := h1.size
    (try simp only [World.size_alloc, World.size_setCell, World.size_drew] at kz1)
    have H1 := Lib.hid h1
    clear h1
    go_wp2
    go_ret
    exact ⟨rfl, by (show Rel _ _; repeat (first | with_reducible exact Rel.refl _ | with_reducible refine Rel.alloc ?_ _ | with_reducible refine Rel.setCell ?_ (by first | (simp; done) | (simp; omega)) _ | with_reducible refine Rel.drew ?_ | with_reducible refine Rel.trans ?_ H1.out | with_reducible refine Rel.trans ?_ H0.out))⟩
  · have b := valid_bd hv
    rw [hv] at V
    by_cases hd : d = 1
    · rw [fmt_1 hv hd]
      subst hd
      clear hv
      go_enter Tryd.func13, Tryd.ntmps13
      go_wp2_with fail
      refine (V.out _).mono ?_
      unfold BRes
      rintro e w1 ⟨rfl, h1⟩
      have q := keep2 h1 (b := w.heap.size) (by first | (simp; done) | (simp; omega) | omega)
      have kc1_0_0 := q.1
      have kc1_0_1 := q.2.1
      have kf1_0_0 := q.2.2.1
      have kf1_0_1 := q.2.2.2.1
      have kl1_0 := q.2.2.2.2.1
      have kn1_0 := q.2.2.2.2.2.1
      have km1_0 := q.2.2.2.2.2.2
      clear q
      have kz1 := h1.size
      (try simp only [World.size_alloc, World.size_setCell, World.size_drew] at kz1)
      have H1 := Lib.hid h1
      clear h1
      go_wp2_with fail
      refine (itoa_any _ _ (ht.rel (((Rel.refl _).alloc _).trans H1.out)) (by omega) (by omega)).mono ?_
      rintro e w2 ⟨rfl, h2⟩
      have q := keep2 h2 (b := w.heap.size) (by first | (simp; done) | (simp; omega) | omega)
      have kc2_0_0 := q.1
      have kc2_0_1 := q.2.1
      have kf2_0_0 := q.2.2.1
      have kf2_0_1 := q.2.2.2.1
      have kl2_0 := q.2.2.2.2.1
      have kn2_0 := q.2.2.2.2.2.1
      have km2_0 := q.2.2.2.2.2.2
      clear q
      have kz2 := h2.size
      (try simp only [World.size_alloc, World.size_setCell, World.size_drew] at kz2)
      have H2 := Lib.hid h2
      clear h2
      go_wp2
      go_ret
      exact ⟨rfl, by (show Rel _ _; repeat (first | with_reducible exact Rel.refl _ | with_reducible refine Rel.alloc ?_ _ | with_reducible refine Rel.setCell ?_ (by first | (simp; done) | (simp; omega)) _ | with_reducible refine Rel.drew ?_ | with_reducible refine Rel.trans ?_ H2.out | with_reducible refine Rel.trans ?_ H1.out | with_reducible refine Rel.trans ?_ H0.out))⟩
    · rw [fmt_2 hv hd]
      have hdn : (d != 1) = true := by simpa using hd
      clear hv hd
      go_enter Tryd.func13, Tryd.ntmps13
      go_wp2_with fail
      refine (V.out _).mono ?_
      unfold BRes
      rintro e w1 ⟨rfl, h1⟩
      have q := keep2 h1 (b := w.heap.size) (by first | (simp; done) | (simp; omega) | omega)
      have kc1_0_0 := q.1
      have kc1_0_1 := q.2.1
      have kf1_0_0 := q.2.2.1
      have kf1_0_1 := q.2.2.2.1
      have kl1_0 := q.2.2.2.2.1
      have kn1_0 := q.2.2.2.2.2.1
      have km1_0 := q.2.2.2.2.2.2
      clear q
      have kz1 := h1.size
      (try simp only [World.size_alloc, World.size_setCell, World.size_drew] at kz1)
      have H1 := Lib.hid h1
      clear h1
      go_wp2_with fail
      refine (itoa_any _ _ (ht.rel (((Rel.refl _).alloc _).trans H1.out)) (by omega) (by omega)).mono ?_
      rintro e w2 ⟨rfl, h2⟩
      have q := keep2 h2 (b := w.heap.size) (by first | (simp; done) | (simp; omega) | omega)
      have kc2_0_0 := q.1
      have kc2_0_1 := q.2.1
      have kf2_0_0 := q.2.2.1
      have kf2_0_1 := q.2.2.2.1
      have kl2_0 := q.2.2.2.2.1
      have kn2_0 := q.2.2.2.2.2.1
      have km2_0 := q.2.2.2.2.2.2
      clear q
      have kz2 := h2.size
      (try simp only [World.size_alloc, World.size_setCell, World.size_drew] at kz2)
      have H2 := Lib.hid h2
      clear h2
      go_wp2_with fail
      refine (itoa_any _ _ (ht.rel ((((Rel.refl _).alloc _).trans H1.out).trans H2.out)) (by omega) (by omega)).mono ?_
      rintro e w3 ⟨rfl, h3⟩
      have q := keep2 h3 (b := w.heap.size) (by first | (simp; done) | (simp; omega) | omega)
      have kc3_0_0 := q.1
      have kc3_0_1 := q.2.1
      have kf3_0_0 := q.2.2.1
      have kf3_0_1 := q.2.2.2.1
      have kl3_0 := q.2.2.2.2.1
      have kn3_0 := q.2.2.2.2.2.1
      have km3_0 := q.2.2.2.2.2.2
      clear q
      have kz3 := h3.size
      (try simp only [World.size_alloc, World.size_setCell, World.size_drew] at kz3)
      have H3 := Lib.hid h3
      clear h3
      go_wp2
      go_ret
      exact ⟨rfl, by (show Rel _ _; repeat (first | with_reducible exact Rel.refl _ | with_reducible refine Rel.alloc ?_ _ | with_reducible refine Rel.setCell ?_ (by first | (simp; done) | (simp; omega)) _ | with_reducible refine Rel.drew ?_ | with_reducible refine Rel.trans ?_ H3.out | with_reducible refine Rel.trans ?_ H2.out | with_reducible refine Rel.trans ?_ H1.out | with_reducible refine Rel.trans ?_ H0.out))⟩

theorem dgt_numL (n : Int) (h : 0 ≤ n) : dgt n 1 = numS n := by
  unfold dgt numS numL; rw [if_neg (by omega), show n.toNat = n.natAbs by omega]; rfl
theorem neg_numL (n : Int) (h : n < 0) : (⟨#[45]⟩ : ByteArray) ++ dgt (n.natAbs : Int) 1 = numS n := by
  apply ba_ext
  unfold dgt numS numL; rw [if_pos h, show ((n.natAbs : Int)).toNat = n.natAbs by omega]; simp

set_option maxHeartbeats 4000000 in
theorem rFormat_any (n d : Int) (w : World) (n0 : -9223372036854775808 ≤ n) (n1 : n ≤ 9223372036854775807) (d0 : -9223372036854775808 ≤ d) (d1 : d ≤ 9223372036854775807) :
    Calls Tryd.prog 16 #[.agg #[.int .i64 n, .int .i64 d]] w (StrRes (fmtS n d) w) := by
  unfold StrRes
  have z2 := numS_size d
  have V := Lib.hid fun w => rvalid_any n d w n0 n1 d0 d1
  cases hv : validB n d
  · rw [fmt_no hv]
    rw [hv] at V
    clear hv
    go_enter Tryd.func16, Tryd.ntmps16
    go_wp2_with fail
    refine (V.out _).mono ?_
    unfold BRes
    rintro e w1 ⟨rfl, h1⟩
    have q := keep2 h1 (b := w.heap.size) (by first | (simp; done) | (simp; omega) | omega)
    have kc1_0_0 := q.1
    have kc1_0_1 := q.2.1
    have kf1_0_0 := q.2.2.1
    have kf1_0_1 := q.2.2.2.1
    have kl1_0 := q.2.2.2.2.1
    have kn1_0 := q.2.2.2.2.2.1
    have km1_0 := q.2.2.2.2.2.2
    clear q
    have kz1 := h1.size
    (try simp only [World.size_alloc, World.size_setCell, World.size_drew] at kz1)
    have H1 := Lib.hid h1
    clear h1
    go_wp2
    go_ret
    exact ⟨rfl, by (show Rel _ _; repeat (first | with_reducible exact Rel.refl _ | with_reducible refine Rel.alloc ?_ _ | with_reducible refine Rel.setCell ?_ (by first | (simp; done) | (simp; omega)) _ | with_reducible refine Rel.drew ?_ | with_reducible refine Rel.trans ?_ H1.out | with_reducible refine Rel.trans ?_ H0.out))⟩
  · have b := valid_bd hv
    rw [hv] at V
    have hdd : dgt d 1 = numS d := dgt_numL d (by omega)
    obtain ⟨D, hD⟩ : ∃ D, dgt d 1 = D := ⟨_, rfl⟩
    have SZ := Lib.hid fun w => rsize_any n w n0 n1
    have DG := Lib.hid fun w => rdigits_any (n.natAbs : Int) 1 w (by omega) (by omega) (by omega) (by omega)
    have DD := Lib.hid fun w => rdigits_any d 1 w (by omega) (by omega) (by omega) (by omega)
    have bn : 0 ≤ (n.natAbs : Int) ∧ (n.natAbs : Int) ≤ 1000000000000000 := by omega
    obtain ⟨m, hm⟩ : ∃ m, (n.natAbs : Int) = m := ⟨_, rfl⟩
    have hneg := fun h => neg_numL n h
    have hpos : 0 ≤ n → dgt m 1 = numS n := fun h => by rw [← hm, show (n.natAbs : Int) = n by omega]; exact dgt_numL n h
    rw [hm] at SZ DG hneg bn
    obtain ⟨G, hG⟩ : ∃ G, dgt m 1 = G := ⟨_, rfl⟩
    have zG : G.size ≤ 40 := by rw [← hG]; exact dgt_size _ _
    have e45 : (⟨#[45]⟩ : ByteArray).size = 1 := rfl
    have zG2 : ((⟨#[45]⟩ : ByteArray) ++ G).size ≤ 41 := by rw [ByteArray.size_append]; omega
    rw [hG] at DG hneg hpos
    rw [hdd] at DD
    have b1 := bn.1
    have b2 := bn.2
    by_cases hd : d = 1
    · rw [fmt_1 hv hd]
      by_cases hn : n < 0
      · have EQ := Lib.hid (hneg hn)
        subst hd
        clear hv hm hneg hpos hG hdd hD bn e45
        go_enter Tryd.func16, Tryd.ntmps16
        go_wp2_with fail
        refine (V.out _).mono ?_
        unfold BRes
        rintro e w1 ⟨rfl, h1⟩
        have q := keep2 h1 (b := w.heap.size) (by first | (simp; done) | (simp; omega) | omega)
        have kc1_0_0 := q.1
        have kc1_0_1 := q.2.1
        have kf1_0_0 := q.2.2.1
        have kf1_0_1 := q.2.2.2.1
        have kl1_0 := q.2.2.2.2.1
        have kn1_0 := q.2.2.2.2.2.1
        have km1_0 := q.2.2.2.2.2.2
        clear q
        have kz1 := h1.size
        (try simp only [World.size_alloc, World.size_setCell, World.size_drew] at kz1)
        have H1 := Lib.hid h1
        clear h1
        go_wp2_with fail
        refine (SZ.out _).mono ?_
        rintro e w2 ⟨rfl, rfl⟩
        go_wp2_with fail
        refine (DG.out _).mono ?_
        rintro e w2 ⟨rfl, rfl⟩
        go_wp2
        go_ret
        exact ⟨ret_str EQ.out, by (show Rel _ _; repeat (first | with_reducible exact Rel.refl _ | with_reducible refine Rel.alloc ?_ _ | with_reducible refine Rel.setCell ?_ (by first | (simp; done) | (simp; omega)) _ | with_reducible refine Rel.drew ?_ | with_reducible refine Rel.trans ?_ H1.out | with_reducible refine Rel.trans ?_ H0.out))⟩
      · have EQ := Lib.hid (hpos (by omega))
        subst hd
        clear hv hm hneg hpos hG hdd hD bn e45
        go_enter Tryd.func16, Tryd.ntmps16
        go_wp2_with fail
        refine (V.out _).mono ?_
        unfold BRes
        rintro e w1 ⟨rfl, h1⟩
        have q := keep2 h1 (b := w.heap.size) (by first | (simp; done) | (simp; omega) | omega)
        have kc1_0_0 := q.1
        have kc1_0_1 := q.2.1
        have kf1_0_0 := q.2.2.1
        have kf1_0_1 := q.2.2.2.1
        have kl1_0 := q.2.2.2.2.1
        have kn1_0 := q.2.2.2.2.2.1
        have km1_0 := q.2.2.2.2.2.2
        clear q
        have kz1 := h1.size
        (try simp only [World.size_alloc, World.size_setCell, World.size_drew] at kz1)
        have H1 := Lib.hid h1
        clear h1
        go_wp2_with fail
        refine (SZ.out _).mono ?_
        rintro e w2 ⟨rfl, rfl⟩
        go_wp2_with fail
        refine (DG.out _).mono ?_
        rintro e w2 ⟨rfl, rfl⟩
        go_wp2
        go_ret
        exact ⟨ret_str EQ.out, by (show Rel _ _; repeat (first | with_reducible exact Rel.refl _ | with_reducible refine Rel.alloc ?_ _ | with_reducible refine Rel.setCell ?_ (by first | (simp; done) | (simp; omega)) _ | with_reducible refine Rel.drew ?_ | with_reducible refine Rel.trans ?_ H1.out | with_reducible refine Rel.trans ?_ H0.out))⟩
    · rw [fmt_2 hv hd]
      have hdn : (d != 1) = true := by simpa using hd
      by_cases hn : n < 0
      · have EQ := Lib.hid (hneg hn)
        clear hv hm hneg hpos hG hdd hD bn hd e45
        go_enter Tryd.func16, Tryd.ntmps16
        go_wp2_with fail
        refine (V.out _).mono ?_
        unfold BRes
        rintro e w1 ⟨rfl, h1⟩
        have q := keep2 h1 (b := w.heap.size) (by first | (simp; done) | (simp; omega) | omega)
        have kc1_0_0 := q.1
        have kc1_0_1 := q.2.1
        have kf1_0_0 := q.2.2.1
        have kf1_0_1 := q.2.2.2.1
        have kl1_0 := q.2.2.2.2.1
        have kn1_0 := q.2.2.2.2.2.1
        have km1_0 := q.2.2.2.2.2.2
        clear q
        have kz1 := h1.size
        (try simp only [World.size_alloc, World.size_setCell, World.size_drew] at kz1)
        have H1 := Lib.hid h1
        clear h1
        go_wp2_with fail
        refine (SZ.out _).mono ?_
        rintro e w2 ⟨rfl, rfl⟩
        go_wp2_with fail
        refine (DG.out _).mono ?_
        rintro e w2 ⟨rfl, rfl⟩
        go_wp2_with fail
        refine (DD.out _).mono ?_
        rintro e w2 ⟨rfl, rfl⟩
        go_wp2
        go_ret
        exact ⟨ret_str (by rw [EQ.out, ByteArray.append_assoc]), by (show Rel _ _; repeat (first | with_reducible exact Rel.refl _ | with_reducible refine Rel.alloc ?_ _ | with_reducible refine Rel.setCell ?_ (by first | (simp; done) | (simp; omega)) _ | with_reducible refine Rel.drew ?_ | with_reducible refine Rel.trans ?_ H1.out | with_reducible refine Rel.trans ?_ H0.out))⟩
      · have EQ := Lib.hid (hpos (by omega))
        clear hv hm hneg hpos hG hdd hD bn hd e45
        go_enter Tryd.func16, Tryd.ntmps16
        go_wp2_with fail
        refine (V.out _).mono ?_
        unfold BRes
        rintro e w1 ⟨rfl, h1⟩
        have q := keep2 h1 (b := w.heap.size) (by first | (simp; done) | (simp; omega) | omega)
        have kc1_0_0 := q.1
        have kc1_0_1 := q.2.1
        have kf1_0_0 := q.2.2.1
        have kf1_0_1 := q.2.2.2.1
        have kl1_0 := q.2.2.2.2.1
        have kn1_0 := q.2.2.2.2.2.1
        have km1_0 := q.2.2.2.2.2.2
        clear q
        have kz1 := h1.size
        (try simp only [World.size_alloc, World.size_setCell, World.size_drew] at kz1)
        have H1 := Lib.hid h1
        clear h1
        go_wp2_with fail
        refine (SZ.out _).mono ?_
        rintro e w2 ⟨rfl, rfl⟩
        go_wp2_with fail
        refine (DG.out _).mono ?_
        rintro e w2 ⟨rfl, rfl⟩
        go_wp2_with fail
        refine (DD.out _).mono ?_
        rintro e w2 ⟨rfl, rfl⟩
        go_wp2
        go_ret
        exact ⟨ret_str (by rw [EQ.out, ByteArray.append_assoc]), by (show Rel _ _; repeat (first | with_reducible exact Rel.refl _ | with_reducible refine Rel.alloc ?_ _ | with_reducible refine Rel.setCell ?_ (by first | (simp; done) | (simp; omega)) _ | with_reducible refine Rel.drew ?_ | with_reducible refine Rel.trans ?_ H1.out | with_reducible refine Rel.trans ?_ H0.out))⟩

end Go.Proofs.YtfdajdlbkdfhoaaDoor

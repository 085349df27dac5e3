/- Walk of the law TokenLong. No conditions but those printed. -/
import Derived.Test.YtfdajdlbkdfhoaaTokK
import Derived.Laws.OwnMore
import Derived.Laws.IdiomStrings
namespace Go.Proofs.Ytfdajdlbkdfhoaa
open Go.RowKit Cal Str Tok Frac
attribute [local go_sem] calmUpon
set_option linter.unusedVariables false
set_option linter.unusedSimpArgs false

theorem skl_blanks (m : Nat) (l : List UInt8) : skl false (List.replicate m 32 ++ l) = m + skl false l := by
  induction m with
  | zero => simp
  | succ m ih =>
    rw [List.replicate_succ, List.cons_append, skl_bl _ _ (by decide), ih]; omega

theorem allR_x {s : ByteArray} (m : Nat) (h : m + 1 ≤ 8000) (hs : s.data.toList = List.replicate m 32 ++ [120]) : allR s = ([⟨1, ⟨#[120]⟩, m⟩], 0, 0) := by
  have hz : s.size = m + 1 := by rw [← size_list, hs]; simp
  have k1 : skp s 0 = m := by
    unfold skp; rw [List.drop_zero, hs, skl_blanks, skl_no _ (by decide) (by decide) (by decide)]; omega
  have hd : s.data.toList.drop m = [120] := by rw [hs, List.drop_append_of_le_length (by simp)]; simp
  have hm : m < s.size := by omega
  have hx : s[m] = 120 := by
    have := drop_cons s m hm; rw [hd] at this; injection this with h1 _; exact h1.symm
  have hr : rn inw (s.data.toList.drop m) = 1 := by rw [hd]; rfl
  have T := tok_w1 hm (by rw [hx]; rfl) (by rw [hr]; decide)
  have k2 : skp s (m + 1) = m + 1 := by
    unfold skp; rw [drop_end s (m + 1) (by omega), skl_nil]
  have e : s.extract m (m + 1) = ⟨#[120]⟩ := by
    apply ba_ext; rw [ext_data, hd]; simp
  unfold allR
  rw [if_pos (by omega), hz]
  rw [show m + 1 + 1 = (m + 1) + 1 from rfl, allF, k1, if_neg (by omega), T.2, if_neg (by decide), T.1, hr, e]
  rw [allF, k2, hz, if_pos rfl]; rfl

/-- The numbers at the head of a block, all of it owned. -/
structure RowU (w wx : World) (g N : Nat) (f : Nat → Int) : Prop where
  rel : Rel w wx
  le : w.heap.size ≤ g
  lt : g < wx.heap.size
  cell : ∀ j, j < N → wx.cell? ⟨g, j, none⟩ = some (.int .u8 (f j))
  free : ∀ j, j < N → wx.frozen? ⟨g, j, none⟩ = false
theorem RowU.set {w wx : World} {g N : Nat} {f : Nat → Int} (h : RowU w wx g N f) (k : Nat) (hk : k < N) (v : Int) : RowU w (wx.setCell ⟨g, k, none⟩ (.int .u8 v)) g N (fun j => if j = k then v else f j) :=
  ⟨h.rel.setCell h.le _, h.le, by simpa using h.lt, fun j hj => by
    by_cases e : j = k
    · subst e; rw [World.cell?_setCell_same _ _ _ (h.cell j hj)]; simp
    · rw [World.cell?_setCell_other _ _ _ _ (fun h => e (by injection h with _ h2 _; exact h2.symm)), h.cell j hj]; simp [e], fun j hj => by rw [World.frozen?_setCell]; exact h.free j hj⟩
theorem RowU.congr {w wx : World} {g N : Nat} {f f' : Nat → Int} (h : RowU w wx g N f) (e : ∀ j, j < N → f j = f' j) : RowU w wx g N f' :=
  ⟨h.rel, h.le, h.lt, fun j hj => by rw [← e j hj]; exact h.cell j hj, h.free⟩
theorem row_made (w : World) (N : Nat) (T : TypeId) : RowU w (w.alloc (.cells (madeCells #[.int .u8 0] N) T)) w.heap.size N (fun _ => 0) :=
  ⟨(Rel.refl _).alloc _, Nat.le_refl _, by simp, fun j hj => by
    have e : (madeCells #[Value.int .u8 0] N)[j]? = some (.int .u8 0) := by
      unfold madeCells
      rw [Array.getElem?_map, Array.getElem?_range, if_pos hj]
      simp [Nat.mod_one]
    simpa using e, fun j hj => by simp⟩

set_option maxRecDepth 100000 in
set_option maxHeartbeats 8000000 in
theorem long_core (q : Int) (N : Nat) (n : Int) (w : World) (hq : 7998 + q = N) (hN : 7998 ≤ N) (hN2 : N ≤ 8002)
    (PK : Hid (∀ w, Calls Try.prog 10 #[.int .i64 n, .int .i64 5] w fun e w' => e = .returned (.int .i64 q) ∧ w = w')) :
    Calls Try.prog 6 #[.int .i64 n] w (BRes true w) := by
  have hi5 : (Try.prog.info? 5).map (fun i => (i.zero, i.size, i.bytes)) = some (some (.int .u8 0), 1, 1) := by kernel_rfl
  obtain ⟨i0, hi, hx⟩ := Option.map_eq_some_iff.1 hi5
  simp only [Prod.mk.injEq] at hx
  obtain ⟨hz0, hz1, hz2⟩ := hx
  have hmk := run_makeSlice (P := Try.prog) w 36 5 i0 (.int .u8 0) Try.underlying36 hi hz0 .i64 .i64 (N : Int) (N : Int) (by omega) (Int.le_refl _) (by rw [hz1]; omega) (by rw [hz2]; omega) (by omega)
  rw [hz1, Nat.mul_one, Int.toNat_natCast] at hmk
  have R0 := Lib.hid (row_made w N 5)
  have e0 : (Value.int IntKind.u8 0).cells = #[.int .u8 0] := rfl
  rw [e0] at hmk
  obtain ⟨W0, hW0⟩ : ∃ W0, w.alloc (.cells (madeCells #[.int .u8 0] N) 5) = W0 := ⟨_, rfl⟩
  rw [hW0] at hmk R0
  clear hi5 hi hz0 hz1 hz2 e0 hW0
  unfold BRes
  go_enter Try.func6, Try.ntmps6
  go_wp2_with fail
  refine (PK.out _).mono ?_
  rintro e w9 ⟨rfl, rfl⟩
  go_wp2
  clear hmk hq
  go_loopw [4] (fun i wx => ∃ k : Nat, i = .int .i64 k ∧ k ≤ N ∧ Hid (RowU w wx w.heap.size N (fun j => if j < k then 32 else 0))) (fun i _ => N - (intOf i).toNat)
  case atStart => exact ⟨0, rfl, by omega, R0.out.congr (fun j hj => by simp)⟩
  case round =>
    obtain ⟨k, rfl, hk, hR⟩ := hrel
    by_cases hlt : k < N
    · have c0 := hR.out.cell k hlt
      have f0 := hR.out.free k hlt
      have R1 := Lib.hid ((hR.out.set k hlt 32).congr (f' := fun j => if j < k + 1 then 32 else 0) (fun j hj => by
        by_cases e : j = k
        · subst e; simp
        · by_cases e2 : j < k
          · rw [if_neg e, if_pos e2, if_pos (by omega)]
          · rw [if_neg e, if_neg e2, if_neg (by omega)]))
      rw [if_neg (by omega)] at c0
      have hlt' : (k : Int) < (N : Int) := by omega
      go_wp2
      go_roundw
      case rel => exact ⟨k + 1, by go_num, by omega, R1⟩
      case measure => simp [intOf]; omega
    · obtain rfl : k = N := by omega
      obtain ⟨m, rfl⟩ : ∃ m, k = m + 1 := ⟨k - 1, by omega⟩
      have c0 := hR.out.cell m (by omega)
      have f0 := hR.out.free m (by omega)
      rw [if_pos (by omega)] at c0
      have R1 := (hR.out.set m (by omega) 120).congr (f' := fun j => ((List.replicate m 32 ++ [120] : List Int)).getD j 0) (fun j hj => by
        by_cases e : j = m
        · subst e; simp [List.getD]
        · rw [if_neg e, if_pos (by omega)]
          simp only [List.getD]
          rw [List.getElem?_append_left (by rw [List.length_replicate]; omega), List.getElem?_replicate, if_pos (by omega)]
          rfl)
      have hcv := run_convert_bytes_arg (P := Try.prog) (wr.setCell ⟨w.heap.size, m, none⟩ (.int .u8 120)) 36 5 Try.underlying36 Try.underlying5 w.heap.size 0 (m + 1) (m + 1) (List.replicate m 32 ++ [120]) (by simp) (fun i hi => by rw [Nat.zero_add]; exact R1.cell i hi) 9 Try.underlying9
      obtain ⟨S, hS⟩ : ∃ S, strOfNums (List.replicate m 32 ++ [120]) = S := ⟨_, rfl⟩
      have hSd : S.data.toList = List.replicate m 32 ++ [120] := by
        rw [← hS, strOfNums_data]; simp
      have hSz : S.size = m + 1 := by rw [← size_list, hSd]; simp
      rw [hS] at hcv
      have RR := Lib.hid R1.rel
      have A := Lib.hid fun w => All_any S w (by omega)
      have i1 : ((m + 1 : Nat) : Int) - 1 = (m : Int) := by omega
      clear R1 hS hR hlt
      by_cases h8 : m + 1 ≤ 8000
      · have hr := Lib.hid (allR_x m h8 hSd)
        have d8 : ¬ (8000 : Int) < ((m + 1 : Nat) : Int) := by omega
        clear hSd
        go_wp2_with fail
        refine (A.out _).mono ?_
        unfold AllRes
        rw [hr.out]
        rintro e w1 ⟨v, rfl, h1, ho⟩
        obtain ⟨g, cap, rfl, hb, hg, hcap, hcm, hc⟩ := own_some ho (by show 0 < 1; decide)
        have c2 : w1.cell? ⟨g, 2, none⟩ = some (.int .i64 m) := hc 2 _ rfl
        have H1 := Lib.hid h1
        clear hc ho h1
        go_wp2_with fail
        refine (tawake_any _).mono ?_
        unfold BRes
        rintro e w3 ⟨rfl, h3⟩
        have c3 : w3.cell? ⟨g, 2, none⟩ = some (.int .i64 m) := Rel.cell h3 c2
        have H3 := Lib.hid h3
        clear c2 h3
        go_wp2
        go_ret
        exact ⟨ret_b (by simp), (RR.out.trans H1.out).trans H3.out⟩
      · have hr : Hid (allR S = ([], 0, 7)) := by show _ = _; unfold allR; rw [if_neg (by omega)]
        have d8 : (8000 : Int) < ((m + 1 : Nat) : Int) := by omega
        clear hSd
        go_wp2_with fail
        refine (A.out _).mono ?_
        unfold AllRes
        rw [hr.out]
        rintro e w1 ⟨v, rfl, h1, ho⟩
        have hv : ∃ p cap, v = .slice p 0 cap := by
          rcases ho.2 with ⟨rfl, _⟩ | ⟨g, cap, cur, rfl, _⟩
          · exact ⟨_, _, rfl⟩
          · exact ⟨_, _, rfl⟩
        obtain ⟨p, cap, rfl⟩ := hv
        have H1 := Lib.hid h1
        clear ho h1
        go_wp2_with fail
        refine (tawake_any _).mono ?_
        unfold BRes
        rintro e w3 ⟨rfl, h3⟩
        have H3 := Lib.hid h3
        clear h3
        go_wp2
        go_ret
        exact ⟨ret_b (by simp), (RR.out.trans H1.out).trans H3.out⟩

theorem walk_TokenLong (w : World) (a0 : Int) (b0 : -9223372036854775808 ≤ a0) (c0 : a0 ≤ 9223372036854775807) :
    Calls Try.prog 6 #[.int .i64 a0] w (BRes true w) := by
  have h := Int.emod_nonneg a0 (show (5 : Int) ≠ 0 by decide)
  have h2 := Int.emod_lt_of_pos a0 (show (0 : Int) < 5 by decide)
  refine long_core (a0 % 5) (7998 + a0 % 5).toNat a0 w (by omega) (by omega) (by omega) (fun w => pick_any a0 5 w b0 c0 (by omega) (by omega))

end Go.Proofs.Ytfdajdlbkdfhoaa

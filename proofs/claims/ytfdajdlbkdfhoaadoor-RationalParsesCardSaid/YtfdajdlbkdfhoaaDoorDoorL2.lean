/- Walk of the law RationalParses. No conditions but those printed. -/
import Derived.Test.YtfdajdlbkdfhoaaDoorDoorL1
import Derived.Laws.IdiomStrings
namespace Go.Proofs.YtfdajdlbkdfhoaaDoor
open Go.RowKit Cal Str Tok Frac Txt
attribute [local go_sem] calmUpon
set_option linter.unusedVariables false
set_option linter.unusedSimpArgs false

/-- What both Parses answer at s. -/
def PrsIs (s : ByteArray) (N D : Int) (B : Bool) : Prop := (B = true ∧ IsTxt s N D) ∨ (B = false ∧ N = 0 ∧ D = 0 ∧ ∀ n d, ¬ IsTxt s n d)
theorem prs_ex (s : ByteArray) : ∃ N D B, PrsIs s N D B := by
  by_cases h : ∃ n d, IsTxt s n d
  · obtain ⟨n, d, h⟩ := h
    exact ⟨n, d, true, .inl ⟨rfl, h⟩⟩
  · exact ⟨0, 0, false, .inr ⟨rfl, rfl, rfl, fun n d k => h ⟨n, d, k⟩⟩⟩
theorem prs_uniq {s : ByteArray} {N D N' D' : Int} {B B' : Bool} (h : PrsIs s N D B) (k : PrsIs s N' D' B') : N = N' ∧ D = D' ∧ B = B' := by
  rcases h with ⟨rfl, h⟩ | ⟨rfl, rfl, rfl, h⟩ <;> rcases k with ⟨rfl, k⟩ | ⟨rfl, rfl, rfl, k⟩
  · have := txt_inj h k; exact ⟨this.1, this.2, rfl⟩
  · exact absurd h (k _ _)
  · exact absurd k (h _ _)
  · exact ⟨rfl, rfl, rfl⟩
theorem prs_res {s : ByteArray} {N D : Int} {B : Bool} (hP : PrsIs s N D B) {w w' : World} {e : Ending} (h : PrsRes s w e w') : e = .returned (.tuple #[.agg #[.int .i64 N, .int .i64 D], .bool B]) ∧ Rel w w' := by
  obtain ⟨N', D', B', rfl, h, r⟩ := h
  obtain ⟨rfl, rfl, rfl⟩ := prs_uniq hP h
  exact ⟨rfl, r⟩

/-- A text made into a row of bytes. -/
theorem bytesN_made (s : ByteArray) (w : World) (n : Nat) (hs : s.size = n) : ∃ (W1 : World) (cap : Nat) (xs : List Int),
    Sem.run Tryd.prog (convert 9 41 (.string s)) w = .ok (.slice (some ⟨w.heap.size, 0, none⟩) n cap) W1 ∧ xs.length = n ∧
    (∀ i, i < n → W1.cell? ⟨w.heap.size, i, none⟩ = some (.int .u8 (xs.getD i 0))) ∧ (∀ i, i < n → W1.frozen? ⟨w.heap.size, i, none⟩ = false) ∧ Rel w W1 ∧ w.heap.size < W1.heap.size ∧ n ≤ cap := by
  have h := run_bytes_of_string (P := Tryd.prog) w 9 41 5 s Tryd.underlying9 Tryd.underlying41 Tryd.underlying5
  have hcap := grownCap_ge w s.size 0 5
  rw [hs] at h hcap
  obtain ⟨cap, hC⟩ : ∃ cap, grownCap w n 0 5 = cap := ⟨_, rfl⟩
  rw [hC] at h hcap
  have hd : s.data.size = n := hs
  have hsz : (bytesRow s cap).size = cap := by
    unfold bytesRow; simp [hs]
    omega
  refine ⟨_, cap, s.data.toList.map (fun b => (b.toNat : Int)), h, by simpa using hs, ?_, ?_, ?_, ?_, hcap⟩
  · intro i hi
    have := World.cell?_alloc_mark w.drew (bytesRow s cap) 5 ((bytesRow s cap).size, (bytesRow s cap).size + 1) i
    have e : w.drew.heap.size = w.heap.size := rfl
    rw [e] at this
    rw [this, bytesRow_at s cap i (by omega)]
    have hl : i < s.data.size := by omega
    simp only [List.getD, List.getElem?_map, Array.getElem?_toList]
    rw [Array.getElem?_eq_getElem hl]; rfl
  · intro i hi
    have := World.frozen?_alloc_mark w.drew (bytesRow s cap) 5 (bytesRow s cap).size ((bytesRow s cap).size + 1) i
    have e : w.drew.heap.size = w.heap.size := rfl
    rw [e] at this
    rw [this, hsz]
    simp; omega
  · exact ((Below.refl _ _).drew).alloc (Nat.le_refl _) _
  · simp

theorem bytesN_back (W : World) (g cap n : Nat) (xs : List Int) (hl : xs.length = n) (hc : ∀ i, i < n → W.cell? ⟨g, i, none⟩ = some (.int .u8 (xs.getD i 0))) :
    ∃ s : ByteArray, Sem.run Tryd.prog (convert 41 9 (.slice (some ⟨g, 0, none⟩) n cap)) W = .ok (.string s) W ∧ s.size = n := by
  refine ⟨strOfNums xs, run_convert_bytes_arg W 41 5 Tryd.underlying41 Tryd.underlying5 g 0 n cap xs hl (fun i hi => by rw [Nat.zero_add]; exact hc i hi) 9 Tryd.underlying9, ?_⟩
  rw [strOfNums_size, hl]

theorem bytesN_set (W : World) (g j n : Nat) (xs : List Int) (v : Int) (hj : j < n) (hl : xs.length = n) (hc : ∀ i, i < n → W.cell? ⟨g, i, none⟩ = some (.int .u8 (xs.getD i 0))) :
    ∀ i, i < n → (W.setCell ⟨g, j, none⟩ (.int .u8 v)).cell? ⟨g, i, none⟩ = some (.int .u8 ((xs.set j v).getD i 0)) := by
  intro i hi
  by_cases e : i = j
  · subst e
    rw [World.cell?_setCell_same _ _ _ (hc i hi)]
    simp [List.getD, hl, hi]
  · rw [World.cell?_setCell_other _ _ _ _ (fun h => e (by injection h with _ h2 _; exact h2.symm)), hc i hi]
    simp [List.getD, Ne.symm e]

set_option maxRecDepth 20000 in
set_option maxHeartbeats 4000000 in
theorem walk_RationalParses (w : World) (ht : TabW w) (he : ErrW w) (a0 : ByteArray) (a1a a1b a2 a3 a4 : Int) (b0 : a0.size ≤ 140737488355328) (b1a : -9223372036854775808 ≤ a1a) (c1a : a1a ≤ 9223372036854775807) (b1b : -9223372036854775808 ≤ a1b) (c1b : a1b ≤ 9223372036854775807)
    (b2 : -9223372036854775808 ≤ a2) (c2 : a2 ≤ 9223372036854775807) (b3 : -9223372036854775808 ≤ a3) (c3 : a3 ≤ 9223372036854775807) (b4 : 0 ≤ a4) (c4 : a4 ≤ 255) :
    Calls Tryd.prog 5 #[.string a0, .agg #[.int .i64 a1a, .int .i64 a1b], .int .i64 a2, .int .i64 a3, .int .u8 a4] w (BRes true w) := by
  have OF := Lib.hid fun w => of_any a1a a1b a2 w b1a c1a b1b c1b b2 c2
  unfold SomeFr at OF
  unfold BRes
  by_cases h3 : a2.tmod 3 = 0
  · have t3 : (a2.tmod 3 != 0) = false := by simpa using h3
    clear h3
    go_enter Tryd.func5, Tryd.ntmps5
    obtain ⟨N, D, B, hP⟩ := prs_ex a0
    have PA := Lib.hid fun w ht he => (Parse_frac a0 w b0 ht he).mono fun e w' h => prs_res hP h
    have PB := Lib.hid fun w => (ParseFraction_any a0 w b0).mono fun e w' h => prs_res hP h
    have hQ := Lib.hid hP
    clear hP
    have RW1 : Hid (Rel w (w.alloc (Obj.cells #[.int .i64 a1a, .int .i64 a1b] 23))) := by
      show Rel _ _
      exact (Rel.refl _).alloc _
    go_wp2_with fail
    refine (PA.out _ (ht.rel RW1.out) (he.rel RW1.out)).mono ?_
    rintro e w1 ⟨rfl, h1⟩
    have kz1 := h1.size
    (try simp only [World.size_alloc, World.size_setCell, World.size_drew] at kz1)
    have H1 := Lib.hid h1
    clear h1
    go_wp2_with fail
    refine (PB.out _).mono ?_
    rintro e w2 ⟨rfl, h2⟩
    have q := keep2 h2 (b := w1.heap.size) (by first | (simp; done) | (simp; omega) | omega)
    have kc2_0_0 := q.1
    have kc2_0_1 := q.2.1
    have kf2_0_0 := q.2.2.1
    have kf2_0_1 := q.2.2.2.1
    have kl2_0 := q.2.2.2.2.1
    have kn2_0 := q.2.2.2.2.2.1
    have km2_0 := q.2.2.2.2.2.2
    clear q
    have kz2 := h2.size
    (try simp only [World.size_alloc, World.size_setCell, World.size_drew] at kz2)
    have H2 := Lib.hid h2
    clear h2
    cases B
    · go_wp2_with fail
      refine (fawake_any _).mono ?_
      unfold BRes
      rintro e w3 ⟨rfl, h3⟩
      have q := keep2 h3 (b := w1.heap.size) (by first | (simp; done) | (simp; omega) | omega)
      have kc3_0_0 := q.1
      have kc3_0_1 := q.2.1
      have kf3_0_0 := q.2.2.1
      have kf3_0_1 := q.2.2.2.1
      have kl3_0 := q.2.2.2.2.1
      have kn3_0 := q.2.2.2.2.2.1
      have km3_0 := q.2.2.2.2.2.2
      clear q
      have q := keep2 h3 (b := w2.heap.size) (by first | (simp; done) | (simp; omega) | omega)
      have kc3_1_0 := q.1
      have kc3_1_1 := q.2.1
      have kf3_1_0 := q.2.2.1
      have kf3_1_1 := q.2.2.2.1
      have kl3_1 := q.2.2.2.2.1
      have kn3_1 := q.2.2.2.2.2.1
      have km3_1 := q.2.2.2.2.2.2
      clear q
      have kz3 := h3.size
      (try simp only [World.size_alloc, World.size_setCell, World.size_drew] at kz3)
      have H3 := Lib.hid h3
      clear h3
      go_wp2
      go_ret
      exact ⟨rfl, by refine RW1.out.trans ?_; (show Rel _ _; repeat (first | with_reducible exact Rel.refl _ | with_reducible refine Rel.alloc ?_ _ | with_reducible refine Rel.setCell ?_ (by first | (simp; done) | (simp; omega)) _ | with_reducible refine Rel.drew ?_ | with_reducible refine Rel.trans ?_ H3.out | with_reducible refine Rel.trans ?_ H2.out | with_reducible refine Rel.trans ?_ H1.out | with_reducible refine Rel.trans ?_ H0.out))⟩
    · have hI : Hid (IsTxt a0 N D) := by
        rcases hQ.out with ⟨_, h⟩ | ⟨h, _⟩
        · exact h
        · cases h
      have FM : Hid (∀ w, TabW w → Calls Tryd.prog 13 #[.agg #[.int .i64 N, .int .i64 D]] w fun e w' => e = .returned (.string a0) ∧ Rel w w') := fun w h => by
        have b := valid_bd hI.out.1
        have := Format_any N D w h (by omega) (by omega) (by omega) (by omega)
        unfold StrRes at this
        rwa [hI.out.2] at this
      have RW2 := Lib.hid (RW1.out.trans H1.out)
      go_wp2_with fail
      refine (fawake_any _).mono ?_
      unfold BRes
      rintro e w3 ⟨rfl, h3⟩
      have q := keep2 h3 (b := w1.heap.size) (by first | (simp; done) | (simp; omega) | omega)
      have kc3_0_0 := q.1
      have kc3_0_1 := q.2.1
      have kf3_0_0 := q.2.2.1
      have kf3_0_1 := q.2.2.2.1
      have kl3_0 := q.2.2.2.2.1
      have kn3_0 := q.2.2.2.2.2.1
      have km3_0 := q.2.2.2.2.2.2
      clear q
      have q := keep2 h3 (b := w2.heap.size) (by first | (simp; done) | (simp; omega) | omega)
      have kc3_1_0 := q.1
      have kc3_1_1 := q.2.1
      have kf3_1_0 := q.2.2.1
      have kf3_1_1 := q.2.2.2.1
      have kl3_1 := q.2.2.2.2.1
      have kn3_1 := q.2.2.2.2.2.1
      have km3_1 := q.2.2.2.2.2.2
      clear q
      have kz3 := h3.size
      (try simp only [World.size_alloc, World.size_setCell, World.size_drew] at kz3)
      have H3 := Lib.hid h3
      clear h3
      go_wp2_with fail
      refine (FM.out _ (ht.rel (by refine RW1.out.trans ?_; (show Rel _ _; repeat (first | with_reducible exact Rel.refl _ | with_reducible refine Rel.alloc ?_ _ | with_reducible refine Rel.setCell ?_ (by first | (simp; done) | (simp; omega)) _ | with_reducible refine Rel.drew ?_ | with_reducible refine Rel.trans ?_ H3.out | with_reducible refine Rel.trans ?_ H2.out | with_reducible refine Rel.trans ?_ H1.out | with_reducible refine Rel.trans ?_ H0.out))))).mono ?_
      rintro e w4 ⟨rfl, h4⟩
      have q := keep2 h4 (b := w1.heap.size) (by first | (simp; done) | (simp; omega) | omega)
      have kc4_0_0 := q.1
      have kc4_0_1 := q.2.1
      have kf4_0_0 := q.2.2.1
      have kf4_0_1 := q.2.2.2.1
      have kl4_0 := q.2.2.2.2.1
      have kn4_0 := q.2.2.2.2.2.1
      have km4_0 := q.2.2.2.2.2.2
      clear q
      have q := keep2 h4 (b := w2.heap.size) (by first | (simp; done) | (simp; omega) | omega)
      have kc4_1_0 := q.1
      have kc4_1_1 := q.2.1
      have kf4_1_0 := q.2.2.1
      have kf4_1_1 := q.2.2.2.1
      have kl4_1 := q.2.2.2.2.1
      have kn4_1 := q.2.2.2.2.2.1
      have km4_1 := q.2.2.2.2.2.2
      clear q
      have kz4 := h4.size
      (try simp only [World.size_alloc, World.size_setCell, World.size_drew] at kz4)
      have H4 := Lib.hid h4
      clear h4
      go_wp2
      go_ret
      exact ⟨rfl, by refine RW1.out.trans ?_; (show Rel _ _; repeat (first | with_reducible exact Rel.refl _ | with_reducible refine Rel.alloc ?_ _ | with_reducible refine Rel.setCell ?_ (by first | (simp; done) | (simp; omega)) _ | with_reducible refine Rel.drew ?_ | with_reducible refine Rel.trans ?_ H4.out | with_reducible refine Rel.trans ?_ H3.out | with_reducible refine Rel.trans ?_ H2.out | with_reducible refine Rel.trans ?_ H1.out | with_reducible refine Rel.trans ?_ H0.out))⟩
  · have t3 : (a2.tmod 3 != 0) = true := by simpa using h3
    clear h3
    go_enter Tryd.func5, Tryd.ntmps5
    go_wp2_with fail
    refine (OF.out _).mono ?_
    rintro e w1 ⟨n, d, ⟨⟨n0, n1⟩, d0, d1⟩, rfl, h1⟩
    have kz1 := h1.size
    (try simp only [World.size_alloc, World.size_setCell, World.size_drew] at kz1)
    have H1 := Lib.hid h1
    clear h1
    obtain ⟨F, hF⟩ : ∃ F, fmtS n d = F := ⟨_, rfl⟩
    obtain ⟨k, hk⟩ : ∃ k, F.size = k := ⟨_, rfl⟩
    have hk83 : k ≤ 83 := by
      have := fmtS_size n d
      rw [hF, hk] at this; exact this
    have RF := Lib.hid fun w => rFormat_any n d w n0 n1 d0 d1
    unfold StrRes at RF
    rw [hF] at RF
    clear hF n0 n1 d0 d1
    go_wp2_with fail
    refine (RF.out _).mono ?_
    rintro e w2 ⟨rfl, h2⟩
    have kz2 := h2.size
    (try simp only [World.size_alloc, World.size_setCell, World.size_drew] at kz2)
    have H2 := Lib.hid h2
    clear h2
    obtain ⟨W1, cap, xs, hrun, hl, hc, hf, hB, hg, hcap⟩ := bytesN_made F w2 k hk
    have HC := Lib.hid hc
    have HF := Lib.hid hf
    have HB := Lib.hid hB
    have HL := Lib.hid hl
    clear hc hf hB hl hk
    by_cases hk0 : k = 0
    · have z1 : decide (0 < (k : Int)) = false := decide_eq_false (by omega)
      have z2 : decide (0 < k) = false := decide_eq_false (by omega)
      have z3 : ¬ 0 < k := by omega
      obtain ⟨s2, hback, hm⟩ := bytesN_back W1 w2.heap.size cap k xs HL.out HC.out
      have hk0' := Lib.hid hk0
      clear hk0
      obtain ⟨N, D, B, hP⟩ := prs_ex s2
      have PA := Lib.hid fun w ht he => (Parse_frac s2 w (by omega) ht he).mono fun e w' h => prs_res hP h
      have PB := Lib.hid fun w => (ParseFraction_any s2 w (by omega)).mono fun e w' h => prs_res hP h
      have hQ := Lib.hid hP
      clear hP
      have RW1 : Hid (Rel w W1) := by
        show Rel _ _
        refine Rel.trans ?_ HB.out; (show Rel _ _; repeat (first | with_reducible exact Rel.refl _ | with_reducible refine Rel.alloc ?_ _ | with_reducible refine Rel.setCell ?_ (by first | (simp; done) | (simp; omega)) _ | with_reducible refine Rel.drew ?_ | with_reducible refine Rel.trans ?_ H2.out | with_reducible refine Rel.trans ?_ H1.out | with_reducible refine Rel.trans ?_ H0.out))
      go_wp2_with fail
      refine (PA.out _ (ht.rel RW1.out) (he.rel RW1.out)).mono ?_
      rintro e w4 ⟨rfl, h4⟩
      have kz4 := h4.size
      (try simp only [World.size_alloc, World.size_setCell, World.size_drew] at kz4)
      have H4 := Lib.hid h4
      clear h4
      go_wp2_with fail
      refine (PB.out _).mono ?_
      rintro e w5 ⟨rfl, h5⟩
      have q := keep2 h5 (b := w4.heap.size) (by first | (simp; done) | (simp; omega) | omega)
      have kc5_0_0 := q.1
      have kc5_0_1 := q.2.1
      have kf5_0_0 := q.2.2.1
      have kf5_0_1 := q.2.2.2.1
      have kl5_0 := q.2.2.2.2.1
      have kn5_0 := q.2.2.2.2.2.1
      have km5_0 := q.2.2.2.2.2.2
      clear q
      have kz5 := h5.size
      (try simp only [World.size_alloc, World.size_setCell, World.size_drew] at kz5)
      have H5 := Lib.hid h5
      clear h5
      cases B
      · go_wp2_with fail
        refine (fawake_any _).mono ?_
        unfold BRes
        rintro e w6 ⟨rfl, h6⟩
        have q := keep2 h6 (b := w4.heap.size) (by first | (simp; done) | (simp; omega) | omega)
        have kc6_0_0 := q.1
        have kc6_0_1 := q.2.1
        have kf6_0_0 := q.2.2.1
        have kf6_0_1 := q.2.2.2.1
        have kl6_0 := q.2.2.2.2.1
        have kn6_0 := q.2.2.2.2.2.1
        have km6_0 := q.2.2.2.2.2.2
        clear q
        have q := keep2 h6 (b := w5.heap.size) (by first | (simp; done) | (simp; omega) | omega)
        have kc6_1_0 := q.1
        have kc6_1_1 := q.2.1
        have kf6_1_0 := q.2.2.1
        have kf6_1_1 := q.2.2.2.1
        have kl6_1 := q.2.2.2.2.1
        have kn6_1 := q.2.2.2.2.2.1
        have km6_1 := q.2.2.2.2.2.2
        clear q
        have kz6 := h6.size
        (try simp only [World.size_alloc, World.size_setCell, World.size_drew] at kz6)
        have H6 := Lib.hid h6
        clear h6
        go_wp2
        go_ret
        exact ⟨rfl, by refine RW1.out.trans ?_; (show Rel _ _; repeat (first | with_reducible exact Rel.refl _ | with_reducible refine Rel.alloc ?_ _ | with_reducible refine Rel.setCell ?_ (by first | (simp; done) | (simp; omega)) _ | with_reducible refine Rel.drew ?_ | with_reducible refine Rel.trans ?_ H6.out | with_reducible refine Rel.trans ?_ H5.out | with_reducible refine Rel.trans ?_ H4.out | with_reducible refine Rel.trans ?_ H3.out | with_reducible refine Rel.trans ?_ H2.out | with_reducible refine Rel.trans ?_ H1.out | with_reducible refine Rel.trans ?_ H0.out))⟩
      · have hI : Hid (IsTxt s2 N D) := by
          rcases hQ.out with ⟨_, h⟩ | ⟨h, _⟩
          · exact h
          · cases h
        have FM : Hid (∀ w, TabW w → Calls Tryd.prog 13 #[.agg #[.int .i64 N, .int .i64 D]] w fun e w' => e = .returned (.string s2) ∧ Rel w w') := fun w h => by
          have b := valid_bd hI.out.1
          have := Format_any N D w h (by omega) (by omega) (by omega) (by omega)
          unfold StrRes at this
          rwa [hI.out.2] at this
        have RW2 := Lib.hid (RW1.out.trans H4.out)
        go_wp2_with fail
        refine (fawake_any _).mono ?_
        unfold BRes
        rintro e w6 ⟨rfl, h6⟩
        have q := keep2 h6 (b := w4.heap.size) (by first | (simp; done) | (simp; omega) | omega)
        have kc6_0_0 := q.1
        have kc6_0_1 := q.2.1
        have kf6_0_0 := q.2.2.1
        have kf6_0_1 := q.2.2.2.1
        have kl6_0 := q.2.2.2.2.1
        have kn6_0 := q.2.2.2.2.2.1
        have km6_0 := q.2.2.2.2.2.2
        clear q
        have q := keep2 h6 (b := w5.heap.size) (by first | (simp; done) | (simp; omega) | omega)
        have kc6_1_0 := q.1
        have kc6_1_1 := q.2.1
        have kf6_1_0 := q.2.2.1
        have kf6_1_1 := q.2.2.2.1
        have kl6_1 := q.2.2.2.2.1
        have kn6_1 := q.2.2.2.2.2.1
        have km6_1 := q.2.2.2.2.2.2
        clear q
        have kz6 := h6.size
        (try simp only [World.size_alloc, World.size_setCell, World.size_drew] at kz6)
        have H6 := Lib.hid h6
        clear h6
        go_wp2_with fail
        refine (FM.out _ (ht.rel (by refine RW1.out.trans ?_; (show Rel _ _; repeat (first | with_reducible exact Rel.refl _ | with_reducible refine Rel.alloc ?_ _ | with_reducible refine Rel.setCell ?_ (by first | (simp; done) | (simp; omega)) _ | with_reducible refine Rel.drew ?_ | with_reducible refine Rel.trans ?_ H6.out | with_reducible refine Rel.trans ?_ H5.out | with_reducible refine Rel.trans ?_ H4.out | with_reducible refine Rel.trans ?_ H3.out | with_reducible refine Rel.trans ?_ H2.out | with_reducible refine Rel.trans ?_ H1.out | with_reducible refine Rel.trans ?_ H0.out))))).mono ?_
        rintro e w7 ⟨rfl, h7⟩
        have q := keep2 h7 (b := w4.heap.size) (by first | (simp; done) | (simp; omega) | omega)
        have kc7_0_0 := q.1
        have kc7_0_1 := q.2.1
        have kf7_0_0 := q.2.2.1
        have kf7_0_1 := q.2.2.2.1
        have kl7_0 := q.2.2.2.2.1
        have kn7_0 := q.2.2.2.2.2.1
        have km7_0 := q.2.2.2.2.2.2
        clear q
        have q := keep2 h7 (b := w5.heap.size) (by first | (simp; done) | (simp; omega) | omega)
        have kc7_1_0 := q.1
        have kc7_1_1 := q.2.1
        have kf7_1_0 := q.2.2.1
        have kf7_1_1 := q.2.2.2.1
        have kl7_1 := q.2.2.2.2.1
        have kn7_1 := q.2.2.2.2.2.1
        have km7_1 := q.2.2.2.2.2.2
        clear q
        have kz7 := h7.size
        (try simp only [World.size_alloc, World.size_setCell, World.size_drew] at kz7)
        have H7 := Lib.hid h7
        clear h7
        go_wp2
        go_ret
        exact ⟨rfl, by refine RW1.out.trans ?_; (show Rel _ _; repeat (first | with_reducible exact Rel.refl _ | with_reducible refine Rel.alloc ?_ _ | with_reducible refine Rel.setCell ?_ (by first | (simp; done) | (simp; omega)) _ | with_reducible refine Rel.drew ?_ | with_reducible refine Rel.trans ?_ H7.out | with_reducible refine Rel.trans ?_ H6.out | with_reducible refine Rel.trans ?_ H5.out | with_reducible refine Rel.trans ?_ H4.out | with_reducible refine Rel.trans ?_ H3.out | with_reducible refine Rel.trans ?_ H2.out | with_reducible refine Rel.trans ?_ H1.out | with_reducible refine Rel.trans ?_ H0.out))⟩
    · have z1 : decide (0 < (k : Int)) = true := decide_eq_true (by omega)
      have z2 : decide (0 < k) = true := decide_eq_true (by omega)
      have z3 : 0 < k := by omega
      by_cases h2' : a2.tmod 2 = 0
      · have t2 : (a2.tmod 2 == 0) = true := by simpa using h2'
        clear h2'
        have p0 := Int.emod_nonneg a3 (show (k : Int) ≠ 0 by omega)
        have p1 := Int.emod_lt_of_pos a3 (show 0 < (k : Int) by omega)
        obtain ⟨j, hj⟩ : ∃ j : Nat, a3 % (k : Int) = j := ⟨(a3 % (k : Int)).toNat, by omega⟩
        rw [hj] at p0 p1
        have PK := Lib.hid fun w => pick_any a3 (k : Int) w b3 c3 (by omega) (by omega)
        rw [hj] at PK
        have W4 : IntKind.i64.wrap a4 = a4 := IntWalk.i64_in _ ⟨by omega, by omega⟩
        have q1 : a4.tmod 14 < 14 := Int.tmod_lt_of_pos a4 (by omega)
        have q0 : 0 ≤ a4.tmod 14 := Int.tmod_nonneg 14 b4
        have jk : j < k := by omega
        clear hj
        have hcj := HC.out j jk
        have hfj := HF.out j jk
        go_wp2_with fail
        refine wp_region_calm (fun _ _ => True) (fun _ => false) [0, 1, 2, 3, 4, 5, 6, 7, 8, 9] 1 (by kernel_rfl) (by kernel_rfl) (fun _ _ _ _ _ => trivial) trivial (fun w0 h0 => ?_)
        iterate 4
          refine wpCalm_go rfl (by kernel_rfl) (fun K hK => ?_)
          apply Exists.intro
          refine ⟨fun M w hM hS => ?_, hK _ ?_⟩
          · unfold calmAt
            go_simp
            exact ⟨rfl, Rel.refl _⟩
          clear hK K
        refine wpCalm_go rfl (by kernel_rfl) (fun K hK => ?_)
        apply Exists.intro
        refine ⟨fun M w hM hS => ?_, hK _ ?_⟩
        · unfold calmAt
          go_simp
          with_reducible refine (PK.out _).mono ?_
          rintro e w1 ⟨rfl, rfl⟩
          exact ⟨rfl, Rel.refl _⟩
        clear hK K
        iterate 5
          refine wpCalm_go rfl (by kernel_rfl) (fun K hK => ?_)
          apply Exists.intro
          refine ⟨fun M w hM hS => ?_, hK _ ?_⟩
          · unfold calmAt
            go_simp
            exact ⟨rfl, Rel.refl _⟩
          clear hK K
        refine wpCalm_nil ?_
        refine wpAnyR_ready (rs := [10]) (by kernel_rfl) (by simp) (AllR.cons rfl (fun w9 h9 K' hK' => ?_) AllR.nil)
        have hcj9 := h9.cell (h0.cell hcj)
        have hfj9 := h9.frozen (h0.lt hg) (h0.frozen hg hfj)
        go_simp
        refine hK'.out _ _ trivial ?_
        clear hK' K'
        refine wpAnyR_end (by kernel_rfl) (fun w10 h10 => ?_)
        (try simp only [Act.put, List.setIfInBounds_toArray, List.set_cons_zero, List.set_cons_succ])
        have hc10 := fun i hi => h10.cell (bytesN_set w9 w2.heap.size j k xs _ jk HL.out (fun i hi => h9.cell (h0.cell (HC.out i hi))) i hi)
        have H3 : Hid (Rel w2 w10) := ((HB.out.trans (h0.trans h9)).setCell (Nat.le_refl _) _).trans h10
        obtain ⟨s2, hback, hm⟩ := bytesN_back w10 w2.heap.size cap k _ (by simpa using HL.out) hc10
        clear hc10 h10 hcj9 hfj9 hcj hfj h9 h0
        obtain ⟨N, D, B, hP⟩ := prs_ex s2
        have PA := Lib.hid fun w ht he => (Parse_frac s2 w (by omega) ht he).mono fun e w' h => prs_res hP h
        have PB := Lib.hid fun w => (ParseFraction_any s2 w (by omega)).mono fun e w' h => prs_res hP h
        have hQ := Lib.hid hP
        clear hP
        have RW1 : Hid (Rel w w10) := by
          show Rel _ _
          refine Rel.trans ?_ H3.out; (show Rel _ _; repeat (first | with_reducible exact Rel.refl _ | with_reducible refine Rel.alloc ?_ _ | with_reducible refine Rel.setCell ?_ (by first | (simp; done) | (simp; omega)) _ | with_reducible refine Rel.drew ?_ | with_reducible refine Rel.trans ?_ H2.out | with_reducible refine Rel.trans ?_ H1.out | with_reducible refine Rel.trans ?_ H0.out))
        go_wp2_with fail
        refine (PA.out _ (ht.rel RW1.out) (he.rel RW1.out)).mono ?_
        rintro e w4 ⟨rfl, h4⟩
        have kz4 := h4.size
        (try simp only [World.size_alloc, World.size_setCell, World.size_drew] at kz4)
        have H4 := Lib.hid h4
        clear h4
        go_wp2_with fail
        refine (PB.out _).mono ?_
        rintro e w5 ⟨rfl, h5⟩
        have q := keep2 h5 (b := w4.heap.size) (by first | (simp; done) | (simp; omega) | omega)
        have kc5_0_0 := q.1
        have kc5_0_1 := q.2.1
        have kf5_0_0 := q.2.2.1
        have kf5_0_1 := q.2.2.2.1
        have kl5_0 := q.2.2.2.2.1
        have kn5_0 := q.2.2.2.2.2.1
        have km5_0 := q.2.2.2.2.2.2
        clear q
        have kz5 := h5.size
        (try simp only [World.size_alloc, World.size_setCell, World.size_drew] at kz5)
        have H5 := Lib.hid h5
        clear h5
        cases B
        · go_wp2_with fail
          refine (fawake_any _).mono ?_
          unfold BRes
          rintro e w6 ⟨rfl, h6⟩
          have q := keep2 h6 (b := w4.heap.size) (by first | (simp; done) | (simp; omega) | omega)
          have kc6_0_0 := q.1
          have kc6_0_1 := q.2.1
          have kf6_0_0 := q.2.2.1
          have kf6_0_1 := q.2.2.2.1
          have kl6_0 := q.2.2.2.2.1
          have kn6_0 := q.2.2.2.2.2.1
          have km6_0 := q.2.2.2.2.2.2
          clear q
          have q := keep2 h6 (b := w5.heap.size) (by first | (simp; done) | (simp; omega) | omega)
          have kc6_1_0 := q.1
          have kc6_1_1 := q.2.1
          have kf6_1_0 := q.2.2.1
          have kf6_1_1 := q.2.2.2.1
          have kl6_1 := q.2.2.2.2.1
          have kn6_1 := q.2.2.2.2.2.1
          have km6_1 := q.2.2.2.2.2.2
          clear q
          have kz6 := h6.size
          (try simp only [World.size_alloc, World.size_setCell, World.size_drew] at kz6)
          have H6 := Lib.hid h6
          clear h6
          go_wp2
          go_ret
          exact ⟨rfl, by refine RW1.out.trans ?_; (show Rel _ _; repeat (first | with_reducible exact Rel.refl _ | with_reducible refine Rel.alloc ?_ _ | with_reducible refine Rel.setCell ?_ (by first | (simp; done) | (simp; omega)) _ | with_reducible refine Rel.drew ?_ | with_reducible refine Rel.trans ?_ H6.out | with_reducible refine Rel.trans ?_ H5.out | with_reducible refine Rel.trans ?_ H4.out | with_reducible refine Rel.trans ?_ H3.out | with_reducible refine Rel.trans ?_ H2.out | with_reducible refine Rel.trans ?_ H1.out | with_reducible refine Rel.trans ?_ H0.out))⟩
        · have hI : Hid (IsTxt s2 N D) := by
            rcases hQ.out with ⟨_, h⟩ | ⟨h, _⟩
            · exact h
            · cases h
          have FM : Hid (∀ w, TabW w → Calls Tryd.prog 13 #[.agg #[.int .i64 N, .int .i64 D]] w fun e w' => e = .returned (.string s2) ∧ Rel w w') := fun w h => by
            have b := valid_bd hI.out.1
            have := Format_any N D w h (by omega) (by omega) (by omega) (by omega)
            unfold StrRes at this
            rwa [hI.out.2] at this
          have RW2 := Lib.hid (RW1.out.trans H4.out)
          go_wp2_with fail
          refine (fawake_any _).mono ?_
          unfold BRes
          rintro e w6 ⟨rfl, h6⟩
          have q := keep2 h6 (b := w4.heap.size) (by first | (simp; done) | (simp; omega) | omega)
          have kc6_0_0 := q.1
          have kc6_0_1 := q.2.1
          have kf6_0_0 := q.2.2.1
          have kf6_0_1 := q.2.2.2.1
          have kl6_0 := q.2.2.2.2.1
          have kn6_0 := q.2.2.2.2.2.1
          have km6_0 := q.2.2.2.2.2.2
          clear q
          have q := keep2 h6 (b := w5.heap.size) (by first | (simp; done) | (simp; omega) | omega)
          have kc6_1_0 := q.1
          have kc6_1_1 := q.2.1
          have kf6_1_0 := q.2.2.1
          have kf6_1_1 := q.2.2.2.1
          have kl6_1 := q.2.2.2.2.1
          have kn6_1 := q.2.2.2.2.2.1
          have km6_1 := q.2.2.2.2.2.2
          clear q
          have kz6 := h6.size
          (try simp only [World.size_alloc, World.size_setCell, World.size_drew] at kz6)
          have H6 := Lib.hid h6
          clear h6
          go_wp2_with fail
          refine (FM.out _ (ht.rel (by refine RW1.out.trans ?_; (show Rel _ _; repeat (first | with_reducible exact Rel.refl _ | with_reducible refine Rel.alloc ?_ _ | with_reducible refine Rel.setCell ?_ (by first | (simp; done) | (simp; omega)) _ | with_reducible refine Rel.drew ?_ | with_reducible refine Rel.trans ?_ H6.out | with_reducible refine Rel.trans ?_ H5.out | with_reducible refine Rel.trans ?_ H4.out | with_reducible refine Rel.trans ?_ H3.out | with_reducible refine Rel.trans ?_ H2.out | with_reducible refine Rel.trans ?_ H1.out | with_reducible refine Rel.trans ?_ H0.out))))).mono ?_
          rintro e w7 ⟨rfl, h7⟩
          have q := keep2 h7 (b := w4.heap.size) (by first | (simp; done) | (simp; omega) | omega)
          have kc7_0_0 := q.1
          have kc7_0_1 := q.2.1
          have kf7_0_0 := q.2.2.1
          have kf7_0_1 := q.2.2.2.1
          have kl7_0 := q.2.2.2.2.1
          have kn7_0 := q.2.2.2.2.2.1
          have km7_0 := q.2.2.2.2.2.2
          clear q
          have q := keep2 h7 (b := w5.heap.size) (by first | (simp; done) | (simp; omega) | omega)
          have kc7_1_0 := q.1
          have kc7_1_1 := q.2.1
          have kf7_1_0 := q.2.2.1
          have kf7_1_1 := q.2.2.2.1
          have kl7_1 := q.2.2.2.2.1
          have kn7_1 := q.2.2.2.2.2.1
          have km7_1 := q.2.2.2.2.2.2
          clear q
          have kz7 := h7.size
          (try simp only [World.size_alloc, World.size_setCell, World.size_drew] at kz7)
          have H7 := Lib.hid h7
          clear h7
          go_wp2
          go_ret
          exact ⟨rfl, by refine RW1.out.trans ?_; (show Rel _ _; repeat (first | with_reducible exact Rel.refl _ | with_reducible refine Rel.alloc ?_ _ | with_reducible refine Rel.setCell ?_ (by first | (simp; done) | (simp; omega)) _ | with_reducible refine Rel.drew ?_ | with_reducible refine Rel.trans ?_ H7.out | with_reducible refine Rel.trans ?_ H6.out | with_reducible refine Rel.trans ?_ H5.out | with_reducible refine Rel.trans ?_ H4.out | with_reducible refine Rel.trans ?_ H3.out | with_reducible refine Rel.trans ?_ H2.out | with_reducible refine Rel.trans ?_ H1.out | with_reducible refine Rel.trans ?_ H0.out))⟩
      · have t2 : (a2.tmod 2 == 0) = false := by simpa using h2'
        clear h2'
        obtain ⟨s2, hback, hm⟩ := bytesN_back W1 w2.heap.size cap k xs HL.out HC.out
        obtain ⟨N, D, B, hP⟩ := prs_ex s2
        have PA := Lib.hid fun w ht he => (Parse_frac s2 w (by omega) ht he).mono fun e w' h => prs_res hP h
        have PB := Lib.hid fun w => (ParseFraction_any s2 w (by omega)).mono fun e w' h => prs_res hP h
        have hQ := Lib.hid hP
        clear hP
        have RW1 : Hid (Rel w W1) := by
          show Rel _ _
          refine Rel.trans ?_ HB.out; (show Rel _ _; repeat (first | with_reducible exact Rel.refl _ | with_reducible refine Rel.alloc ?_ _ | with_reducible refine Rel.setCell ?_ (by first | (simp; done) | (simp; omega)) _ | with_reducible refine Rel.drew ?_ | with_reducible refine Rel.trans ?_ H2.out | with_reducible refine Rel.trans ?_ H1.out | with_reducible refine Rel.trans ?_ H0.out))
        go_wp2_with fail
        refine (PA.out _ (ht.rel RW1.out) (he.rel RW1.out)).mono ?_
        rintro e w4 ⟨rfl, h4⟩
        have kz4 := h4.size
        (try simp only [World.size_alloc, World.size_setCell, World.size_drew] at kz4)
        have H4 := Lib.hid h4
        clear h4
        go_wp2_with fail
        refine (PB.out _).mono ?_
        rintro e w5 ⟨rfl, h5⟩
        have q := keep2 h5 (b := w4.heap.size) (by first | (simp; done) | (simp; omega) | omega)
        have kc5_0_0 := q.1
        have kc5_0_1 := q.2.1
        have kf5_0_0 := q.2.2.1
        have kf5_0_1 := q.2.2.2.1
        have kl5_0 := q.2.2.2.2.1
        have kn5_0 := q.2.2.2.2.2.1
        have km5_0 := q.2.2.2.2.2.2
        clear q
        have kz5 := h5.size
        (try simp only [World.size_alloc, World.size_setCell, World.size_drew] at kz5)
        have H5 := Lib.hid h5
        clear h5
        cases B
        · go_wp2_with fail
          refine (fawake_any _).mono ?_
          unfold BRes
          rintro e w6 ⟨rfl, h6⟩
          have q := keep2 h6 (b := w4.heap.size) (by first | (simp; done) | (simp; omega) | omega)
          have kc6_0_0 := q.1
          have kc6_0_1 := q.2.1
          have kf6_0_0 := q.2.2.1
          have kf6_0_1 := q.2.2.2.1
          have kl6_0 := q.2.2.2.2.1
          have kn6_0 := q.2.2.2.2.2.1
          have km6_0 := q.2.2.2.2.2.2
          clear q
          have q := keep2 h6 (b := w5.heap.size) (by first | (simp; done) | (simp; omega) | omega)
          have kc6_1_0 := q.1
          have kc6_1_1 := q.2.1
          have kf6_1_0 := q.2.2.1
          have kf6_1_1 := q.2.2.2.1
          have kl6_1 := q.2.2.2.2.1
          have kn6_1 := q.2.2.2.2.2.1
          have km6_1 := q.2.2.2.2.2.2
          clear q
          have kz6 := h6.size
          (try simp only [World.size_alloc, World.size_setCell, World.size_drew] at kz6)
          have H6 := Lib.hid h6
          clear h6
          go_wp2
          go_ret
          exact ⟨rfl, by refine RW1.out.trans ?_; (show Rel _ _; repeat (first | with_reducible exact Rel.refl _ | with_reducible refine Rel.alloc ?_ _ | with_reducible refine Rel.setCell ?_ (by first | (simp; done) | (simp; omega)) _ | with_reducible refine Rel.drew ?_ | with_reducible refine Rel.trans ?_ H6.out | with_reducible refine Rel.trans ?_ H5.out | with_reducible refine Rel.trans ?_ H4.out | with_reducible refine Rel.trans ?_ H3.out | with_reducible refine Rel.trans ?_ H2.out | with_reducible refine Rel.trans ?_ H1.out | with_reducible refine Rel.trans ?_ H0.out))⟩
        · have hI : Hid (IsTxt s2 N D) := by
            rcases hQ.out with ⟨_, h⟩ | ⟨h, _⟩
            · exact h
            · cases h
          have FM : Hid (∀ w, TabW w → Calls Tryd.prog 13 #[.agg #[.int .i64 N, .int .i64 D]] w fun e w' => e = .returned (.string s2) ∧ Rel w w') := fun w h => by
            have b := valid_bd hI.out.1
            have := Format_any N D w h (by omega) (by omega) (by omega) (by omega)
            unfold StrRes at this
            rwa [hI.out.2] at this
          have RW2 := Lib.hid (RW1.out.trans H4.out)
          go_wp2_with fail
          refine (fawake_any _).mono ?_
          unfold BRes
          rintro e w6 ⟨rfl, h6⟩
          have q := keep2 h6 (b := w4.heap.size) (by first | (simp; done) | (simp; omega) | omega)
          have kc6_0_0 := q.1
          have kc6_0_1 := q.2.1
          have kf6_0_0 := q.2.2.1
          have kf6_0_1 := q.2.2.2.1
          have kl6_0 := q.2.2.2.2.1
          have kn6_0 := q.2.2.2.2.2.1
          have km6_0 := q.2.2.2.2.2.2
          clear q
          have q := keep2 h6 (b := w5.heap.size) (by first | (simp; done) | (simp; omega) | omega)
          have kc6_1_0 := q.1
          have kc6_1_1 := q.2.1
          have kf6_1_0 := q.2.2.1
          have kf6_1_1 := q.2.2.2.1
          have kl6_1 := q.2.2.2.2.1
          have kn6_1 := q.2.2.2.2.2.1
          have km6_1 := q.2.2.2.2.2.2
          clear q
          have kz6 := h6.size
          (try simp only [World.size_alloc, World.size_setCell, World.size_drew] at kz6)
          have H6 := Lib.hid h6
          clear h6
          go_wp2_with fail
          refine (FM.out _ (ht.rel (by refine RW1.out.trans ?_; (show Rel _ _; repeat (first | with_reducible exact Rel.refl _ | with_reducible refine Rel.alloc ?_ _ | with_reducible refine Rel.setCell ?_ (by first | (simp; done) | (simp; omega)) _ | with_reducible refine Rel.drew ?_ | with_reducible refine Rel.trans ?_ H6.out | with_reducible refine Rel.trans ?_ H5.out | with_reducible refine Rel.trans ?_ H4.out | with_reducible refine Rel.trans ?_ H3.out | with_reducible refine Rel.trans ?_ H2.out | with_reducible refine Rel.trans ?_ H1.out | with_reducible refine Rel.trans ?_ H0.out))))).mono ?_
          rintro e w7 ⟨rfl, h7⟩
          have q := keep2 h7 (b := w4.heap.size) (by first | (simp; done) | (simp; omega) | omega)
          have kc7_0_0 := q.1
          have kc7_0_1 := q.2.1
          have kf7_0_0 := q.2.2.1
          have kf7_0_1 := q.2.2.2.1
          have kl7_0 := q.2.2.2.2.1
          have kn7_0 := q.2.2.2.2.2.1
          have km7_0 := q.2.2.2.2.2.2
          clear q
          have q := keep2 h7 (b := w5.heap.size) (by first | (simp; done) | (simp; omega) | omega)
          have kc7_1_0 := q.1
          have kc7_1_1 := q.2.1
          have kf7_1_0 := q.2.2.1
          have kf7_1_1 := q.2.2.2.1
          have kl7_1 := q.2.2.2.2.1
          have kn7_1 := q.2.2.2.2.2.1
          have km7_1 := q.2.2.2.2.2.2
          clear q
          have kz7 := h7.size
          (try simp only [World.size_alloc, World.size_setCell, World.size_drew] at kz7)
          have H7 := Lib.hid h7
          clear h7
          go_wp2
          go_ret
          exact ⟨rfl, by refine RW1.out.trans ?_; (show Rel _ _; repeat (first | with_reducible exact Rel.refl _ | with_reducible refine Rel.alloc ?_ _ | with_reducible refine Rel.setCell ?_ (by first | (simp; done) | (simp; omega)) _ | with_reducible refine Rel.drew ?_ | with_reducible refine Rel.trans ?_ H7.out | with_reducible refine Rel.trans ?_ H6.out | with_reducible refine Rel.trans ?_ H5.out | with_reducible refine Rel.trans ?_ H4.out | with_reducible refine Rel.trans ?_ H3.out | with_reducible refine Rel.trans ?_ H2.out | with_reducible refine Rel.trans ?_ H1.out | with_reducible refine Rel.trans ?_ H0.out))⟩

end Go.Proofs.YtfdajdlbkdfhoaaDoor

/- The walks of CalendarTexts and CalendarParses: for every argument the law returns true and nothing that was there has turned. No conditions but the bounds that the arguments have by their types. -/
import Derived.Test.YtddgobjblbhlbaaCalU
import Derived.Laws.IdiomStrings
namespace Go.Proofs.Ytddgobjblbhlbaa
open Go.RowKit Cal Str
set_option linter.unusedVariables false

theorem fmtD_size (d : Int) : (fmtD d).size ≤ 10 := by
  cases h : vdayB d
  · rw [fmtD_no h]; decide
  · have := (fmt_parse h).2.2; omega
theorem fmtD_max (d : Int) : (fmtD d).size ≤ maxLen := by
  have := fmtD_size d; unfold maxLen; omega

set_option maxHeartbeats 1000000 in
theorem walk_CalendarTexts (a0 : Int) (b0 : -9223372036854775808 ≤ a0) (c0 : a0 ≤ 9223372036854775807) (w : World) :
    Calls Try.prog 15 #[.int .i64 a0] w fun e w' => e = .returned (.bool true) ∧ Below w.heap.size w w' := by
  clear b0 c0
  obtain ⟨d, hd⟩ : ∃ d, d = nearN a0 := ⟨_, rfl⟩
  have hD := Lib.hid hd
  clear hd
  have hm := fmtD_max d
  cases h : vdayB d
  · have hf : prsB (fmtD d) = false := by
      rw [fmtD_no h]; rfl
    go_enter Try.func15, Try.ntmps15
    go_wp2_with (first | (go_at_call 21; refine (near_any _ _).mono ?_; rw [← hD.out]; rintro e w1 ⟨rfl, rfl⟩) | (go_at_call 39; refine (Format_any _ _).mono ?_; rintro e w1 ⟨rfl, hb1⟩) | (go_at_call 40; refine (Parse_any _ _ hm).mono ?_; rintro e w1 ⟨rfl, hb2⟩) | (go_at_call 20; refine (awake_any _).mono ?_; rintro e w1 ⟨rfl, hb3⟩) | (go_at_call 41; refine (FormatDay_any _ _).mono ?_; rintro e w1 ⟨rfl, rfl⟩) | (go_at_call 24; refine (Valid_any _ _).mono ?_; rintro e w1 ⟨rfl, rfl⟩))
    go_ret
    exact ⟨ret_b (by first | rfl | (simp; done)), (by repeat (first | with_reducible exact Below.refl _ _ | with_reducible assumption | refine below_seq ?_ (by with_reducible assumption)))⟩
  · obtain ⟨f1, f2, f3⟩ := fmt_parse h
    clear f3
    go_enter Try.func15, Try.ntmps15
    go_wp2_with (first | (go_at_call 21; refine (near_any _ _).mono ?_; rw [← hD.out]; rintro e w1 ⟨rfl, rfl⟩) | (go_at_call 39; refine (Format_any _ _).mono ?_; rintro e w1 ⟨rfl, hb1⟩) | (go_at_call 40; refine (Parse_any _ _ hm).mono ?_; rintro e w1 ⟨rfl, hb2⟩) | (go_at_call 20; refine (awake_any _).mono ?_; rintro e w1 ⟨rfl, hb3⟩) | (go_at_call 41; refine (FormatDay_any _ _).mono ?_; rintro e w1 ⟨rfl, rfl⟩) | (go_at_call 24; refine (Valid_any _ _).mono ?_; rintro e w1 ⟨rfl, rfl⟩))
    go_ret
    exact ⟨ret_b (by first | rfl | (simp; done)), (by repeat (first | with_reducible exact Below.refl _ _ | with_reducible assumption | refine below_seq ?_ (by with_reducible assumption)))⟩

/-- The law's tail: the string s is read by both. -/
theorem parse_facts (s : ByteArray) : prsB s = false ∨ (prsB s = true ∧ fmtD (prsN s) = s) := by
  cases h : prsB s
  · exact .inl rfl
  · exact .inr ⟨rfl, (parse_fmt h).1⟩

/-- A text of ten bytes made into a row of bytes. -/
theorem bytes_made (s : ByteArray) (w : World) (hs : s.size = 10) : ∃ (W1 : World) (cap : Nat) (xs : List Int),
    Sem.run Try.prog (convert 9 40 (.string s)) w = .ok (.slice (some ⟨w.heap.size, 0, none⟩) 10 cap) W1 ∧ xs.length = 10 ∧
    (∀ i, i < 10 → W1.cell? ⟨w.heap.size, i, none⟩ = some (.int .u8 (xs.getD i 0))) ∧ (∀ i, i < 10 → W1.frozen? ⟨w.heap.size, i, none⟩ = false) ∧ Below w.heap.size w W1 ∧ w.heap.size < W1.heap.size ∧ 10 ≤ cap := by
  have h := run_bytes_of_string (P := Try.prog) w 9 40 5 s Try.underlying9 Try.underlying40 Try.underlying5
  have hcap := grownCap_ge w s.size 0 5
  rw [hs] at h hcap
  generalize hC : grownCap w 10 0 5 = cap at h hcap
  have hsz : (bytesRow s cap).size = cap := by
    unfold bytesRow; simp [hs]
    have : s.data.size = 10 := hs
    omega
  refine ⟨_, cap, s.data.toList.map (fun b => (b.toNat : Int)), h, by simpa using hs, ?_, ?_, ?_, ?_, hcap⟩
  · intro i hi
    have := World.cell?_alloc_mark w.drew (bytesRow s cap) 5 ((bytesRow s cap).size, (bytesRow s cap).size + 1) i
    have e : w.drew.heap.size = w.heap.size := rfl
    rw [e] at this
    rw [this, bytesRow_at s cap i (by have : s.data.size = 10 := hs; omega)]
    have hl : i < s.data.size := by have : s.data.size = 10 := hs; omega
    simp only [List.getD, List.getElem?_map, Array.getElem?_toList]
    rw [Array.getElem?_eq_getElem hl]; rfl
  · intro i hi
    have := World.frozen?_alloc_mark w.drew (bytesRow s cap) 5 (bytesRow s cap).size ((bytesRow s cap).size + 1) i
    have e : w.drew.heap.size = w.heap.size := rfl
    rw [e] at this
    rw [this, hsz]
    simp; omega
  · exact ((Below.refl _ _).drew).alloc (Nat.le_refl _) _
  · simp

theorem bytes_back (W : World) (g cap : Nat) (xs : List Int) (hl : xs.length = 10) (hc : ∀ i, i < 10 → W.cell? ⟨g, i, none⟩ = some (.int .u8 (xs.getD i 0))) :
    ∃ s : ByteArray, Sem.run Try.prog (convert 40 9 (.slice (some ⟨g, 0, none⟩) 10 cap)) W = .ok (.string s) W ∧ s.size ≤ maxLen := by
  refine ⟨strOfNums xs, run_convert_bytes_arg W 40 5 Try.underlying40 Try.underlying5 g 0 10 cap xs hl (fun i hi => by rw [Nat.zero_add]; exact hc i hi) 9 Try.underlying9, ?_⟩
  rw [strOfNums_size, hl]; decide

theorem bytes_set (W : World) (g j : Nat) (xs : List Int) (v : Int) (hj : j < 10) (hl : xs.length = 10) (hc : ∀ i, i < 10 → W.cell? ⟨g, i, none⟩ = some (.int .u8 (xs.getD i 0))) :
    ∀ i, i < 10 → (W.setCell ⟨g, j, none⟩ (.int .u8 v)).cell? ⟨g, i, none⟩ = some (.int .u8 ((xs.set j v).getD i 0)) := by
  intro i hi
  by_cases e : i = j
  · subst e
    rw [World.cell?_setCell_same _ _ _ (hc i hi)]
    simp [List.getD, hl, hi]
  · rw [World.cell?_setCell_other _ _ _ _ (fun h => e (by injection h with _ h2 _; exact h2.symm)), hc i hi]
    simp [List.getD, Ne.symm e]

set_option maxHeartbeats 1000000 in
theorem walk_CalendarParses (a0 : ByteArray) (a1 : Int) (a2 : Int) (a3 : Int) (b0 : a0.size ≤ maxLen) (b1 : -9223372036854775808 ≤ a1) (c1 : a1 ≤ 9223372036854775807) (b2 : -9223372036854775808 ≤ a2) (c2 : a2 ≤ 9223372036854775807) (b3 : 0 ≤ a3) (c3 : a3 ≤ 255) (w : World) :
    Calls Try.prog 16 #[.string a0, .int .i64 a1, .int .i64 a2, .int .u8 a3] w fun e w' => e = .returned (.bool true) ∧ Below w.heap.size w w' := by
  by_cases h3 : a1.tmod 3 = 0
  · have t3 : (a1.tmod 3 != 0) = false := by simpa using h3
    clear h3
    rcases parse_facts a0 with f1 | ⟨f1, f2⟩
    all_goals
      go_enter Try.func16, Try.ntmps16
      go_wp2_with (first | (go_at_call 39; refine (Format_any _ _).mono ?_; rintro e w1 ⟨rfl, hb1⟩) | (go_at_call 40; refine (Parse_any _ _ b0).mono ?_; rintro e w1 ⟨rfl, hb2⟩) | (go_at_call 42; refine (RParse_any _ _ b0).mono ?_; rintro e w1 ⟨rfl, rfl⟩) | (go_at_call 20; refine (awake_any _).mono ?_; rintro e w1 ⟨rfl, hb3⟩))
      go_ret
      exact ⟨ret_b (by first | rfl | (simp; done)), (by repeat (first | with_reducible exact Below.refl _ _ | with_reducible assumption | refine below_seq ?_ (by with_reducible assumption)))⟩
  · have t3 : (a1.tmod 3 != 0) = true := by simpa using h3
    clear h3
    obtain ⟨s, hs⟩ : ∃ s, s = fmtD (a1 % 73049) := ⟨_, rfl⟩
    have hz : s.size = 10 := by rw [hs]; exact (fmt_parse ((vdayB_iff _).2 (by omega))).2.2
    have hS := Lib.hid hs
    clear hs
    obtain ⟨W1, cap, xs, hrun, hl, hc, hf, hB, hg, hcap⟩ := bytes_made s w hz
    have hj : (a2 % 10).toNat < 10 := by omega
    by_cases h2 : a1.tmod 2 = 0
    · have t2 : (a1.tmod 2 == 0) = true := by simpa using h2
      have hcj := hc _ hj
      have hfj := hf _ hj
      obtain ⟨s2, hback, hm⟩ := bytes_back (W1.setCell ⟨w.heap.size, (a2 % 10).toNat, none⟩ (.int .u8 (48 + a3 % 12))) w.heap.size cap _ (by simpa using hl) (bytes_set W1 w.heap.size (a2 % 10).toNat xs (48 + a3 % 12) hj hl hc)
      clear h2 hc hf hl hz
      rcases parse_facts s2 with f1 | ⟨f1, f2⟩
      all_goals
        go_enter Try.func16, Try.ntmps16
        go_wp2_with (first | (go_at_call 17; refine (Pick_any _ _ _ (by omega) (by omega)).mono ?_; rintro e w1 ⟨rfl, rfl⟩) | (go_at_call 41; refine (FormatDay_any _ _).mono ?_; rw [← hS.out]; rintro e w1 ⟨rfl, rfl⟩) | (go_at_call 39; refine (Format_any _ _).mono ?_; rintro e w1 ⟨rfl, hb1⟩) | (go_at_call 40; refine (Parse_any _ _ hm).mono ?_; rintro e w1 ⟨rfl, hb2⟩) | (go_at_call 42; refine (RParse_any _ _ hm).mono ?_; rintro e w1 ⟨rfl, rfl⟩) | (go_at_call 20; refine (awake_any _).mono ?_; rintro e w1 ⟨rfl, hb3⟩))
        go_ret
        exact ⟨ret_b (by first | rfl | (simp; done)), by
          have h0 : Below w.heap.size w (W1.setCell ⟨w.heap.size, (a2 % 10).toNat, none⟩ (.int .u8 (48 + a3 % 12))) := hB.setCell (Nat.le_refl _) _
          exact below_seq h0 (by repeat (first | with_reducible exact Below.refl _ _ | with_reducible assumption | refine below_seq ?_ (by with_reducible assumption)))⟩
    · have t2 : (a1.tmod 2 == 0) = false := by simpa using h2
      obtain ⟨s2, hback, hm⟩ := bytes_back W1 w.heap.size cap _ hl hc
      clear h2 hc hf hl hz
      rcases parse_facts s2 with f1 | ⟨f1, f2⟩
      all_goals
        go_enter Try.func16, Try.ntmps16
        go_wp2_with (first | (go_at_call 17; refine (Pick_any _ _ _ (by omega) (by omega)).mono ?_; rintro e w1 ⟨rfl, rfl⟩) | (go_at_call 41; refine (FormatDay_any _ _).mono ?_; rw [← hS.out]; rintro e w1 ⟨rfl, rfl⟩) | (go_at_call 39; refine (Format_any _ _).mono ?_; rintro e w1 ⟨rfl, hb1⟩) | (go_at_call 40; refine (Parse_any _ _ hm).mono ?_; rintro e w1 ⟨rfl, hb2⟩) | (go_at_call 42; refine (RParse_any _ _ hm).mono ?_; rintro e w1 ⟨rfl, rfl⟩) | (go_at_call 20; refine (awake_any _).mono ?_; rintro e w1 ⟨rfl, hb3⟩))
        go_ret
        exact ⟨ret_b (by first | rfl | (simp; done)), (by repeat (first | with_reducible exact Below.refl _ _ | with_reducible assumption | refine below_seq ?_ (by with_reducible assumption)))⟩

end Go.Proofs.Ytddgobjblbhlbaa

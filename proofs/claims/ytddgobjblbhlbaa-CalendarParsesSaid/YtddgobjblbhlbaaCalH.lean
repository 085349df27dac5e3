/- Contracts of Age of the calendar and of the reference, and the plain facts on ages. No conditions but those printed. -/
import Derived.Test.YtddgobjblbhlbaaCalG
namespace Go.Proofs.Ytddgobjblbhlbaa
open Go.RowKit Cal

theorem monOf_mono {a b : Int} (ha : vdayB a = true) (hb : vdayB b = true) (h : a ≤ b) : monOf a ≤ monOf b := by
  have h1 := monOf_spec a ha
  have h2 := monOf_spec b hb
  rcases Nat.lt_or_ge (monOf b) (monOf a) with hlt | hge
  · have := msum_lt hlt; omega
  · exact hge
theorem dY_mono {a b : Int} (ha : vdayB a = true) (hb : vdayB b = true) (h : a ≤ b) : dY a ≤ dY b := by
  have := monOf_mono ha hb h
  rw [dY_yes ha, dY_yes hb]; omega
theorem bd_facts {d n : Int} (h : bdB d n = true) : vdayB (bdN d n) = true ∧ dY (bdN d n) = dY d + n := by
  have := date_day _ _ _ (bd_date h)
  rw [bdN_yes h]; exact ⟨this.1, this.2.1⟩
theorem bd_zero {d : Int} (h : vdayB d = true) : bdB d 0 = true ∧ bdN d 0 = d := by
  obtain ⟨a0, a1, a2, a3, a4, a5⟩ := date_bd h
  have hb : bdB d 0 = true := (bdB_iff d 0).2 ⟨h, by omega, by omega⟩
  refine ⟨hb, ?_⟩
  have hm : movedB d 0 = false := by
    cases hm : movedB d 0
    · rfl
    · simp [movedB] at hm
      obtain ⟨⟨m2, d29⟩, hl⟩ := hm
      have hl2 : ¬ leapB (dY d) = true := by simp [hl]
      rw [m2, mlen_2, if_neg hl2] at a5
      omega
  obtain ⟨e1, e2⟩ := moved_no hm
  rw [bdN_yes hb, e1, e2, Int.add_zero]
  exact (day_date d h).2
theorem bd_lt {d m n : Int} (h : bdB d m = true) (h' : bdB d n = true) (hmn : m < n) : bdN d m < bdN d n := by
  obtain ⟨v1, y1⟩ := bd_facts h
  obtain ⟨v2, y2⟩ := bd_facts h'
  by_cases c : bdN d m < bdN d n
  · exact c
  · have := dY_mono v2 v1 (by omega); omega
theorem bd_le {d m n : Int} (h : bdB d m = true) (h' : bdB d n = true) (hmn : m ≤ n) : bdN d m ≤ bdN d n := by
  by_cases e : m = n
  · rw [e]; exact Int.le_refl _
  · have := bd_lt h h' (by omega); omega
theorem bd_before {d m n : Int} (h' : bdB d n = true) (h0 : 0 ≤ m) (hmn : m ≤ n) : bdB d m = true := by
  obtain ⟨a, b, c⟩ := (bdB_iff d n).1 h'
  exact (bdB_iff d m).2 ⟨a, h0, by omega⟩

/-- May an age be asked? -/
def ageB (a b : Int) : Bool := vdayB a && (vdayB b && decide (a ≤ b))
theorem ageB_iff (a b : Int) : ageB a b = true ↔ (vdayB a = true ∧ vdayB b = true ∧ a ≤ b) := by unfold ageB; simp
/-- The age on day b of somebody born on day a; -1 where there is none. -/
noncomputable def ageN (a b : Int) : Int := if ageB a b = true then (if b < bdN a (dY b - dY a) then dY b - dY a - 1 else dY b - dY a) else -1
theorem ageN_no {a b : Int} (h : ageB a b = false) : ageN a b = -1 := by unfold ageN; rw [if_neg (by simp [h])]
theorem ageN_yes {a b : Int} (h : ageB a b = true) : ageN a b = if b < bdN a (dY b - dY a) then dY b - dY a - 1 else dY b - dY a := by unfold ageN; rw [if_pos h]

theorem age_of {a b n : Int} (h : ageB a b = true) (hb : bdB a n = true) (hle : bdN a n ≤ b) (hlt : bdB a (n + 1) = true → b < bdN a (n + 1)) : ageN a b = n := by
  obtain ⟨va, vb, hab⟩ := (ageB_iff a b).1 h
  obtain ⟨v1, y1⟩ := bd_facts hb
  have m1 := dY_mono v1 vb hle
  obtain ⟨_, n0, n1⟩ := (bdB_iff a n).1 hb
  obtain ⟨_, yb, _⟩ := date_bd vb
  rw [ageN_yes h]
  cases hn : bdB a (n + 1)
  · have : ¬ (n + 1 ≤ 2099 - dY a) := fun hh => by
      have : bdB a (n + 1) = true := (bdB_iff _ _).2 ⟨va, by omega, hh⟩
      rw [hn] at this; cases this
    have e : dY b - dY a = n := by omega
    rw [e, if_neg (by omega)]
  · have hl := hlt hn
    obtain ⟨v2, y2⟩ := bd_facts hn
    have m2 := dY_mono vb v2 (by omega)
    by_cases e : dY b - dY a = n
    · rw [e, if_neg (by omega)]
    · have e : dY b - dY a = n + 1 := by omega
      rw [e, if_pos hl]; omega

theorem age_char {a b : Int} (h : ageB a b = true) : bdB a (ageN a b) = true ∧ bdN a (ageN a b) ≤ b ∧ (bdB a (ageN a b + 1) = true → b < bdN a (ageN a b + 1)) := by
  obtain ⟨va, vb, hab⟩ := (ageB_iff a b).1 h
  have my := dY_mono va vb hab
  obtain ⟨_, yb, _⟩ := date_bd vb
  have hB : bdB a (dY b - dY a) = true := (bdB_iff _ _).2 ⟨va, by omega, by omega⟩
  obtain ⟨v1, y1⟩ := bd_facts hB
  rw [ageN_yes h]
  by_cases c : b < bdN a (dY b - dY a)
  · rw [if_pos c]
    have hz := bd_zero va
    have hne : dY b ≠ dY a := fun e => by rw [e, show dY a - dY a = 0 by omega, hz.2] at c; omega
    have hB2 : bdB a (dY b - dY a - 1) = true := bd_before hB (by omega) (by omega)
    obtain ⟨v2, y2⟩ := bd_facts hB2
    refine ⟨hB2, ?_, ?_⟩
    · by_cases cc : bdN a (dY b - dY a - 1) ≤ b
      · exact cc
      · have := dY_mono vb v2 (by omega); omega
    · intro _
      rw [show dY b - dY a - 1 + 1 = dY b - dY a by omega]; exact c
  · rw [if_neg c]
    refine ⟨hB, by omega, fun hb => ?_⟩
    obtain ⟨v2, y2⟩ := bd_facts hb
    by_cases cc : b < bdN a (dY b - dY a + 1)
    · exact cc
    · have := dY_mono v2 vb (by omega); omega

set_option maxHeartbeats 1000000 in
theorem Age_any (a b : Int) (w : World) :
    Calls Try.prog 35 #[.int .i64 a, .int .i64 b] w fun e w' => e = .returned (.int .i64 (ageN a b)) ∧ Below w.heap.size w w' := by
  cases h : ageB a b
  · have hfin := Lib.hid (ageN_no h)
    cases va : vdayB a
    · clear h
      go_enter Try.func35, Try.ntmps35
      go_wp2_with (go_at_call 24; refine (Valid_any _ _).mono ?_; rintro e w1 ⟨rfl, rfl⟩)
      go_ret
      exact ⟨ret_i hfin.out.symm, Below.refl _ _⟩
    · cases vb : vdayB b
      · clear h
        go_enter Try.func35, Try.ntmps35
        go_wp2_with (go_at_call 24; refine (Valid_any _ _).mono ?_; rintro e w1 ⟨rfl, rfl⟩)
        go_ret
        exact ⟨ret_i hfin.out.symm, Below.refl _ _⟩
      · have hlt : b < a := by simp [ageB, va, vb] at h; omega
        clear h
        go_enter Try.func35, Try.ntmps35
        go_wp2_with (go_at_call 24; refine (Valid_any _ _).mono ?_; rintro e w1 ⟨rfl, rfl⟩)
        go_ret
        exact ⟨ret_i hfin.out.symm, Below.refl _ _⟩
  · obtain ⟨va, vb, hab⟩ := (ageB_iff a b).1 h
    have hy := ageN_yes h
    clear h
    obtain ⟨y0, y1, _⟩ := date_bd va
    obtain ⟨z0, z1, _⟩ := date_bd vb
    by_cases c : b < bdN a (dY b - dY a)
    · rw [if_pos c] at hy
      have hfin := Lib.hid hy
      clear hy
      go_enter Try.func35, Try.ntmps35
      go_wp2_with (first | (go_at_call 24; refine (Valid_any _ _).mono ?_; rintro e w1 ⟨rfl, rfl⟩) | (go_at_call 25; refine (Date_any _ _).mono ?_; rintro e w1 ⟨rfl, hb1⟩) | (go_at_call 27; refine (Birthday_any _ _ _ (by omega) (by omega)).mono ?_; rintro e w1 ⟨rfl, hb2⟩))
      go_ret
      exact ⟨ret_i hfin.out.symm, below_seq (below_seq (by assumption) (by assumption)) hb2⟩
    · rw [if_neg c] at hy
      have hfin := Lib.hid hy
      clear hy
      go_enter Try.func35, Try.ntmps35
      go_wp2_with (first | (go_at_call 24; refine (Valid_any _ _).mono ?_; rintro e w1 ⟨rfl, rfl⟩) | (go_at_call 25; refine (Date_any _ _).mono ?_; rintro e w1 ⟨rfl, hb1⟩) | (go_at_call 27; refine (Birthday_any _ _ _ (by omega) (by omega)).mono ?_; rintro e w1 ⟨rfl, hb2⟩))
      go_ret
      exact ⟨ret_i hfin.out.symm, below_seq (below_seq (by assumption) (by assumption)) hb2⟩

set_option maxHeartbeats 1000000 in
theorem RAge_any (a b : Int) (w : World) :
    Calls Try.prog 36 #[.int .i64 a, .int .i64 b] w fun e w' => e = .returned (.int .i64 (ageN a b)) ∧ w = w' := by
  cases h : ageB a b
  · have hfin := Lib.hid (ageN_no h)
    cases va : vdayB a
    · clear h
      go_enter Try.func36, Try.ntmps36
      go_wp2_with (go_at_call 47; refine (ValidDay_any _ _).mono ?_; rintro e w1 ⟨rfl, rfl⟩)
      go_ret
      exact ⟨ret_i hfin.out.symm, rfl⟩
    · cases vb : vdayB b
      · clear h
        go_enter Try.func36, Try.ntmps36
        go_wp2_with (go_at_call 47; refine (ValidDay_any _ _).mono ?_; rintro e w1 ⟨rfl, rfl⟩)
        go_ret
        exact ⟨ret_i hfin.out.symm, rfl⟩
      · have hlt : b < a := by simp [ageB, va, vb] at h; omega
        clear h
        go_enter Try.func36, Try.ntmps36
        go_wp2_with (go_at_call 47; refine (ValidDay_any _ _).mono ?_; rintro e w1 ⟨rfl, rfl⟩)
        go_ret
        exact ⟨ret_i hfin.out.symm, rfl⟩
  · obtain ⟨va, vb, hab⟩ := (ageB_iff a b).1 h
    have hfin := Lib.hid (@age_of a b · h)
    have hz := Lib.hid (bd_zero va)
    obtain ⟨y0, y1, _⟩ := date_bd va
    clear h
    go_enter Try.func36, Try.ntmps36
    go_wp2_with (go_at_call 47; refine (ValidDay_any _ _).mono ?_; rintro e w1 ⟨rfl, rfl⟩)
    go_loop [5] (fun t => ∃ k : Int, 0 ≤ k ∧ t = .int .i64 k ∧ Hid (bdB a k = true) ∧ bdN a k ≤ b) (fun t => (300 - intOf t).toNat)
    case atStart => exact ⟨0, by omega, rfl, hz.out.1, by rw [hz.out.2]; exact hab⟩
    case round =>
      obtain ⟨k, hk, rfl, hB, hle⟩ := hrel
      obtain ⟨_, _, k1⟩ := (bdB_iff a k).1 hB.out
      cases hn : bdB a (k + 1)
      · have hres := Lib.hid (hfin.out k hB.out hle (fun hh => by rw [hn] at hh; cases hh))
        go_wp2_with (go_at_call 28; refine (RBirthday_any _ _ _).mono ?_; rintro e w1 ⟨rfl, rfl⟩)
        go_ret
        exact ⟨ret_i hres.out.symm, rfl⟩
      · by_cases c : b < bdN a (k + 1)
        · have hres := Lib.hid (hfin.out k hB.out hle (fun _ => c))
          go_wp2_with (go_at_call 28; refine (RBirthday_any _ _ _).mono ?_; rintro e w1 ⟨rfl, rfl⟩)
          go_ret
          exact ⟨ret_i hres.out.symm, rfl⟩
        · have hN := Lib.hid hn
          go_wp2_with (go_at_call 28; refine (RBirthday_any _ _ _).mono ?_; rintro e w1 ⟨rfl, rfl⟩)
          go_round
          case rel => exact ⟨k + 1, by omega, rfl, hN, by omega⟩
          case measure => simp [intOf]; omega

end Go.Proofs.Ytddgobjblbhlbaa

/- Contracts of over, within, lowest, quotient, product on both sides. No conditions but those printed. -/
import Derived.Test.YtdhfecaoadnogaaRatC
namespace Go.Proofs.Ytdhfecaoadnogaa
open Go.RowKit Frac

attribute [local go_sem] calmUpon

theorem rcell {W w1 : World} (h : Rel W w1) : (∀ b o, b < W.heap.size → w1.cell? ⟨b, o, none⟩ = W.cell? ⟨b, o, none⟩) ∧ (∀ b o, b < W.heap.size → w1.frozen? ⟨b, o, none⟩ = W.frozen? ⟨b, o, none⟩) :=
  ⟨fun b o k => Below.cell (p := ⟨b, o, none⟩) h k, fun b o k => Below.frozen (p := ⟨b, o, none⟩) h k⟩

/-- What a call of calm code leaves of an old block of 1, 2, 3 cells. -/
theorem keep1 {W w1 : World} (h : Rel W w1) {b : Nat} (hb : b < W.heap.size) : w1.cell? ⟨b, 0, none⟩ = W.cell? ⟨b, 0, none⟩ ∧ w1.frozen? ⟨b, 0, none⟩ = W.frozen? ⟨b, 0, none⟩ ∧ b < w1.heap.size ∧ b ≠ w1.heap.size ∧ w1.heap.size ≠ b :=
  ⟨(rcell h).1 b 0 hb, (rcell h).2 b 0 hb, h.lt hb, Nat.ne_of_lt (h.lt hb), Nat.ne_of_gt (h.lt hb)⟩
theorem keep2 {W w1 : World} (h : Rel W w1) {b : Nat} (hb : b < W.heap.size) : w1.cell? ⟨b, 0, none⟩ = W.cell? ⟨b, 0, none⟩ ∧ w1.cell? ⟨b, 1, none⟩ = W.cell? ⟨b, 1, none⟩ ∧ w1.frozen? ⟨b, 0, none⟩ = W.frozen? ⟨b, 0, none⟩ ∧ w1.frozen? ⟨b, 1, none⟩ = W.frozen? ⟨b, 1, none⟩ ∧ b < w1.heap.size ∧ b ≠ w1.heap.size ∧ w1.heap.size ≠ b :=
  ⟨(rcell h).1 b 0 hb, (rcell h).1 b 1 hb, (rcell h).2 b 0 hb, (rcell h).2 b 1 hb, h.lt hb, Nat.ne_of_lt (h.lt hb), Nat.ne_of_gt (h.lt hb)⟩
theorem keep3 {W w1 : World} (h : Rel W w1) {b : Nat} (hb : b < W.heap.size) : w1.cell? ⟨b, 0, none⟩ = W.cell? ⟨b, 0, none⟩ ∧ w1.cell? ⟨b, 1, none⟩ = W.cell? ⟨b, 1, none⟩ ∧ w1.cell? ⟨b, 2, none⟩ = W.cell? ⟨b, 2, none⟩ ∧ w1.frozen? ⟨b, 0, none⟩ = W.frozen? ⟨b, 0, none⟩ ∧ w1.frozen? ⟨b, 1, none⟩ = W.frozen? ⟨b, 1, none⟩ ∧ w1.frozen? ⟨b, 2, none⟩ = W.frozen? ⟨b, 2, none⟩ ∧ b < w1.heap.size ∧ b ≠ w1.heap.size ∧ w1.heap.size ≠ b :=
  ⟨(rcell h).1 b 0 hb, (rcell h).1 b 1 hb, (rcell h).1 b 2 hb, (rcell h).2 b 0 hb, (rcell h).2 b 1 hb, (rcell h).2 b 2 hb, h.lt hb, Nat.ne_of_lt (h.lt hb), Nat.ne_of_gt (h.lt hb)⟩

theorem over_num (x : Nat) {d : Nat} (hd : 0 < d) : hi64 (x / d) = hi64 x / d ∧ lo64 (x / d) = (hi64 x % d * 18446744073709551616 + lo64 x) / d ∧ x % d = (hi64 x % d * 18446744073709551616 + lo64 x) % d := by
  have e := Nat.div_add_mod (hi64 x) d
  have hr := Nat.mod_lt (hi64 x) hd
  have hl := lo64_lt x
  have hh := halves x
  generalize hi64 x / d = q at *
  generalize hi64 x % d = r at *
  have hx : x = d * (q * 18446744073709551616) + (r * 18446744073709551616 + lo64 x) := by
    rw [← Nat.mul_assoc, ← Nat.add_assoc, ← Nat.add_mul, e, hh]
  have hq : x / d = q * 18446744073709551616 + (r * 18446744073709551616 + lo64 x) / d := by
    conv => lhs; rw [hx]
    exact Nat.mul_add_div hd _ _
  have hm : x % d = (r * 18446744073709551616 + lo64 x) % d := by
    conv => lhs; rw [hx]
    exact Nat.mul_add_mod _ _ _
  have hb : (r * 18446744073709551616 + lo64 x) / d < 18446744073709551616 := by
    rw [Nat.div_lt_iff_lt_mul hd]
    have := Nat.mul_le_mul_right 18446744073709551616 (show r + 1 ≤ d from hr)
    rw [Nat.mul_comm 18446744073709551616 d]; omega
  refine ⟨?_, ?_, hm⟩
  · rw [hq]; generalize (r * 18446744073709551616 + lo64 x) / d = t at *; unfold hi64; clear hm hx hh hl e; omega
  · rw [hq]; generalize (r * 18446744073709551616 + lo64 x) / d = t at *; clear hm hx hh hl e hq; unfold lo64; omega

theorem tdiv_nat (a b : Nat) : Int.tdiv (a : Int) (b : Int) = ((a / b : Nat) : Int) := by rw [Int.tdiv_eq_ediv_of_nonneg (by omega)]; rfl

set_option maxHeartbeats 400000 in
theorem over_raw (h l d : Nat) (w : World) (hl : l < 18446744073709551616) (hd : 0 < d) (hd2 : d < 18446744073709551616) (hh : h < 18446744073709551616) :
    Calls Try.prog 52 #[.agg #[.int .u64 h, .int .u64 l], .int .u64 d] w fun e w' => e = .returned (.agg #[.int .u64 (h / d : Nat), .int .u64 ((h % d * 18446744073709551616 + l) / d : Nat)]) ∧ Rel w w' := by
  have hm := nmod_cast h d
  have hdv := tdiv_nat h d
  have hlt := Nat.mod_lt h hd
  have hy1 : ((d : Int) == 0) = false := by simp; omega
  have hne : ¬ d = 0 := by omega
  have hq : h / d < 18446744073709551616 := Nat.lt_of_le_of_lt (Nat.div_le_self _ _) hh
  have hqw := u64_nat hq
  generalize h % d = r at *
  generalize h / d = q at *
  go_enter Try.func52, Try.ntmps52
  go_wp2
  refine wp_region_calm (fun _ w' => w'.cell? { block := w.heap.size, off := 0 } = some (.int .u64 h)) (fun _ => false) [0, 1, 2, 3, 4, 5, 6, 7, 8, 9] 0 (by kernel_rfl) (by kernel_rfl) ?hst ?hS0 (fun w0 h0 => ?_)
  case hst => exact fun _ _ _ h r => r.cell h
  case hS0 => go_simp
  iterate 10
    first
      | (refine wpCalm_no rfl rfl (fun K hK => hK _ ?_); clear hK K)
      | (refine wpCalm_go rfl rfl (fun K hK => ?_)
         apply Exists.intro
         refine ⟨fun M w hM hS => ?_, hK _ ?_⟩
         · have hc := hS
           unfold calmAt
           go_simp
           exact ⟨rfl, Rel.refl _⟩
         clear hK K)
  refine wpCalm_nil (wpAnyR_end (by kernel_rfl) (fun w1 h1 => ?_))
  simp only [Act.put, List.setIfInBounds_toArray, List.set_cons_zero, List.set_cons_succ]
  have hlo := (h0.trans h1).cell (a := { block := w.heap.size, off := 1 }) (v := .int .u64 l) (by go_simp)
  go_wp2_with (go_at_call 61; refine (div64_any r l d _ hlt hl hd2).mono ?_; rintro e w2 ⟨rfl, hw2⟩; obtain ⟨bc, bf⟩ := rcell ((h0.trans h1).trans hw2); have hr := Lib.hid ((h0.trans h1).trans hw2); have hw3 := ((h0.trans h1).trans hw2).lt (n := w.heap.size + 1) (by simp); clear h0 h1 hw2 hlo)
  refine bodyPost_ret ?_ rfl ⟨rfl, ?_⟩
  · simp [results, Try.results52, go_sem, bc]
  · exact (((((Rel.refl _).alloc _).alloc _).trans hr.out).setCell (by simp) _).setCell (by simp) _

theorem over_any (x d : Nat) (w : World) (hx : x < 340282366920938463463374607431768211456) (hd : 0 < d) (hd2 : d < 18446744073709551616) :
    Calls Try.prog 52 #[.agg #[.int .u64 (hi64 x), .int .u64 (lo64 x)], .int .u64 d] w fun e w' => e = .returned (.agg #[.int .u64 (hi64 (x / d)), .int .u64 (lo64 (x / d))]) ∧ Rel w w' := by
  obtain ⟨e1, e2, _⟩ := over_num x hd
  rw [e1, e2]
  exact over_raw _ _ _ _ (lo64_lt _) hd hd2 (hi64_lt hx)

def wOk (n d : Nat) : Bool := decide (n ≤ 1000000000000000) && decide (d ≤ 1000000000)
def wN (s : Bool) (n d : Nat) : Int := if wOk n d = true then (if s = true then -(n : Int) else n) else 0
def wD (n d : Nat) : Int := if wOk n d = true then d else 0
def wE (n d : Nat) : Int := if wOk n d = true then 0 else 2

theorem w_no {s : Bool} {n d : Nat} (h : wOk n d = false) : wN s n d = 0 ∧ wD n d = 0 ∧ wE n d = 2 := by
  unfold wN wD wE; rw [h]; exact ⟨rfl, rfl, rfl⟩
theorem w_yes {n d : Nat} (h : wOk n d = true) : wN true n d = -(n : Int) ∧ wN false n d = n ∧ wD n d = d ∧ wE n d = 0 := by
  unfold wN wD wE; rw [h]; exact ⟨rfl, rfl, rfl, rfl⟩

set_option maxHeartbeats 1600000 in
theorem within_any (s : Bool) (n d : Nat) (w : World) :
    Calls Try.prog 39 #[.bool s, .agg #[.int .u64 (hi64 n), .int .u64 (lo64 n)], .agg #[.int .u64 (hi64 d), .int .u64 (lo64 d)]] w fun e w' => e = .returned (.tuple #[.agg #[.int .i64 (wN s n d), .int .i64 (wD n d)], .int .i64 (wE n d)]) ∧ Rel w w' := by
  by_cases c1 : hi64 n = 0
  · have k1 : ((hi64 n : Int) != 0) = false := by simp; omega
    by_cases c2 : lo64 n ≤ 1000000000000000
    · have k2 : decide ((1000000000000000 : Int) < lo64 n) = false := by simp; omega
      by_cases c3 : hi64 d = 0
      · have k3 : ((hi64 d : Int) != 0) = false := by simp; omega
        by_cases c4 : lo64 d ≤ 1000000000
        · have k4 : decide ((1000000000 : Int) < lo64 d) = false := by simp; omega
          have ho : wOk n d = true := by unfold wOk; unfold hi64 at *; (try unfold lo64 at *); simp; omega
          have hn : lo64 n = n := by unfold hi64 at c1; unfold lo64; omega
          have hd : lo64 d = d := by unfold hi64 at c3; unfold lo64; omega
          obtain ⟨r0, r1, r2, r3⟩ := w_yes ho
          rw [hn] at c2 k2
          rw [hd] at c4 k4
          rw [hn, hd, r2, r3]
          clear ho hn hd r2 r3 c1 c3
          cases s
          · rw [r1]
            clear r0 r1
            go_enter Try.func39, Try.ntmps39
            go_wp2
            refine bodyPost_ret ?_ rfl ⟨rfl, ?_⟩
            · simp [results, Try.results39, go_sem]
            exact ((((Rel.refl _).alloc _).alloc _).alloc _).alloc _
          · rw [r0]
            clear r0 r1
            go_enter Try.func39, Try.ntmps39
            go_wp2
            refine bodyPost_ret ?_ rfl ⟨rfl, ?_⟩
            · simp [results, Try.results39, go_sem]
            exact ((((Rel.refl _).alloc _).alloc _).alloc _).alloc _
        · have ho : wOk n d = false := by unfold wOk; unfold hi64 at *; (try unfold lo64 at *); simp; omega
          have k4 : decide ((1000000000 : Int) < lo64 d) = true := by simp; omega
          obtain ⟨r1, r2, r3⟩ := w_no (s := s) ho
          rw [r1, r2, r3]
          clear ho r1 r2 r3
          go_enter Try.func39, Try.ntmps39
          go_wp2
          refine bodyPost_ret ?_ rfl ⟨rfl, ?_⟩
          · simp [results, Try.results39, go_sem]
          exact (((Rel.refl _).alloc _).alloc _).alloc _
      · have ho : wOk n d = false := by unfold wOk; unfold hi64 at *; (try unfold lo64 at *); simp; omega
        have k3 : ((hi64 d : Int) != 0) = true := by simp; omega
        obtain ⟨r1, r2, r3⟩ := w_no (s := s) ho
        rw [r1, r2, r3]
        clear ho r1 r2 r3
        go_enter Try.func39, Try.ntmps39
        go_wp2
        refine bodyPost_ret ?_ rfl ⟨rfl, ?_⟩
        · simp [results, Try.results39, go_sem]
        exact (((Rel.refl _).alloc _).alloc _).alloc _
    · have ho : wOk n d = false := by unfold wOk; unfold hi64 at *; (try unfold lo64 at *); simp; omega
      have k2 : decide ((1000000000000000 : Int) < lo64 n) = true := by simp; omega
      obtain ⟨r1, r2, r3⟩ := w_no (s := s) ho
      rw [r1, r2, r3]
      clear ho r1 r2 r3
      go_enter Try.func39, Try.ntmps39
      go_wp2
      refine bodyPost_ret ?_ rfl ⟨rfl, ?_⟩
      · simp [results, Try.results39, go_sem]
      exact (((Rel.refl _).alloc _).alloc _).alloc _
  · have ho : wOk n d = false := by unfold wOk; unfold hi64 at *; (try unfold lo64 at *); simp; omega
    have k1 : ((hi64 n : Int) != 0) = true := by simp; omega
    obtain ⟨r1, r2, r3⟩ := w_no (s := s) ho
    rw [r1, r2, r3]
    clear ho r1 r2 r3
    go_enter Try.func39, Try.ntmps39
    go_wp2
    refine bodyPost_ret ?_ rfl ⟨rfl, ?_⟩
    · simp [results, Try.results39, go_sem]
    exact (((Rel.refl _).alloc _).alloc _).alloc _

end Go.Proofs.Ytdhfecaoadnogaa

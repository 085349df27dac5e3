/- Contracts of awake, pieces and text of the laws on tokens. No conditions but those printed. -/
import Derived.Test.YtfdajdlbkdfhoaaTokJ
namespace Go.Proofs.Ytfdajdlbkdfhoaa
open Go.RowKit Cal Str Tok Frac
attribute [local go_sem] calmUpon
set_option linter.unusedVariables false
set_option linter.unusedSimpArgs false

def SomeStr (B : Nat) (w : World) (e : Ending) (w' : World) : Prop := ∃ s : ByteArray, e = .returned (.string s) ∧ s.size ≤ B ∧ Rel w w'

/-- The table of pieces. -/
def tabP : Array Value := #[.string ⟨#[108, 101, 116]⟩, .string ⟨#[120]⟩, .string ⟨#[97, 95, 49]⟩, .string ⟨#[103, 114, 97, 110, 116]⟩, .string ⟨#[49, 50]⟩, .string ⟨#[48]⟩, .string ⟨#[51, 46, 53]⟩, .string ⟨#[48, 46, 48, 48, 48, 49]⟩, .string ⟨#[55, 100]⟩, .string ⟨#[50, 46, 53, 48, 109]⟩, .string ⟨#[64, 49, 57, 54, 48, 45, 48, 49, 45, 51, 49]⟩, .string ⟨#[60, 61]⟩, .string ⟨#[62, 61]⟩, .string ⟨#[60, 62]⟩, .string ⟨#[60]⟩, .string ⟨#[62]⟩, .string ⟨#[61]⟩, .string ⟨#[43]⟩, .string ⟨#[45]⟩, .string ⟨#[42]⟩, .string ⟨#[47]⟩, .string ⟨#[40]⟩, .string ⟨#[41]⟩, .string ⟨#[123]⟩, .string ⟨#[125]⟩, .string ⟨#[44]⟩, .string ⟨#[59]⟩, .string ⟨#[35, 32, 99, 32, 60]⟩, .string ⟨#[10]⟩, .string ⟨#[32]⟩, .string ⟨#[9]⟩, .string ⟨#[13]⟩, .string ⟨#[48, 49]⟩, .string ⟨#[49, 46]⟩, .string ⟨#[49, 46, 50, 51, 52, 53, 54]⟩, .string ⟨#[64, 49, 57, 54, 48, 45, 48, 50, 45, 51, 48]⟩, .string ⟨#[88]⟩, .string ⟨#[57, 120]⟩, .string ⟨#[97, 98, 99, 100, 101, 102, 103, 104, 105, 106, 107, 108, 109, 110, 111, 112]⟩, .string ⟨#[49, 50, 51, 52, 53, 54, 55, 56, 57, 48]⟩, .string ⟨#[64]⟩, .string ⟨#[33]⟩, .string ⟨#[95]⟩, .string ⟨#[195, 169]⟩]
theorem tabP_ok : ∀ k, k < 44 → ∃ s : ByteArray, tabP[k]? = some (.string s) ∧ s.size ≤ 20 := by
  have h : (List.range 44).all (fun k => match tabP[k]? with | some (.string s) => decide (s.size ≤ 20) | _ => false) = true := by kernel_rfl
  intro k hk
  have := List.all_eq_true.1 h k (List.mem_range.2 hk)
  split at this
  · rename_i s hs; exact ⟨s, hs, by simpa using this⟩
  · cases this

set_option maxHeartbeats 4000000 in
theorem pieces_any (n : Int) (w : World) (h0 : -9223372036854775808 ≤ n) (h1 : n ≤ 9223372036854775807) :
    Calls Try.prog 16 #[.int .i64 n] w (SomeStr 20 w) := by
  obtain ⟨s, hs, hz⟩ := tabP_ok (n % 44).toNat (by omega)
  have b0 : 0 ≤ n % 44 := by omega
  have b1 : n % 44 < 44 := by omega
  have b2 : (n % 44).toNat < 44 := by omega
  have hc : (w.alloc (.cells tabP 9)).cell? ⟨w.heap.size, (n % 44).toNat, none⟩ = some (.string s) := by simpa using hs
  unfold tabP at hc
  clear hs
  go_enter Try.func16, Try.ntmps16
  go_wp2_with (go_at_call 10; refine (pick_any _ _ _ (by omega) (by omega) (by omega) (by omega)).mono ?_; rintro e w1 ⟨rfl, rfl⟩)
  go_ret
  exact ⟨s, rfl, hz, by (show Rel _ _; repeat (first | with_reducible exact Rel.refl _ | with_reducible refine Rel.alloc ?_ _ | with_reducible refine Rel.setCell ?_ (by first | (simp; done) | (simp; omega)) _ | with_reducible refine Rel.drew ?_ | with_reducible refine Rel.trans ?_ H1.out | with_reducible refine Rel.trans ?_ H0.out))⟩

/-- A slice of integers that came in. -/
def IntsIn (w : World) (v : Value) (n : Nat) : Prop := ∃ (a0 : Option Addr) (cap : Nat), v = .slice a0 n cap ∧ n ≤ 17592186044416 ∧ (0 < n → ∃ (b off : Nat) (zs : List Int), a0 = some ⟨b, off, none⟩ ∧ b < w.heap.size ∧ (∀ j, j < n → w.cell? ⟨b, off + j, none⟩ = some (.int .i64 (zs.getD j 0)) ∧ -9223372036854775808 ≤ zs.getD j 0 ∧ zs.getD j 0 ≤ 9223372036854775807))

theorem tdiv50 (z : Int) (h0 : -9223372036854775808 ≤ z) (h1 : z ≤ 9223372036854775807) : -9223372036854775808 ≤ z.tdiv 50 ∧ z.tdiv 50 ≤ 9223372036854775807 := by
  by_cases h : 0 ≤ z
  · rw [Int.tdiv_eq_ediv_of_nonneg h]; omega
  · have : z.tdiv 50 = -((-z).tdiv 50) := by rw [Int.neg_tdiv, Int.neg_neg]
    rw [this, Int.tdiv_eq_ediv_of_nonneg (by omega)]; omega

set_option maxHeartbeats 8000000 in
theorem text_any (v : Value) (n : Nat) (g : Int) (w : World) (hv : IntsIn w v n) (h0 : -9223372036854775808 ≤ g) (h1 : g ≤ 9223372036854775807) :
    Calls Try.prog 9 #[v, .int .i64 g] w (SomeStr 840 w) := by
  obtain ⟨a0, cap, rfl, hn, hin⟩ := hv
  have HIN := Lib.hid hin
  clear hin
  obtain ⟨c3, hc3⟩ : ∃ c, (g.tmod 3 != 0) = c := ⟨_, rfl⟩
  obtain ⟨c2, hc2⟩ : ∃ c, (g.tmod 2 == 0) = c := ⟨_, rfl⟩
  go_enter Try.func9, Try.ntmps9
  go_wp2
  go_loopw [5, 6] (fun s i wx => ∃ (k : Nat) (t : ByteArray), k ≤ 40 ∧ k ≤ n ∧ i = .int .i64 k ∧ s = .string t ∧ t.size ≤ 21 * k ∧ Hid (Rel w wx)) (fun _ i _ => 40 - (intOf i).toNat)
  case atStart => exact ⟨0, ⟨#[]⟩, by omega, by omega, rfl, rfl, by decide, Rel.refl _⟩
  case round =>
    obtain ⟨k, t, hk, hkn, rfl, rfl, ht, hR⟩ := hrel
    by_cases hlt : k < n
    · by_cases h40 : k < 40
      · obtain ⟨b, off, zs, rfl, hb, hz⟩ := HIN.out (by omega)
        obtain ⟨hcell, z0, z1⟩ := hz k hlt
        have hc : wr.cell? ⟨b, off + k, none⟩ = some (.int .i64 (zs.getD k 0)) := hR.out.cell hcell
        obtain ⟨z, hzz⟩ : ∃ z, zs.getD k 0 = z := ⟨_, rfl⟩
        rw [hzz] at hc z0 z1
        have hbr : b < wr.heap.size := hR.out.lt hb
        obtain ⟨q0, q1⟩ := tdiv50 z z0 z1
        obtain ⟨q, hq⟩ : ∃ q, z.tdiv 50 = q := ⟨_, rfl⟩
        rw [hq] at q0 q1
        clear hz hcell hzz
        have hd : (decide (0 < q % 3) = true) ∨ (decide (0 < q % 3) = false) := by cases decide (0 < q % 3) <;> simp
        cases c3 <;> cases c2
        · go_wp2_with fail
          refine (pieces_any z _ z0 z1).mono ?_
          rintro e w1 ⟨ps, rfl, hps, h1⟩
          have kz1 := h1.size
          (try simp only [World.size_alloc, World.size_setCell, World.size_drew] at kz1)
          have H1 := Lib.hid h1
          clear h1
          have hc1 : w1.cell? ⟨b, off + k, none⟩ = some (.int .i64 z) := H1.out.cell hc
          rcases hd with hd | hd
          all_goals
            go_wp2_with (go_at_call 10; refine (pick_any _ _ _ q0 q1 (by omega) (by omega)).mono ?_; rintro e w1 ⟨rfl, rfl⟩)
            go_roundw
            case rel => exact ⟨k + 1, _, by omega, by omega, by go_num, rfl, by (repeat rw [ByteArray.size_append]); have e1 : (⟨#[32]⟩ : ByteArray).size = 1 := rfl; omega, hR.out.trans H1.out⟩
            case measure => simp [intOf]; omega
        · go_wp2_with fail
          refine (pieces_any z _ z0 z1).mono ?_
          rintro e w1 ⟨ps, rfl, hps, h1⟩
          have kz1 := h1.size
          (try simp only [World.size_alloc, World.size_setCell, World.size_drew] at kz1)
          have H1 := Lib.hid h1
          clear h1
          have hc1 : w1.cell? ⟨b, off + k, none⟩ = some (.int .i64 z) := H1.out.cell hc
          go_wp2
          go_roundw
          case rel => exact ⟨k + 1, _, by omega, by omega, by go_num, rfl, by (repeat rw [ByteArray.size_append]); have e1 : (⟨#[32]⟩ : ByteArray).size = 1 := rfl; omega, hR.out.trans H1.out⟩
          case measure => simp [intOf]; omega
        · go_wp2_with fail
          refine (pick_any z 32 _ z0 z1 (by omega) (by omega)).mono ?_
          rintro e w1 ⟨rfl, rfl⟩
          have y0 : 0 ≤ z % 32 := by omega
          have y1 : z % 32 < 32 := by omega
          go_wp2_with fail
          refine (pieces_any (z % 32) _ (by omega) (by omega)).mono ?_
          rintro e w1 ⟨ps, rfl, hps, h1⟩
          have kz1 := h1.size
          (try simp only [World.size_alloc, World.size_setCell, World.size_drew] at kz1)
          have H1 := Lib.hid h1
          clear h1
          have hc1 : w1.cell? ⟨b, off + k, none⟩ = some (.int .i64 z) := H1.out.cell hc
          rcases hd with hd | hd
          all_goals
            go_wp2_with (go_at_call 10; refine (pick_any _ _ _ q0 q1 (by omega) (by omega)).mono ?_; rintro e w1 ⟨rfl, rfl⟩)
            go_roundw
            case rel => exact ⟨k + 1, _, by omega, by omega, by go_num, rfl, by (repeat rw [ByteArray.size_append]); have e1 : (⟨#[32]⟩ : ByteArray).size = 1 := rfl; omega, hR.out.trans H1.out⟩
            case measure => simp [intOf]; omega
        · go_wp2_with fail
          refine (pick_any z 32 _ z0 z1 (by omega) (by omega)).mono ?_
          rintro e w1 ⟨rfl, rfl⟩
          have y0 : 0 ≤ z % 32 := by omega
          have y1 : z % 32 < 32 := by omega
          go_wp2_with fail
          refine (pieces_any (z % 32) _ (by omega) (by omega)).mono ?_
          rintro e w1 ⟨ps, rfl, hps, h1⟩
          have kz1 := h1.size
          (try simp only [World.size_alloc, World.size_setCell, World.size_drew] at kz1)
          have H1 := Lib.hid h1
          clear h1
          have hc1 : w1.cell? ⟨b, off + k, none⟩ = some (.int .i64 z) := H1.out.cell hc
          go_wp2
          go_roundw
          case rel => exact ⟨k + 1, _, by omega, by omega, by go_num, rfl, by (repeat rw [ByteArray.size_append]); have e1 : (⟨#[32]⟩ : ByteArray).size = 1 := rfl; omega, hR.out.trans H1.out⟩
          case measure => simp [intOf]; omega
      · go_wp2
        go_ret
        exact ⟨t, rfl, by omega, hR.out⟩
    · go_wp2
      go_ret
      exact ⟨t, rfl, by omega, hR.out⟩

theorem awR : allR ⟨#[97, 60, 61, 49, 46, 53, 48, 109, 32, 35, 32, 120]⟩ = ([⟨1, ⟨#[97]⟩, 0⟩, ⟨4, ⟨#[60, 61]⟩, 1⟩, ⟨2, ⟨#[49, 46, 53, 48, 109]⟩, 3⟩], 0, 0) := by kernel_rfl

/-- A row that is owned and not empty. -/
theorem own_some {w : World} {base : Nat} {e : TypeId} {size : Nat} {v : Value} {n : Nat} {xs : List Value} (h : w.ownsRow base e size v n xs) (hn : 0 < n) : ∃ g cap, v = .slice (some ⟨g, 0, none⟩) n cap ∧ base ≤ g ∧ g < w.heap.size ∧ n ≤ cap ∧ cap ≤ maxLen ∧ ∀ (j : Nat) u, xs[j]? = some u → w.cell? ⟨g, j, none⟩ = some u := by
  have h0' := h
  rcases h.2 with ⟨_, h0⟩ | ⟨g, cap, cur, rfl, hb, hg, h1, h2, _, _⟩
  · omega
  · refine ⟨g, cap, rfl, hb, (Array.getElem?_eq_some_iff.1 hg).1, h1, h2, fun j u hu => ?_⟩
    have := h0'.cells (g := g) rfl j u hu
    have e : (⟨g, 0, none⟩ : Addr).add j = ⟨g, j, none⟩ := by unfold Addr.add; split <;> simp_all
    rwa [e] at this

set_option maxHeartbeats 4000000 in
theorem tawake_any (w : World) : Calls Try.prog 13 #[] w (BRes true w) := by
  have A := Lib.hid fun w => All_any ⟨#[97, 60, 61, 49, 46, 53, 48, 109, 32, 35, 32, 120]⟩ w (by decide)
  go_enter Try.func13, Try.ntmps13
  go_wp2_with fail
  with_reducible refine (A.out _).mono ?_
  unfold AllRes
  rw [awR]
  rintro e w1 ⟨v, rfl, h1, ho⟩
  obtain ⟨g, cap, rfl, hb, hg, hcap, hcm, hc⟩ := own_some ho (by decide)
  have c6 : w1.cell? ⟨g, 6, none⟩ = some (.int .i64 2) := hc 6 _ rfl
  have c7 : w1.cell? ⟨g, 7, none⟩ = some (.string ⟨#[49, 46, 53, 48, 109]⟩) := hc 7 _ rfl
  have c8 : w1.cell? ⟨g, 8, none⟩ = some (.int .i64 3) := hc 8 _ rfl
  have H1 := Lib.hid h1
  clear hc ho h1 A
  go_wp2
  go_ret
  exact ⟨rfl, H1.out⟩

end Go.Proofs.Ytfdajdlbkdfhoaa

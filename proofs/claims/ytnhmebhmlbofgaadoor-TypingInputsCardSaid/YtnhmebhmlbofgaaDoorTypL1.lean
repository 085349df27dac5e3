/- Walk of the law TypingInputs. No conditions but those printed. -/
import Derived.Test.YtnhmebhmlbofgaaDoorExI
namespace Go.Proofs.YtnhmebhmlbofgaaDoor
open Go.RowKit Cal Str Tok Frac Txt Tree
attribute [local go_sem] calmUpon
set_option linter.unusedVariables false
set_option linter.unusedSimpArgs false

def tabI : Array Value := #[.string ⟨#[97, 103, 101]⟩, .string ⟨#[121, 101, 97, 114]⟩, .string ⟨#[99, 104, 105, 108, 100, 114, 101, 110]⟩, .string ⟨#[105, 110, 115, 117, 114, 101, 100]⟩, .string ⟨#[119, 111, 114, 107, 101, 100]⟩, .string ⟨#[118, 111, 108, 117, 110, 116, 97, 114, 121]⟩, .string ⟨#[115, 101, 114, 118, 105, 99, 101]⟩, .string ⟨#[101, 113, 117, 97, 116, 101, 100]⟩, .string ⟨#[114, 97, 105, 115, 105, 110, 103]⟩, .string ⟨#[114, 101, 115, 105, 100, 101, 110, 116]⟩, .string ⟨#[98, 97, 115, 101]⟩, .string ⟨#[98, 101, 115, 116]⟩, .string ⟨#[105, 102]⟩, .string ⟨#[100, 97, 121, 115]⟩, .string ⟨#[]⟩]
theorem tabI_ok : ∀ k, k < 15 → ∃ s : ByteArray, tabI[k]? = some (.string s) ∧ s.size ≤ 20 := by
  have h : (List.range 15).all (fun k => match tabI[k]? with | some (.string s) => decide (s.size ≤ 20) | _ => false) = true := by kernel_rfl
  intro k hk
  have := List.all_eq_true.1 h k (List.mem_range.2 hk)
  split at this
  · rename_i s hs; exact ⟨s, hs, by simpa using this⟩
  · cases this

set_option maxRecDepth 20000 in
set_option maxHeartbeats 4000000 in
theorem walk_TypingInputs (w : World) (ht : TabW w) (a0 : ByteArray) (a1 : Int) (b0 : a0.size ≤ 140737488355328) (b1 : -9223372036854775808 ≤ a1) (c1 : a1 ≤ 9223372036854775807) :
    Calls Tryd.prog 3 #[.string a0, .int .i64 a1] w (BRes true w) := by
  have HT := Lib.hid ht
  clear ht
  obtain ⟨t, hs, hz⟩ := tabI_ok (a1 % 15).toNat (by omega)
  have k0 : 0 ≤ a1 % 15 := by omega
  have k1 : a1 % 15 < 15 := by omega
  have k2 : (a1 % 15).toNat < 15 := by omega
  have hc : (w.alloc (.cells tabI 9)).cell? ⟨w.heap.size, (a1 % 15).toNat, none⟩ = some (.string t) := by simpa using hs
  unfold tabI at hc
  have I1 := Lib.hid fun w => Input_any a0 w
  have I2 := Lib.hid fun w => rInput_any a0 w
  have I3 := Lib.hid fun w => Input_any t w
  have I4 := Lib.hid fun w => rInput_any t w
  obtain ⟨x1, hx1⟩ : ∃ x, inpI a0 = x := ⟨_, rfl⟩
  obtain ⟨y1, hy1⟩ : ∃ y, inpB a0 = y := ⟨_, rfl⟩
  obtain ⟨x2, hx2⟩ : ∃ x, inpI t = x := ⟨_, rfl⟩
  obtain ⟨y2, hy2⟩ : ∃ y, inpB t = y := ⟨_, rfl⟩
  rw [hx1, hy1] at I1 I2
  rw [hx2, hy2] at I3 I4
  unfold BRes
  clear hs hx1 hy1 hx2 hy2
  go_enter Tryd.func3, Tryd.ntmps3
  go_wp2_with (go_at_call 8; refine (pick_any _ _ _ (by omega) (by omega) (by omega) (by omega)).mono ?_; rintro e w1 ⟨rfl, rfl⟩)
  refine (I1.out _).mono ?_
  rintro e w1 ⟨rfl, rfl⟩
  go_wp2_with fail
  refine (I2.out _).mono ?_
  rintro e w1 ⟨rfl, rfl⟩
  go_wp2_with fail
  refine (I3.out _).mono ?_
  rintro e w1 ⟨rfl, rfl⟩
  go_wp2_with fail
  refine (I4.out _).mono ?_
  rintro e w1 ⟨rfl, rfl⟩
  go_wp2_with fail
  refine (awake_any _ (HT.out.rel (by show Rel _ _; (show Rel _ _; repeat (first | with_reducible exact Rel.refl _ | with_reducible refine Rel.alloc ?_ _ | with_reducible refine Rel.setCell ?_ (by first | (simp; done) | (simp; omega)) _ | with_reducible refine Rel.drew ?_ | with_reducible refine Rel.trans ?_ H0.out))))).mono ?_
  unfold BRes
  rintro e w1 ⟨rfl, h1⟩
  have kz1 := h1.size
  (try simp only [World.size_alloc, World.size_setCell, World.size_drew] at kz1)
  have H1 := Lib.hid h1
  clear h1
  go_wp2
  go_ret
  exact ⟨ret_b2 (by simp), by (show Rel _ _; repeat (first | with_reducible exact Rel.refl _ | with_reducible refine Rel.alloc ?_ _ | with_reducible refine Rel.setCell ?_ (by first | (simp; done) | (simp; omega)) _ | with_reducible refine Rel.drew ?_ | with_reducible refine Rel.trans ?_ H1.out | with_reducible refine Rel.trans ?_ H0.out))⟩

end Go.Proofs.YtnhmebhmlbofgaaDoor

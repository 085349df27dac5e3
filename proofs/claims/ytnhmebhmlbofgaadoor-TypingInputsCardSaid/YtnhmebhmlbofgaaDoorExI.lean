/- Contracts of lookup at an input's name, and of awake. No conditions but those printed. -/
import Derived.Test.YtnhmebhmlbofgaaDoorExH
namespace Go.Proofs.YtnhmebhmlbofgaaDoor
open Go.RowKit Cal Str Tok Frac Txt Tree
attribute [local go_sem] calmUpon
set_option linter.unusedVariables false
set_option linter.unusedSimpArgs false

set_option maxHeartbeats 2000000 in
theorem lookup_in (ev : Value) (nm : Nat → ByteArray) (dm : Nat → Int) (k : Nat) (s : ByteArray) (w : World) (h : ¬ inpI s = 0) :
    Calls Tryd.prog 41 #[.string s, ev] w fun e w'' => e = .returned (.tuple #[.int .i64 (lokI nm dm k s), .bool (!(lokI nm dm k s == 0))]) ∧ Rel w w'' := by
  have hl : lokI nm dm k s = inpI s := by unfold lokI; rw [if_neg h]
  have hb : inpB s = true := by unfold inpB; simpa using h
  rw [hl]
  have I := Lib.hid fun w => Input_any s w
  rw [hb] at I
  have fin : Hid ((!(inpI s == 0)) = true) := hb
  rw [fin.out]
  obtain ⟨l, hl⟩ : ∃ l, inpI s = l := ⟨_, rfl⟩
  rw [hl] at I ⊢
  clear hb hl h fin
  go_enter Tryd.func41, Tryd.ntmps41
  go_wp2_with fail
  refine (I.out _).mono ?_
  rintro e w1 ⟨rfl, rfl⟩
  go_wp2
  refine bodyPost_ret (v := .tuple #[.int .i64 l, .bool true]) ?_ rfl ⟨rfl, ?_⟩
  · simp [results, Tryd.results41, go_sem]
  · (show Rel _ _; repeat (first | with_reducible exact Rel.refl _ | with_reducible refine Rel.alloc ?_ _ | with_reducible refine Rel.setCell ?_ (by first | (simp; done) | (simp; omega)) _ | with_reducible refine Rel.drew ?_ | with_reducible refine Rel.trans ?_ H0.out))

/-- The trees of chapter 7's example. -/
def insS : ByteArray := ⟨#[105, 110, 115, 117, 114, 101, 100]⟩
def exN : Ex := .mk 2 0 0 0 insS 0 (fun _ => .no)
def exL : Ex := .mk 1 365 1 3 ⟨#[]⟩ 0 (fun _ => .no)
def exD (op : Int) : Ex := .mk op 0 0 0 ⟨#[]⟩ 2 (fun i => if i = 0 then exN else exL)
theorem exD_kids (op : Int) (h0 : -9223372036854775808 ≤ op) (h1 : op ≤ 9223372036854775807) (W : World) (B : Nat) (hB : B < W.heap.size)
    (s0 : Six W B 0 2 0 0 0 ⟨#[105, 110, 115, 117, 114, 101, 100]⟩ (.slice none 0 0)) (s1 : Six W B 6 1 365 1 3 ⟨#[]⟩ (.slice none 0 0)) : ExKids (exD op) W (.slice (some ⟨B, 0, none⟩) 2 2) := by
  refine ⟨⟨h0, h1, by decide, by decide, by decide, by decide, by decide, by decide, by decide⟩, by decide, _, _, rfl, fun _ => ⟨B, 0, rfl, hB, fun i hi => ?_⟩⟩
  rcases (show i = 0 ∨ i = 1 by omega) with rfl | rfl
  · exact ⟨_, s0, ⟨⟨by decide, by decide, by decide, by decide, by decide, by decide, by decide, by decide, by decide⟩, by decide, _, _, rfl, fun h => absurd h (by decide)⟩⟩
  · exact ⟨_, s1, ⟨⟨by decide, by decide, by decide, by decide, by decide, by decide, by decide, by decide, by decide⟩, by decide, _, _, rfl, fun h => absurd h (by decide)⟩⟩
theorem exD_nm (op : Int) (h2 : ¬ op = 2) : (exD op).allNm (fun s => ¬ inpI s = 0) := by
  refine ⟨fun h => absurd h h2, fun i hi => ?_⟩
  dsimp only
  by_cases h : i = 0
  · rw [if_pos h]; exact ⟨fun _ => (by rw [show inpI insS = 3 by kernel_rfl]; decide : ¬ inpI insS = 0), fun i hi => absurd hi (by omega)⟩
  · rw [if_neg h]; exact ⟨fun h => absurd h (by decide), fun i hi => absurd hi (by omega)⟩
theorem inf10 : infV (exD 10) (fun _ => ⟨#[]⟩) (fun _ => 0) 0 = (2, 0) := by kernel_rfl
theorem inf9 : infV (exD 9) (fun _ => ⟨#[]⟩) (fun _ => 0) 0 = (0, 6) := by kernel_rfl
theorem exD_size (op : Int) : (exD op).size ≤ 1000000000000 := by
  have : (exD op).size = 3 := rfl
  omega

set_option maxHeartbeats 4000000 in
theorem awake_any (w : World) (ht : TabW w) : Calls Tryd.prog 11 #[] w (BRes true w) := by
  have HT := Lib.hid ht
  clear ht
  have I := Lib.hid fun op (h0 : -9223372036854775808 ≤ op) (h1 : op ≤ 9223372036854775807) (h2 : ¬ op = 2) (W : World) (r : Rel w W) (B : Nat) (hB : B < W.heap.size) s0 s1 => Infer_of (fun s => ¬ inpI s = 0) none 0 0 (fun _ => ⟨#[]⟩) (fun _ => 0) W (Lib.hid (fun _ s w' h _ _ => lookup_in _ _ _ _ s w' h)) (Lib.hid (fun h => absurd h (by decide))) (by decide) (exD op) _ (exD_kids op h0 h1 W B hB s0 s1) (exD_size op) (exD_nm op h2) (Lib.hid (HT.out.rel r))
  unfold BRes
  go_enter Tryd.func11, Tryd.ntmps11
  go_wp2_with fail
  refine (I.out 10 (by decide) (by decide) (by decide) _ (by show Rel _ _; (show Rel _ _; repeat (first | with_reducible exact Rel.refl _ | with_reducible refine Rel.alloc ?_ _ | with_reducible refine Rel.setCell ?_ (by first | (simp; done) | (simp; omega)) _ | with_reducible refine Rel.drew ?_ | with_reducible refine Rel.trans ?_ H0.out))) (w.heap.size + 1 + 1) (by simp) ⟨by go_simp, by go_simp, by go_simp, by go_simp, by go_simp, by go_simp⟩ ⟨by go_simp, by go_simp, by go_simp, by go_simp, by go_simp, by go_simp⟩).mono ?_
  unfold InfRes
  rw [inf10]
  rintro e w1 ⟨rfl, h1⟩
  have q := keep6 h1 (b := w.heap.size) (by first | (simp; done) | (simp; omega) | omega)
  have kc1_0_0 := q.1
  have kc1_0_1 := q.2.1
  have kc1_0_2 := q.2.2.1
  have kc1_0_3 := q.2.2.2.1
  have kc1_0_4 := q.2.2.2.2.1
  have kc1_0_5 := q.2.2.2.2.2.1
  have kf1_0_0 := q.2.2.2.2.2.2.1
  have kf1_0_1 := q.2.2.2.2.2.2.2.1
  have kf1_0_2 := q.2.2.2.2.2.2.2.2.1
  have kf1_0_3 := q.2.2.2.2.2.2.2.2.2.1
  have kf1_0_4 := q.2.2.2.2.2.2.2.2.2.2.1
  have kf1_0_5 := q.2.2.2.2.2.2.2.2.2.2.2.1
  have kl1_0 := q.2.2.2.2.2.2.2.2.2.2.2.2.1
  have kn1_0 := q.2.2.2.2.2.2.2.2.2.2.2.2.2.1
  have km1_0 := q.2.2.2.2.2.2.2.2.2.2.2.2.2.2
  clear q
  have q := keep6 h1 (b := w.heap.size + 1) (by first | (simp; done) | (simp; omega) | omega)
  have kc1_1_0 := q.1
  have kc1_1_1 := q.2.1
  have kc1_1_2 := q.2.2.1
  have kc1_1_3 := q.2.2.2.1
  have kc1_1_4 := q.2.2.2.2.1
  have kc1_1_5 := q.2.2.2.2.2.1
  have kf1_1_0 := q.2.2.2.2.2.2.1
  have kf1_1_1 := q.2.2.2.2.2.2.2.1
  have kf1_1_2 := q.2.2.2.2.2.2.2.2.1
  have kf1_1_3 := q.2.2.2.2.2.2.2.2.2.1
  have kf1_1_4 := q.2.2.2.2.2.2.2.2.2.2.1
  have kf1_1_5 := q.2.2.2.2.2.2.2.2.2.2.2.1
  have kl1_1 := q.2.2.2.2.2.2.2.2.2.2.2.2.1
  have kn1_1 := q.2.2.2.2.2.2.2.2.2.2.2.2.2.1
  have km1_1 := q.2.2.2.2.2.2.2.2.2.2.2.2.2.2
  clear q
  have kz1 := h1.size
  (try simp only [World.size_alloc, World.size_setCell, World.size_drew] at kz1)
  have H1 := Lib.hid h1
  clear h1
  go_wp2_with fail
  refine (I.out 9 (by decide) (by decide) (by decide) _ (by show Rel _ _; (show Rel _ _; repeat (first | with_reducible exact Rel.refl _ | with_reducible refine Rel.alloc ?_ _ | with_reducible refine Rel.setCell ?_ (by first | (simp; done) | (simp; omega)) _ | with_reducible refine Rel.drew ?_ | with_reducible refine Rel.trans ?_ H1.out | with_reducible refine Rel.trans ?_ H0.out))) w1.heap.size (by simp) ⟨by go_simp, by go_simp, by go_simp, by go_simp, by go_simp, by go_simp⟩ ⟨by go_simp, by go_simp, by go_simp, by go_simp, by go_simp, by go_simp⟩).mono ?_
  unfold InfRes
  rw [inf9]
  rintro e w2 ⟨rfl, h2⟩
  have kz2 := h2.size
  (try simp only [World.size_alloc, World.size_setCell, World.size_drew] at kz2)
  have H2 := Lib.hid h2
  clear h2
  go_wp2
  go_ret
  exact ⟨rfl, by (show Rel _ _; repeat (first | with_reducible exact Rel.refl _ | with_reducible refine Rel.alloc ?_ _ | with_reducible refine Rel.setCell ?_ (by first | (simp; done) | (simp; omega)) _ | with_reducible refine Rel.drew ?_ | with_reducible refine Rel.trans ?_ H2.out | with_reducible refine Rel.trans ?_ H1.out | with_reducible refine Rel.trans ?_ H0.out))⟩

end Go.Proofs.YtnhmebhmlbofgaaDoor

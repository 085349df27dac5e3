/- Bundle of texts: each says at its head what it proves; no conditions but those printed. -/
import Derived.Test.YtkghmghjgikihaaGreatDoorTB27
import Derived.Test.YtkghmghjgikihaaGreatDoorTB7
import Derived.Test.YtkghmghjgikihaaGreatDoorTB26
import Derived.Test.YtkghmghjgikihaaGreatDoorTB4
import Derived.WalkKit
import Derived.ProofKit
import Derived.OpenShut
import Derived.ShutString
import Derived.ChangeOld
import Derived.Below
import Derived.SizedLaws
import Derived.ChangeSlices
import Derived.Deep.Slices
import Derived.Deep.Fields
import Derived.ChangeSame
/- Contract of expr (the maker of trees by the rules of the table). No conditions but those printed. -/
namespace Go.Proofs.YtkghmghjgikihaaGreatDoor
open Go.RowKit Cal Str Tok Frac Txt Tree
attribute [local go_sem] calmUpon
set_option linter.unusedVariables false
set_option linter.unusedSimpArgs false
set_option maxRecDepth 20000 in
set_option maxHeartbeats 16000000 in
theorem expr_num (b : Nat) (la : Option Addr) (ln lc : Nat) (d F G : Int) (ea : Option Addr) (ke ecap : Nat) (nm : Nat → ByteArray) (dm : Nat → Int) (hN : EnvG nm dm ke) (hd1 : 1 ≤ d) (hd6 : d ≤ 6) (hF : 3 ≤ F) (hF2 : F ≤ 2000000) (hG : d < 6 → 3 ≤ G ∧ F = 5 * G)
  (IH : d < 6 → ∀ dim, 1 ≤ dim ∧ dim ≤ 4 → ∀ (at' left : Int) (w : World), Src w b la ln lc at' left → EnvB w b ke nm dm ea → at' + 10 * G ≤ 3000000000000000000 → Calls Tryz.prog 47 #[.pointer (some ⟨b, 0, none⟩), .int .i64 dim, .int .i64 (d + 1), .slice ea ke ecap] w (MkRes b la ln lc (at' + 10 * G) G (fun t => t.inf nm dm ke = (dim, 0)) w))
  (dim : Int) (hdim : 2 ≤ dim ∧ dim ≤ 4) (at' left : Int) (w : World) (hS : Src w b la ln lc at' left) (hE : EnvB w b ke nm dm ea) (ha : at' + 10 * F ≤ 3000000000000000000) (hq : d < 6 ∧ 0 < left) :
  Calls Tryz.prog 47 #[.pointer (some ⟨b, 0, none⟩), .int .i64 dim, .int .i64 d, .slice ea ke ecap] w (MkRes b la ln lc (at' + 10 * F) F (fun t => t.inf nm dm ke = (dim, 0)) w) := by
 unfold MkRes
 have HS := Lib.hid hS
 have HE := Lib.hid hE
 have hlt := hS.lt
 have a0 := hS.at0
 have c2 := hS.c2
 have f2 := hS.f2
 have l0 := hS.l0
 have l1 := hS.l1
 have hke := hE.le
 have hbw : w.heap.size ≠ b := by omega
 clear hS hE
 have HG := Lib.hid hG
 have HI := Lib.hid IH
 clear hG IH
 obtain ⟨q2, q3⟩ := hq
 have e1 : decide (6 ≤ d) = false := decide_eq_false (by omega)
 have e2 : decide (left ≤ 0) = false := decide_eq_false (by omega)
 have e11 : (dim == 1) = false := by rw [beq_eq_false_iff_ne]; omega
 go_enter Tryz.func47, Tryz.ntmps47
 go_wp2_with fail
 have hL0 : -9223372036854775808 ≤ left - 2 := by omega
 have hL1 : left - 2 ≤ 9223372036854775807 := by omega
 obtain ⟨L, hL⟩ : ∃ L, left - 2 = L := ⟨_, rfl⟩
 rw [hL] at hL0 hL1 ⊢
 have S0 := Lib.hid ((HS.out.setLeft L hL0 hL1).rel ((Rel.refl _).alloc (.cells #[.int .i64 0, .int .i64 0, .int .i64 0, .int .i64 0, .string ⟨#[]⟩, .slice none 0 0] 29)))
 have R0 := Lib.hid ((((Ro.refl b w).set 2 (.int .i64 L))).alloc (.cells #[.int .i64 0, .int .i64 0, .int .i64 0, .int .i64 0, .string ⟨#[]⟩, .slice none 0 0] 29))
 clear hL
 have g3 : 15 ≤ F := by have := HG.out q2; omega
 refine (next_any b la ln lc at' L 14 _ S0.out (by omega) (by decide) (by decide)).mono ?_
 rintro e w1 ⟨v, rfl, v0, v1, hS1, h1⟩
 have S1 := Lib.hid hS1
 have R1 := Lib.hid (R0.out.trans h1)
 clear hS1
 have q := keepr6 h1 (b := w.heap.size) (by first | (simp; done) | (simp; omega) | omega) (by first | (simp; done) | (simp; omega) | omega)
 have kc1_0_0 := q.1
 have kc1_0_1 := q.2.1
 have kc1_0_2 := q.2.2.1
 have kc1_0_3 := q.2.2.2.1
 have kc1_0_4 := q.2.2.2.2.1
 have kc1_0_5 := q.2.2.2.2.2.1
 have kf1_0_0 := q.2.2.2.2.2.2.1
 have kf1_0_1 := q.2.2.2.2.2.2.2.1
 have kf1_0_2 := q.2.2.2.2.2.2.2.2.1
 have kf1_0_3 := q.2.2.2.2.2.2.2.2.2.1
 have kf1_0_4 := q.2.2.2.2.2.2.2.2.2.2.1
 have kf1_0_5 := q.2.2.2.2.2.2.2.2.2.2.2.1
 have kl1_0 := q.2.2.2.2.2.2.2.2.2.2.2.2.1
 have kn1_0 := q.2.2.2.2.2.2.2.2.2.2.2.2.2.1
 have km1_0 := q.2.2.2.2.2.2.2.2.2.2.2.2.2.2
 clear q
 have kz1 := h1.size
 (try simp only [World.size_alloc, World.size_setCell, World.size_drew] at kz1)
 have H1 := Lib.hid h1
 clear h1
 rcases (show v = 0 ∨ v = 1 ∨ v = 2 ∨ v = 3 ∨ v = 4 ∨ v = 5 ∨ v = 6 ∨ v = 7 ∨ v = 8 ∨ v = 9 ∨ v = 10 ∨ v = 11 ∨ v = 12 ∨ v = 13 by omega) with rfl | rfl | rfl | rfl | rfl | rfl | rfl | rfl | rfl | rfl | rfl | rfl | rfl | rfl
 ·skip
  have t0 : w1.cell? ⟨w.heap.size, 0, none⟩ = some (.int .i64 0) := by go_simp
  have u0 : w1.frozen? ⟨w.heap.size, 0, none⟩ = false := by go_simp
  have t1 : w1.cell? ⟨w.heap.size, 1, none⟩ = some (.int .i64 0) := by go_simp
  have u1 : w1.frozen? ⟨w.heap.size, 1, none⟩ = false := by go_simp
  have t2 : w1.cell? ⟨w.heap.size, 2, none⟩ = some (.int .i64 0) := by go_simp
  have u2 : w1.frozen? ⟨w.heap.size, 2, none⟩ = false := by go_simp
  have t3 : w1.cell? ⟨w.heap.size, 3, none⟩ = some (.int .i64 0) := by go_simp
  have u3 : w1.frozen? ⟨w.heap.size, 3, none⟩ = false := by go_simp
  have t4 : w1.cell? ⟨w.heap.size, 4, none⟩ = some (.string ⟨#[]⟩) := by go_simp
  have u4 : w1.frozen? ⟨w.heap.size, 4, none⟩ = false := by go_simp
  have t5 : w1.cell? ⟨w.heap.size, 5, none⟩ = some (.slice none 0 0) := by go_simp
  have u5 : w1.frozen? ⟨w.heap.size, 5, none⟩ = false := by go_simp
  clear kc1_0_0 kf1_0_0 kc1_0_1 kf1_0_1 kc1_0_2 kf1_0_2 kc1_0_3 kf1_0_3 kc1_0_4 kf1_0_4 kc1_0_5 kf1_0_5
  have S1T := Lib.hid (S1.out.rel ((Rel.refl _).alloc (.cells #[.int .i64 7, .int .i64 8, .int .i64 19, .int .i64 20] 3)))
  have R1T := Lib.hid (R1.out.alloc (.cells #[.int .i64 7, .int .i64 8, .int .i64 19, .int .i64 20] 3))

  obtain ⟨hG3, hF5⟩ := HG.out q2
  have IQ := Lib.hid (HI.out q2)
  go_wp2_with fail
  refine (mknode_any b la ln lc 7 d 2 (fun i => ([dim, dim] : List Int).getD i 0) G (fun dm' t => t.inf nm dm ke = (dm', 0)) ea ke ecap nm dm (fun i hi at2 left2 w2 hS2 hE2 ha2 => IQ.out _ (ds_bd (l := [dim, dim]) rfl (by first | (simp; done) | (simp; omega)) i hi) at2 left2 w2 hS2 hE2 ha2) (at' + 1) L _ (S1T.out.rel ((Rel.refl _).alloc _)) (HE.out.ro ((R1T.out).alloc _)) (w1.heap.size + 1) 2 (by simp) (by have := S1T.out.lt; (try simp at this); omega) (ds_cells (l := [dim, dim]) rfl (by simp)) (by decide) (by decide) (by omega) (by omega) (by omega) (by omega) (by omega) (by omega) (by omega)).mono ?_
  unfold MkRes
  rintro e w9 ⟨t, x, at2, left2, rfl, hK, hz, hat, hS9, h9, hPR⟩
  have hinf : t.inf nm dm ke = (dim, 0) := node_inf' hPR (by omega) (fun E h => by
   have h0 := h 0 (by decide)
   have h1 := h 1 (by decide)
   simp at h0 h1
   unfold resI
   repeat' split
   all_goals omega) (by omega)

  obtain ⟨xa, xc, rfl⟩ := kids_slice (kidsB_to hK)
  have S9 := Lib.hid hS9
  have R9 := Lib.hid (((R1T.out).alloc _).trans h9)
  have HK := Lib.hid hK
  have q := keepr6 h9 (b := w.heap.size) (by first | (simp; done) | (simp; omega) | omega) (by first | (simp; done) | (simp; omega) | omega)
  have kc9_0_0 := q.1
  have kc9_0_1 := q.2.1
  have kc9_0_2 := q.2.2.1
  have kc9_0_3 := q.2.2.2.1
  have kc9_0_4 := q.2.2.2.2.1
  have kc9_0_5 := q.2.2.2.2.2.1
  have kf9_0_0 := q.2.2.2.2.2.2.1
  have kf9_0_1 := q.2.2.2.2.2.2.2.1
  have kf9_0_2 := q.2.2.2.2.2.2.2.2.1
  have kf9_0_3 := q.2.2.2.2.2.2.2.2.2.1
  have kf9_0_4 := q.2.2.2.2.2.2.2.2.2.2.1
  have kf9_0_5 := q.2.2.2.2.2.2.2.2.2.2.2.1
  have kl9_0 := q.2.2.2.2.2.2.2.2.2.2.2.2.1
  have kn9_0 := q.2.2.2.2.2.2.2.2.2.2.2.2.2.1
  have km9_0 := q.2.2.2.2.2.2.2.2.2.2.2.2.2.2
  clear q
  have kz9 := h9.size
  (try simp only [World.size_alloc, World.size_setCell, World.size_drew] at kz9)
  have H9 := Lib.hid h9
  clear h9
  have y0 : w9.cell? ⟨w.heap.size, 0, none⟩ = some (.int .i64 0) := kc9_0_0.trans (by go_simp)
  have x0 : w9.frozen? ⟨w.heap.size, 0, none⟩ = false := kf9_0_0.trans (by go_simp)
  have y1 : w9.cell? ⟨w.heap.size, 1, none⟩ = some (.int .i64 0) := kc9_0_1.trans (by go_simp)
  have x1 : w9.frozen? ⟨w.heap.size, 1, none⟩ = false := kf9_0_1.trans (by go_simp)
  have y2 : w9.cell? ⟨w.heap.size, 2, none⟩ = some (.int .i64 0) := kc9_0_2.trans (by go_simp)
  have x2 : w9.frozen? ⟨w.heap.size, 2, none⟩ = false := kf9_0_2.trans (by go_simp)
  have y3 : w9.cell? ⟨w.heap.size, 3, none⟩ = some (.int .i64 0) := kc9_0_3.trans (by go_simp)
  have x3 : w9.frozen? ⟨w.heap.size, 3, none⟩ = false := kf9_0_3.trans (by go_simp)
  have y4 : w9.cell? ⟨w.heap.size, 4, none⟩ = some (.string ⟨#[]⟩) := kc9_0_4.trans (by go_simp)
  have x4 : w9.frozen? ⟨w.heap.size, 4, none⟩ = false := kf9_0_4.trans (by go_simp)
  have y5 : w9.cell? ⟨w.heap.size, 5, none⟩ = some (.slice none 0 0) := kc9_0_5.trans (by go_simp)
  have x5 : w9.frozen? ⟨w.heap.size, 5, none⟩ = false := kf9_0_5.trans (by go_simp)
  clear kc9_0_0 kf9_0_0 kc9_0_1 kf9_0_1 kc9_0_2 kf9_0_2 kc9_0_3 kf9_0_3 kc9_0_4 kf9_0_4 kc9_0_5 kf9_0_5
  clear hS9 hK
  ((try simp only []); (repeat (first | go_values | go_skip | go_guarded | go_step | go_upon | go_in)))
  have hp := put6 S9.out HS.out.nums R9.out (Nat.le_refl w.heap.size) hbw (.int .i64 t.op) (.int .i64 t.va) (.int .i64 t.vb) (.int .i64 t.dm) (.string t.nm) (.slice xa t.cnt xc)
  have g0 : ((((((w9.setCell ⟨w.heap.size, 0, none⟩ (.int .i64 t.op)).setCell ⟨w.heap.size, 1, none⟩ (.int .i64 t.va)).setCell ⟨w.heap.size, 2, none⟩ (.int .i64 t.vb)).setCell ⟨w.heap.size, 3, none⟩ (.int .i64 t.dm)).setCell ⟨w.heap.size, 4, none⟩ (.string t.nm)).setCell ⟨w.heap.size, 5, none⟩ (.slice xa t.cnt xc)).cell? ⟨w.heap.size, 0, none⟩ = some (.int .i64 t.op) := by go_simp
  have g1 : ((((((w9.setCell ⟨w.heap.size, 0, none⟩ (.int .i64 t.op)).setCell ⟨w.heap.size, 1, none⟩ (.int .i64 t.va)).setCell ⟨w.heap.size, 2, none⟩ (.int .i64 t.vb)).setCell ⟨w.heap.size, 3, none⟩ (.int .i64 t.dm)).setCell ⟨w.heap.size, 4, none⟩ (.string t.nm)).setCell ⟨w.heap.size, 5, none⟩ (.slice xa t.cnt xc)).cell? ⟨w.heap.size, 1, none⟩ = some (.int .i64 t.va) := by go_simp
  have g2 : ((((((w9.setCell ⟨w.heap.size, 0, none⟩ (.int .i64 t.op)).setCell ⟨w.heap.size, 1, none⟩ (.int .i64 t.va)).setCell ⟨w.heap.size, 2, none⟩ (.int .i64 t.vb)).setCell ⟨w.heap.size, 3, none⟩ (.int .i64 t.dm)).setCell ⟨w.heap.size, 4, none⟩ (.string t.nm)).setCell ⟨w.heap.size, 5, none⟩ (.slice xa t.cnt xc)).cell? ⟨w.heap.size, 2, none⟩ = some (.int .i64 t.vb) := by go_simp
  have g3 : ((((((w9.setCell ⟨w.heap.size, 0, none⟩ (.int .i64 t.op)).setCell ⟨w.heap.size, 1, none⟩ (.int .i64 t.va)).setCell ⟨w.heap.size, 2, none⟩ (.int .i64 t.vb)).setCell ⟨w.heap.size, 3, none⟩ (.int .i64 t.dm)).setCell ⟨w.heap.size, 4, none⟩ (.string t.nm)).setCell ⟨w.heap.size, 5, none⟩ (.slice xa t.cnt xc)).cell? ⟨w.heap.size, 3, none⟩ = some (.int .i64 t.dm) := by go_simp
  have g4 : ((((((w9.setCell ⟨w.heap.size, 0, none⟩ (.int .i64 t.op)).setCell ⟨w.heap.size, 1, none⟩ (.int .i64 t.va)).setCell ⟨w.heap.size, 2, none⟩ (.int .i64 t.vb)).setCell ⟨w.heap.size, 3, none⟩ (.int .i64 t.dm)).setCell ⟨w.heap.size, 4, none⟩ (.string t.nm)).setCell ⟨w.heap.size, 5, none⟩ (.slice xa t.cnt xc)).cell? ⟨w.heap.size, 4, none⟩ = some (.string t.nm) := by go_simp
  have g5 : ((((((w9.setCell ⟨w.heap.size, 0, none⟩ (.int .i64 t.op)).setCell ⟨w.heap.size, 1, none⟩ (.int .i64 t.va)).setCell ⟨w.heap.size, 2, none⟩ (.int .i64 t.vb)).setCell ⟨w.heap.size, 3, none⟩ (.int .i64 t.dm)).setCell ⟨w.heap.size, 4, none⟩ (.string t.nm)).setCell ⟨w.heap.size, 5, none⟩ (.slice xa t.cnt xc)).cell? ⟨w.heap.size, 5, none⟩ = some (.slice xa t.cnt xc) := by go_simp
  refine bodyPost_ret (v := .agg #[.int .i64 t.op, .int .i64 t.va, .int .i64 t.vb, .int .i64 t.dm, .string t.nm, .slice xa t.cnt xc]) ?_ rfl ⟨t, _, _, _, rfl, kidsB_put6 HK.out (fun q hq => by (try simp at hq); exact ⟨by omega, by omega⟩) _ _ _ _ _ _, (by omega), (by omega), hp.1, hp.2, hinf⟩
  simp [results, Tryz.results47, go_sem, g0, g1, g2, g3, g4, g5]
 ·skip
  have t0 : w1.cell? ⟨w.heap.size, 0, none⟩ = some (.int .i64 0) := by go_simp
  have u0 : w1.frozen? ⟨w.heap.size, 0, none⟩ = false := by go_simp
  have t1 : w1.cell? ⟨w.heap.size, 1, none⟩ = some (.int .i64 0) := by go_simp
  have u1 : w1.frozen? ⟨w.heap.size, 1, none⟩ = false := by go_simp
  have t2 : w1.cell? ⟨w.heap.size, 2, none⟩ = some (.int .i64 0) := by go_simp
  have u2 : w1.frozen? ⟨w.heap.size, 2, none⟩ = false := by go_simp
  have t3 : w1.cell? ⟨w.heap.size, 3, none⟩ = some (.int .i64 0) := by go_simp
  have u3 : w1.frozen? ⟨w.heap.size, 3, none⟩ = false := by go_simp
  have t4 : w1.cell? ⟨w.heap.size, 4, none⟩ = some (.string ⟨#[]⟩) := by go_simp
  have u4 : w1.frozen? ⟨w.heap.size, 4, none⟩ = false := by go_simp
  have t5 : w1.cell? ⟨w.heap.size, 5, none⟩ = some (.slice none 0 0) := by go_simp
  have u5 : w1.frozen? ⟨w.heap.size, 5, none⟩ = false := by go_simp
  clear kc1_0_0 kf1_0_0 kc1_0_1 kf1_0_1 kc1_0_2 kf1_0_2 kc1_0_3 kf1_0_3 kc1_0_4 kf1_0_4 kc1_0_5 kf1_0_5
  have S1T := Lib.hid (S1.out.rel ((Rel.refl _).alloc (.cells #[.int .i64 7, .int .i64 8, .int .i64 19, .int .i64 20] 3)))
  have R1T := Lib.hid (R1.out.alloc (.cells #[.int .i64 7, .int .i64 8, .int .i64 19, .int .i64 20] 3))

  obtain ⟨hG3, hF5⟩ := HG.out q2
  have IQ := Lib.hid (HI.out q2)
  go_wp2_with fail
  refine (mknode_any b la ln lc 8 d 2 (fun i => ([dim, dim] : List Int).getD i 0) G (fun dm' t => t.inf nm dm ke = (dm', 0)) ea ke ecap nm dm (fun i hi at2 left2 w2 hS2 hE2 ha2 => IQ.out _ (ds_bd (l := [dim, dim]) rfl (by first | (simp; done) | (simp; omega)) i hi) at2 left2 w2 hS2 hE2 ha2) (at' + 1) L _ (S1T.out.rel ((Rel.refl _).alloc _)) (HE.out.ro ((R1T.out).alloc _)) (w1.heap.size + 1) 2 (by simp) (by have := S1T.out.lt; (try simp at this); omega) (ds_cells (l := [dim, dim]) rfl (by simp)) (by decide) (by decide) (by omega) (by omega) (by omega) (by omega) (by omega) (by omega) (by omega)).mono ?_
  unfold MkRes
  rintro e w9 ⟨t, x, at2, left2, rfl, hK, hz, hat, hS9, h9, hPR⟩
  have hinf : t.inf nm dm ke = (dim, 0) := node_inf' hPR (by omega) (fun E h => by
   have h0 := h 0 (by decide)
   have h1 := h 1 (by decide)
   simp at h0 h1
   unfold resI
   repeat' split
   all_goals omega) (by omega)

  obtain ⟨xa, xc, rfl⟩ := kids_slice (kidsB_to hK)
  have S9 := Lib.hid hS9
  have R9 := Lib.hid (((R1T.out).alloc _).trans h9)
  have HK := Lib.hid hK
  have q := keepr6 h9 (b := w.heap.size) (by first | (simp; done) | (simp; omega) | omega) (by first | (simp; done) | (simp; omega) | omega)
  have kc9_0_0 := q.1
  have kc9_0_1 := q.2.1
  have kc9_0_2 := q.2.2.1
  have kc9_0_3 := q.2.2.2.1
  have kc9_0_4 := q.2.2.2.2.1
  have kc9_0_5 := q.2.2.2.2.2.1
  have kf9_0_0 := q.2.2.2.2.2.2.1
  have kf9_0_1 := q.2.2.2.2.2.2.2.1
  have kf9_0_2 := q.2.2.2.2.2.2.2.2.1
  have kf9_0_3 := q.2.2.2.2.2.2.2.2.2.1
  have kf9_0_4 := q.2.2.2.2.2.2.2.2.2.2.1
  have kf9_0_5 := q.2.2.2.2.2.2.2.2.2.2.2.1
  have kl9_0 := q.2.2.2.2.2.2.2.2.2.2.2.2.1
  have kn9_0 := q.2.2.2.2.2.2.2.2.2.2.2.2.2.1
  have km9_0 := q.2.2.2.2.2.2.2.2.2.2.2.2.2.2
  clear q
  have kz9 := h9.size
  (try simp only [World.size_alloc, World.size_setCell, World.size_drew] at kz9)
  have H9 := Lib.hid h9
  clear h9
  have y0 : w9.cell? ⟨w.heap.size, 0, none⟩ = some (.int .i64 0) := kc9_0_0.trans (by go_simp)
  have x0 : w9.frozen? ⟨w.heap.size, 0, none⟩ = false := kf9_0_0.trans (by go_simp)
  have y1 : w9.cell? ⟨w.heap.size, 1, none⟩ = some (.int .i64 0) := kc9_0_1.trans (by go_simp)
  have x1 : w9.frozen? ⟨w.heap.size, 1, none⟩ = false := kf9_0_1.trans (by go_simp)
  have y2 : w9.cell? ⟨w.heap.size, 2, none⟩ = some (.int .i64 0) := kc9_0_2.trans (by go_simp)
  have x2 : w9.frozen? ⟨w.heap.size, 2, none⟩ = false := kf9_0_2.trans (by go_simp)
  have y3 : w9.cell? ⟨w.heap.size, 3, none⟩ = some (.int .i64 0) := kc9_0_3.trans (by go_simp)
  have x3 : w9.frozen? ⟨w.heap.size, 3, none⟩ = false := kf9_0_3.trans (by go_simp)
  have y4 : w9.cell? ⟨w.heap.size, 4, none⟩ = some (.string ⟨#[]⟩) := kc9_0_4.trans (by go_simp)
  have x4 : w9.frozen? ⟨w.heap.size, 4, none⟩ = false := kf9_0_4.trans (by go_simp)
  have y5 : w9.cell? ⟨w.heap.size, 5, none⟩ = some (.slice none 0 0) := kc9_0_5.trans (by go_simp)
  have x5 : w9.frozen? ⟨w.heap.size, 5, none⟩ = false := kf9_0_5.trans (by go_simp)
  clear kc9_0_0 kf9_0_0 kc9_0_1 kf9_0_1 kc9_0_2 kf9_0_2 kc9_0_3 kf9_0_3 kc9_0_4 kf9_0_4 kc9_0_5 kf9_0_5
  clear hS9 hK
  ((try simp only []); (repeat (first | go_values | go_skip | go_guarded | go_step | go_upon | go_in)))
  have hp := put6 S9.out HS.out.nums R9.out (Nat.le_refl w.heap.size) hbw (.int .i64 t.op) (.int .i64 t.va) (.int .i64 t.vb) (.int .i64 t.dm) (.string t.nm) (.slice xa t.cnt xc)
  have g0 : ((((((w9.setCell ⟨w.heap.size, 0, none⟩ (.int .i64 t.op)).setCell ⟨w.heap.size, 1, none⟩ (.int .i64 t.va)).setCell ⟨w.heap.size, 2, none⟩ (.int .i64 t.vb)).setCell ⟨w.heap.size, 3, none⟩ (.int .i64 t.dm)).setCell ⟨w.heap.size, 4, none⟩ (.string t.nm)).setCell ⟨w.heap.size, 5, none⟩ (.slice xa t.cnt xc)).cell? ⟨w.heap.size, 0, none⟩ = some (.int .i64 t.op) := by go_simp
  have g1 : ((((((w9.setCell ⟨w.heap.size, 0, none⟩ (.int .i64 t.op)).setCell ⟨w.heap.size, 1, none⟩ (.int .i64 t.va)).setCell ⟨w.heap.size, 2, none⟩ (.int .i64 t.vb)).setCell ⟨w.heap.size, 3, none⟩ (.int .i64 t.dm)).setCell ⟨w.heap.size, 4, none⟩ (.string t.nm)).setCell ⟨w.heap.size, 5, none⟩ (.slice xa t.cnt xc)).cell? ⟨w.heap.size, 1, none⟩ = some (.int .i64 t.va) := by go_simp
  have g2 : ((((((w9.setCell ⟨w.heap.size, 0, none⟩ (.int .i64 t.op)).setCell ⟨w.heap.size, 1, none⟩ (.int .i64 t.va)).setCell ⟨w.heap.size, 2, none⟩ (.int .i64 t.vb)).setCell ⟨w.heap.size, 3, none⟩ (.int .i64 t.dm)).setCell ⟨w.heap.size, 4, none⟩ (.string t.nm)).setCell ⟨w.heap.size, 5, none⟩ (.slice xa t.cnt xc)).cell? ⟨w.heap.size, 2, none⟩ = some (.int .i64 t.vb) := by go_simp
  have g3 : ((((((w9.setCell ⟨w.heap.size, 0, none⟩ (.int .i64 t.op)).setCell ⟨w.heap.size, 1, none⟩ (.int .i64 t.va)).setCell ⟨w.heap.size, 2, none⟩ (.int .i64 t.vb)).setCell ⟨w.heap.size, 3, none⟩ (.int .i64 t.dm)).setCell ⟨w.heap.size, 4, none⟩ (.string t.nm)).setCell ⟨w.heap.size, 5, none⟩ (.slice xa t.cnt xc)).cell? ⟨w.heap.size, 3, none⟩ = some (.int .i64 t.dm) := by go_simp
  have g4 : ((((((w9.setCell ⟨w.heap.size, 0, none⟩ (.int .i64 t.op)).setCell ⟨w.heap.size, 1, none⟩ (.int .i64 t.va)).setCell ⟨w.heap.size, 2, none⟩ (.int .i64 t.vb)).setCell ⟨w.heap.size, 3, none⟩ (.int .i64 t.dm)).setCell ⟨w.heap.size, 4, none⟩ (.string t.nm)).setCell ⟨w.heap.size, 5, none⟩ (.slice xa t.cnt xc)).cell? ⟨w.heap.size, 4, none⟩ = some (.string t.nm) := by go_simp
  have g5 : ((((((w9.setCell ⟨w.heap.size, 0, none⟩ (.int .i64 t.op)).setCell ⟨w.heap.size, 1, none⟩ (.int .i64 t.va)).setCell ⟨w.heap.size, 2, none⟩ (.int .i64 t.vb)).setCell ⟨w.heap.size, 3, none⟩ (.int .i64 t.dm)).setCell ⟨w.heap.size, 4, none⟩ (.string t.nm)).setCell ⟨w.heap.size, 5, none⟩ (.slice xa t.cnt xc)).cell? ⟨w.heap.size, 5, none⟩ = some (.slice xa t.cnt xc) := by go_simp
  refine bodyPost_ret (v := .agg #[.int .i64 t.op, .int .i64 t.va, .int .i64 t.vb, .int .i64 t.dm, .string t.nm, .slice xa t.cnt xc]) ?_ rfl ⟨t, _, _, _, rfl, kidsB_put6 HK.out (fun q hq => by (try simp at hq); exact ⟨by omega, by omega⟩) _ _ _ _ _ _, (by omega), (by omega), hp.1, hp.2, hinf⟩
  simp [results, Tryz.results47, go_sem, g0, g1, g2, g3, g4, g5]
 ·skip
  have t0 : w1.cell? ⟨w.heap.size, 0, none⟩ = some (.int .i64 0) := by go_simp
  have u0 : w1.frozen? ⟨w.heap.size, 0, none⟩ = false := by go_simp
  have t1 : w1.cell? ⟨w.heap.size, 1, none⟩ = some (.int .i64 0) := by go_simp
  have u1 : w1.frozen? ⟨w.heap.size, 1, none⟩ = false := by go_simp
  have t2 : w1.cell? ⟨w.heap.size, 2, none⟩ = some (.int .i64 0) := by go_simp
  have u2 : w1.frozen? ⟨w.heap.size, 2, none⟩ = false := by go_simp
  have t3 : w1.cell? ⟨w.heap.size, 3, none⟩ = some (.int .i64 0) := by go_simp
  have u3 : w1.frozen? ⟨w.heap.size, 3, none⟩ = false := by go_simp
  have t4 : w1.cell? ⟨w.heap.size, 4, none⟩ = some (.string ⟨#[]⟩) := by go_simp
  have u4 : w1.frozen? ⟨w.heap.size, 4, none⟩ = false := by go_simp
  have t5 : w1.cell? ⟨w.heap.size, 5, none⟩ = some (.slice none 0 0) := by go_simp
  have u5 : w1.frozen? ⟨w.heap.size, 5, none⟩ = false := by go_simp
  clear kc1_0_0 kf1_0_0 kc1_0_1 kf1_0_1 kc1_0_2 kf1_0_2 kc1_0_3 kf1_0_3 kc1_0_4 kf1_0_4 kc1_0_5 kf1_0_5
  have S1T := Lib.hid (S1.out.rel ((Rel.refl _).alloc (.cells #[.int .i64 7, .int .i64 8, .int .i64 19, .int .i64 20] 3)))
  have R1T := Lib.hid (R1.out.alloc (.cells #[.int .i64 7, .int .i64 8, .int .i64 19, .int .i64 20] 3))

  obtain ⟨hG3, hF5⟩ := HG.out q2
  have IQ := Lib.hid (HI.out q2)
  go_wp2_with fail
  refine (mknode_any b la ln lc 19 d 2 (fun i => ([dim, dim] : List Int).getD i 0) G (fun dm' t => t.inf nm dm ke = (dm', 0)) ea ke ecap nm dm (fun i hi at2 left2 w2 hS2 hE2 ha2 => IQ.out _ (ds_bd (l := [dim, dim]) rfl (by first | (simp; done) | (simp; omega)) i hi) at2 left2 w2 hS2 hE2 ha2) (at' + 1) L _ (S1T.out.rel ((Rel.refl _).alloc _)) (HE.out.ro ((R1T.out).alloc _)) (w1.heap.size + 1) 2 (by simp) (by have := S1T.out.lt; (try simp at this); omega) (ds_cells (l := [dim, dim]) rfl (by simp)) (by decide) (by decide) (by omega) (by omega) (by omega) (by omega) (by omega) (by omega) (by omega)).mono ?_
  unfold MkRes
  rintro e w9 ⟨t, x, at2, left2, rfl, hK, hz, hat, hS9, h9, hPR⟩
  have hinf : t.inf nm dm ke = (dim, 0) := node_inf' hPR (by omega) (fun E h => by
   have h0 := h 0 (by decide)
   have h1 := h 1 (by decide)
   simp at h0 h1
   unfold resI
   repeat' split
   all_goals omega) (by omega)

  obtain ⟨xa, xc, rfl⟩ := kids_slice (kidsB_to hK)
  have S9 := Lib.hid hS9
  have R9 := Lib.hid (((R1T.out).alloc _).trans h9)
  have HK := Lib.hid hK
  have q := keepr6 h9 (b := w.heap.size) (by first | (simp; done) | (simp; omega) | omega) (by first | (simp; done) | (simp; omega) | omega)
  have kc9_0_0 := q.1
  have kc9_0_1 := q.2.1
  have kc9_0_2 := q.2.2.1
  have kc9_0_3 := q.2.2.2.1
  have kc9_0_4 := q.2.2.2.2.1
  have kc9_0_5 := q.2.2.2.2.2.1
  have kf9_0_0 := q.2.2.2.2.2.2.1
  have kf9_0_1 := q.2.2.2.2.2.2.2.1
  have kf9_0_2 := q.2.2.2.2.2.2.2.2.1
  have kf9_0_3 := q.2.2.2.2.2.2.2.2.2.1
  have kf9_0_4 := q.2.2.2.2.2.2.2.2.2.2.1
  have kf9_0_5 := q.2.2.2.2.2.2.2.2.2.2.2.1
  have kl9_0 := q.2.2.2.2.2.2.2.2.2.2.2.2.1
  have kn9_0 := q.2.2.2.2.2.2.2.2.2.2.2.2.2.1
  have km9_0 := q.2.2.2.2.2.2.2.2.2.2.2.2.2.2
  clear q
  have kz9 := h9.size
  (try simp only [World.size_alloc, World.size_setCell, World.size_drew] at kz9)
  have H9 := Lib.hid h9
  clear h9
  have y0 : w9.cell? ⟨w.heap.size, 0, none⟩ = some (.int .i64 0) := kc9_0_0.trans (by go_simp)
  have x0 : w9.frozen? ⟨w.heap.size, 0, none⟩ = false := kf9_0_0.trans (by go_simp)
  have y1 : w9.cell? ⟨w.heap.size, 1, none⟩ = some (.int .i64 0) := kc9_0_1.trans (by go_simp)
  have x1 : w9.frozen? ⟨w.heap.size, 1, none⟩ = false := kf9_0_1.trans (by go_simp)
  have y2 : w9.cell? ⟨w.heap.size, 2, none⟩ = some (.int .i64 0) := kc9_0_2.trans (by go_simp)
  have x2 : w9.frozen? ⟨w.heap.size, 2, none⟩ = false := kf9_0_2.trans (by go_simp)
  have y3 : w9.cell? ⟨w.heap.size, 3, none⟩ = some (.int .i64 0) := kc9_0_3.trans (by go_simp)
  have x3 : w9.frozen? ⟨w.heap.size, 3, none⟩ = false := kf9_0_3.trans (by go_simp)
  have y4 : w9.cell? ⟨w.heap.size, 4, none⟩ = some (.string ⟨#[]⟩) := kc9_0_4.trans (by go_simp)
  have x4 : w9.frozen? ⟨w.heap.size, 4, none⟩ = false := kf9_0_4.trans (by go_simp)
  have y5 : w9.cell? ⟨w.heap.size, 5, none⟩ = some (.slice none 0 0) := kc9_0_5.trans (by go_simp)
  have x5 : w9.frozen? ⟨w.heap.size, 5, none⟩ = false := kf9_0_5.trans (by go_simp)
  clear kc9_0_0 kf9_0_0 kc9_0_1 kf9_0_1 kc9_0_2 kf9_0_2 kc9_0_3 kf9_0_3 kc9_0_4 kf9_0_4 kc9_0_5 kf9_0_5
  clear hS9 hK
  ((try simp only []); (repeat (first | go_values | go_skip | go_guarded | go_step | go_upon | go_in)))
  have hp := put6 S9.out HS.out.nums R9.out (Nat.le_refl w.heap.size) hbw (.int .i64 t.op) (.int .i64 t.va) (.int .i64 t.vb) (.int .i64 t.dm) (.string t.nm) (.slice xa t.cnt xc)
  have g0 : ((((((w9.setCell ⟨w.heap.size, 0, none⟩ (.int .i64 t.op)).setCell ⟨w.heap.size, 1, none⟩ (.int .i64 t.va)).setCell ⟨w.heap.size, 2, none⟩ (.int .i64 t.vb)).setCell ⟨w.heap.size, 3, none⟩ (.int .i64 t.dm)).setCell ⟨w.heap.size, 4, none⟩ (.string t.nm)).setCell ⟨w.heap.size, 5, none⟩ (.slice xa t.cnt xc)).cell? ⟨w.heap.size, 0, none⟩ = some (.int .i64 t.op) := by go_simp
  have g1 : ((((((w9.setCell ⟨w.heap.size, 0, none⟩ (.int .i64 t.op)).setCell ⟨w.heap.size, 1, none⟩ (.int .i64 t.va)).setCell ⟨w.heap.size, 2, none⟩ (.int .i64 t.vb)).setCell ⟨w.heap.size, 3, none⟩ (.int .i64 t.dm)).setCell ⟨w.heap.size, 4, none⟩ (.string t.nm)).setCell ⟨w.heap.size, 5, none⟩ (.slice xa t.cnt xc)).cell? ⟨w.heap.size, 1, none⟩ = some (.int .i64 t.va) := by go_simp
  have g2 : ((((((w9.setCell ⟨w.heap.size, 0, none⟩ (.int .i64 t.op)).setCell ⟨w.heap.size, 1, none⟩ (.int .i64 t.va)).setCell ⟨w.heap.size, 2, none⟩ (.int .i64 t.vb)).setCell ⟨w.heap.size, 3, none⟩ (.int .i64 t.dm)).setCell ⟨w.heap.size, 4, none⟩ (.string t.nm)).setCell ⟨w.heap.size, 5, none⟩ (.slice xa t.cnt xc)).cell? ⟨w.heap.size, 2, none⟩ = some (.int .i64 t.vb) := by go_simp
  have g3 : ((((((w9.setCell ⟨w.heap.size, 0, none⟩ (.int .i64 t.op)).setCell ⟨w.heap.size, 1, none⟩ (.int .i64 t.va)).setCell ⟨w.heap.size, 2, none⟩ (.int .i64 t.vb)).setCell ⟨w.heap.size, 3, none⟩ (.int .i64 t.dm)).setCell ⟨w.heap.size, 4, none⟩ (.string t.nm)).setCell ⟨w.heap.size, 5, none⟩ (.slice xa t.cnt xc)).cell? ⟨w.heap.size, 3, none⟩ = some (.int .i64 t.dm) := by go_simp
  have g4 : ((((((w9.setCell ⟨w.heap.size, 0, none⟩ (.int .i64 t.op)).setCell ⟨w.heap.size, 1, none⟩ (.int .i64 t.va)).setCell ⟨w.heap.size, 2, none⟩ (.int .i64 t.vb)).setCell ⟨w.heap.size, 3, none⟩ (.int .i64 t.dm)).setCell ⟨w.heap.size, 4, none⟩ (.string t.nm)).setCell ⟨w.heap.size, 5, none⟩ (.slice xa t.cnt xc)).cell? ⟨w.heap.size, 4, none⟩ = some (.string t.nm) := by go_simp
  have g5 : ((((((w9.setCell ⟨w.heap.size, 0, none⟩ (.int .i64 t.op)).setCell ⟨w.heap.size, 1, none⟩ (.int .i64 t.va)).setCell ⟨w.heap.size, 2, none⟩ (.int .i64 t.vb)).setCell ⟨w.heap.size, 3, none⟩ (.int .i64 t.dm)).setCell ⟨w.heap.size, 4, none⟩ (.string t.nm)).setCell ⟨w.heap.size, 5, none⟩ (.slice xa t.cnt xc)).cell? ⟨w.heap.size, 5, none⟩ = some (.slice xa t.cnt xc) := by go_simp
  refine bodyPost_ret (v := .agg #[.int .i64 t.op, .int .i64 t.va, .int .i64 t.vb, .int .i64 t.dm, .string t.nm, .slice xa t.cnt xc]) ?_ rfl ⟨t, _, _, _, rfl, kidsB_put6 HK.out (fun q hq => by (try simp at hq); exact ⟨by omega, by omega⟩) _ _ _ _ _ _, (by omega), (by omega), hp.1, hp.2, hinf⟩
  simp [results, Tryz.results47, go_sem, g0, g1, g2, g3, g4, g5]
 ·skip
  have t0 : w1.cell? ⟨w.heap.size, 0, none⟩ = some (.int .i64 0) := by go_simp
  have u0 : w1.frozen? ⟨w.heap.size, 0, none⟩ = false := by go_simp
  have t1 : w1.cell? ⟨w.heap.size, 1, none⟩ = some (.int .i64 0) := by go_simp
  have u1 : w1.frozen? ⟨w.heap.size, 1, none⟩ = false := by go_simp
  have t2 : w1.cell? ⟨w.heap.size, 2, none⟩ = some (.int .i64 0) := by go_simp
  have u2 : w1.frozen? ⟨w.heap.size, 2, none⟩ = false := by go_simp
  have t3 : w1.cell? ⟨w.heap.size, 3, none⟩ = some (.int .i64 0) := by go_simp
  have u3 : w1.frozen? ⟨w.heap.size, 3, none⟩ = false := by go_simp
  have t4 : w1.cell? ⟨w.heap.size, 4, none⟩ = some (.string ⟨#[]⟩) := by go_simp
  have u4 : w1.frozen? ⟨w.heap.size, 4, none⟩ = false := by go_simp
  have t5 : w1.cell? ⟨w.heap.size, 5, none⟩ = some (.slice none 0 0) := by go_simp
  have u5 : w1.frozen? ⟨w.heap.size, 5, none⟩ = false := by go_simp
  clear kc1_0_0 kf1_0_0 kc1_0_1 kf1_0_1 kc1_0_2 kf1_0_2 kc1_0_3 kf1_0_3 kc1_0_4 kf1_0_4 kc1_0_5 kf1_0_5
  have S1T := Lib.hid (S1.out.rel ((Rel.refl _).alloc (.cells #[.int .i64 7, .int .i64 8, .int .i64 19, .int .i64 20] 3)))
  have R1T := Lib.hid (R1.out.alloc (.cells #[.int .i64 7, .int .i64 8, .int .i64 19, .int .i64 20] 3))

  obtain ⟨hG3, hF5⟩ := HG.out q2
  have IQ := Lib.hid (HI.out q2)
  go_wp2_with fail
  refine (mknode_any b la ln lc 20 d 2 (fun i => ([dim, dim] : List Int).getD i 0) G (fun dm' t => t.inf nm dm ke = (dm', 0)) ea ke ecap nm dm (fun i hi at2 left2 w2 hS2 hE2 ha2 => IQ.out _ (ds_bd (l := [dim, dim]) rfl (by first | (simp; done) | (simp; omega)) i hi) at2 left2 w2 hS2 hE2 ha2) (at' + 1) L _ (S1T.out.rel ((Rel.refl _).alloc _)) (HE.out.ro ((R1T.out).alloc _)) (w1.heap.size + 1) 2 (by simp) (by have := S1T.out.lt; (try simp at this); omega) (ds_cells (l := [dim, dim]) rfl (by simp)) (by decide) (by decide) (by omega) (by omega) (by omega) (by omega) (by omega) (by omega) (by omega)).mono ?_
  unfold MkRes
  rintro e w9 ⟨t, x, at2, left2, rfl, hK, hz, hat, hS9, h9, hPR⟩
  have hinf : t.inf nm dm ke = (dim, 0) := node_inf' hPR (by omega) (fun E h => by
   have h0 := h 0 (by decide)
   have h1 := h 1 (by decide)
   simp at h0 h1
   unfold resI
   repeat' split
   all_goals omega) (by omega)

  obtain ⟨xa, xc, rfl⟩ := kids_slice (kidsB_to hK)
  have S9 := Lib.hid hS9
  have R9 := Lib.hid (((R1T.out).alloc _).trans h9)
  have HK := Lib.hid hK
  have q := keepr6 h9 (b := w.heap.size) (by first | (simp; done) | (simp; omega) | omega) (by first | (simp; done) | (simp; omega) | omega)
  have kc9_0_0 := q.1
  have kc9_0_1 := q.2.1
  have kc9_0_2 := q.2.2.1
  have kc9_0_3 := q.2.2.2.1
  have kc9_0_4 := q.2.2.2.2.1
  have kc9_0_5 := q.2.2.2.2.2.1
  have kf9_0_0 := q.2.2.2.2.2.2.1
  have kf9_0_1 := q.2.2.2.2.2.2.2.1
  have kf9_0_2 := q.2.2.2.2.2.2.2.2.1
  have kf9_0_3 := q.2.2.2.2.2.2.2.2.2.1
  have kf9_0_4 := q.2.2.2.2.2.2.2.2.2.2.1
  have kf9_0_5 := q.2.2.2.2.2.2.2.2.2.2.2.1
  have kl9_0 := q.2.2.2.2.2.2.2.2.2.2.2.2.1
  have kn9_0 := q.2.2.2.2.2.2.2.2.2.2.2.2.2.1
  have km9_0 := q.2.2.2.2.2.2.2.2.2.2.2.2.2.2
  clear q
  have kz9 := h9.size
  (try simp only [World.size_alloc, World.size_setCell, World.size_drew] at kz9)
  have H9 := Lib.hid h9
  clear h9
  have y0 : w9.cell? ⟨w.heap.size, 0, none⟩ = some (.int .i64 0) := kc9_0_0.trans (by go_simp)
  have x0 : w9.frozen? ⟨w.heap.size, 0, none⟩ = false := kf9_0_0.trans (by go_simp)
  have y1 : w9.cell? ⟨w.heap.size, 1, none⟩ = some (.int .i64 0) := kc9_0_1.trans (by go_simp)
  have x1 : w9.frozen? ⟨w.heap.size, 1, none⟩ = false := kf9_0_1.trans (by go_simp)
  have y2 : w9.cell? ⟨w.heap.size, 2, none⟩ = some (.int .i64 0) := kc9_0_2.trans (by go_simp)
  have x2 : w9.frozen? ⟨w.heap.size, 2, none⟩ = false := kf9_0_2.trans (by go_simp)
  have y3 : w9.cell? ⟨w.heap.size, 3, none⟩ = some (.int .i64 0) := kc9_0_3.trans (by go_simp)
  have x3 : w9.frozen? ⟨w.heap.size, 3, none⟩ = false := kf9_0_3.trans (by go_simp)
  have y4 : w9.cell? ⟨w.heap.size, 4, none⟩ = some (.string ⟨#[]⟩) := kc9_0_4.trans (by go_simp)
  have x4 : w9.frozen? ⟨w.heap.size, 4, none⟩ = false := kf9_0_4.trans (by go_simp)
  have y5 : w9.cell? ⟨w.heap.size, 5, none⟩ = some (.slice none 0 0) := kc9_0_5.trans (by go_simp)
  have x5 : w9.frozen? ⟨w.heap.size, 5, none⟩ = false := kf9_0_5.trans (by go_simp)
  clear kc9_0_0 kf9_0_0 kc9_0_1 kf9_0_1 kc9_0_2 kf9_0_2 kc9_0_3 kf9_0_3 kc9_0_4 kf9_0_4 kc9_0_5 kf9_0_5
  clear hS9 hK
  ((try simp only []); (repeat (first | go_values | go_skip | go_guarded | go_step | go_upon | go_in)))
  have hp := put6 S9.out HS.out.nums R9.out (Nat.le_refl w.heap.size) hbw (.int .i64 t.op) (.int .i64 t.va) (.int .i64 t.vb) (.int .i64 t.dm) (.string t.nm) (.slice xa t.cnt xc)
  have g0 : ((((((w9.setCell ⟨w.heap.size, 0, none⟩ (.int .i64 t.op)).setCell ⟨w.heap.size, 1, none⟩ (.int .i64 t.va)).setCell ⟨w.heap.size, 2, none⟩ (.int .i64 t.vb)).setCell ⟨w.heap.size, 3, none⟩ (.int .i64 t.dm)).setCell ⟨w.heap.size, 4, none⟩ (.string t.nm)).setCell ⟨w.heap.size, 5, none⟩ (.slice xa t.cnt xc)).cell? ⟨w.heap.size, 0, none⟩ = some (.int .i64 t.op) := by go_simp
  have g1 : ((((((w9.setCell ⟨w.heap.size, 0, none⟩ (.int .i64 t.op)).setCell ⟨w.heap.size, 1, none⟩ (.int .i64 t.va)).setCell ⟨w.heap.size, 2, none⟩ (.int .i64 t.vb)).setCell ⟨w.heap.size, 3, none⟩ (.int .i64 t.dm)).setCell ⟨w.heap.size, 4, none⟩ (.string t.nm)).setCell ⟨w.heap.size, 5, none⟩ (.slice xa t.cnt xc)).cell? ⟨w.heap.size, 1, none⟩ = some (.int .i64 t.va) := by go_simp
  have g2 : ((((((w9.setCell ⟨w.heap.size, 0, none⟩ (.int .i64 t.op)).setCell ⟨w.heap.size, 1, none⟩ (.int .i64 t.va)).setCell ⟨w.heap.size, 2, none⟩ (.int .i64 t.vb)).setCell ⟨w.heap.size, 3, none⟩ (.int .i64 t.dm)).setCell ⟨w.heap.size, 4, none⟩ (.string t.nm)).setCell ⟨w.heap.size, 5, none⟩ (.slice xa t.cnt xc)).cell? ⟨w.heap.size, 2, none⟩ = some (.int .i64 t.vb) := by go_simp
  have g3 : ((((((w9.setCell ⟨w.heap.size, 0, none⟩ (.int .i64 t.op)).setCell ⟨w.heap.size, 1, none⟩ (.int .i64 t.va)).setCell ⟨w.heap.size, 2, none⟩ (.int .i64 t.vb)).setCell ⟨w.heap.size, 3, none⟩ (.int .i64 t.dm)).setCell ⟨w.heap.size, 4, none⟩ (.string t.nm)).setCell ⟨w.heap.size, 5, none⟩ (.slice xa t.cnt xc)).cell? ⟨w.heap.size, 3, none⟩ = some (.int .i64 t.dm) := by go_simp
  have g4 : ((((((w9.setCell ⟨w.heap.size, 0, none⟩ (.int .i64 t.op)).setCell ⟨w.heap.size, 1, none⟩ (.int .i64 t.va)).setCell ⟨w.heap.size, 2, none⟩ (.int .i64 t.vb)).setCell ⟨w.heap.size, 3, none⟩ (.int .i64 t.dm)).setCell ⟨w.heap.size, 4, none⟩ (.string t.nm)).setCell ⟨w.heap.size, 5, none⟩ (.slice xa t.cnt xc)).cell? ⟨w.heap.size, 4, none⟩ = some (.string t.nm) := by go_simp
  have g5 : ((((((w9.setCell ⟨w.heap.size, 0, none⟩ (.int .i64 t.op)).setCell ⟨w.heap.size, 1, none⟩ (.int .i64 t.va)).setCell ⟨w.heap.size, 2, none⟩ (.int .i64 t.vb)).setCell ⟨w.heap.size, 3, none⟩ (.int .i64 t.dm)).setCell ⟨w.heap.size, 4, none⟩ (.string t.nm)).setCell ⟨w.heap.size, 5, none⟩ (.slice xa t.cnt xc)).cell? ⟨w.heap.size, 5, none⟩ = some (.slice xa t.cnt xc) := by go_simp
  refine bodyPost_ret (v := .agg #[.int .i64 t.op, .int .i64 t.va, .int .i64 t.vb, .int .i64 t.dm, .string t.nm, .slice xa t.cnt xc]) ?_ rfl ⟨t, _, _, _, rfl, kidsB_put6 HK.out (fun q hq => by (try simp at hq); exact ⟨by omega, by omega⟩) _ _ _ _ _ _, (by omega), (by omega), hp.1, hp.2, hinf⟩
  simp [results, Tryz.results47, go_sem, g0, g1, g2, g3, g4, g5]
 ·skip
  obtain ⟨hG3, hF5⟩ := HG.out q2
  have IQ := Lib.hid (HI.out q2)
  go_wp2_with fail
  refine (mknode_any b la ln lc 21 d 3 (fun i => ([1, dim, dim] : List Int).getD i 0) G (fun dm' t => t.inf nm dm ke = (dm', 0)) ea ke ecap nm dm (fun i hi at2 left2 w2 hS2 hE2 ha2 => IQ.out _ (ds_bd (l := [1, dim, dim]) rfl (by first | (simp; done) | (simp; omega)) i hi) at2 left2 w2 hS2 hE2 ha2) (at' + 1) L _ (S1.out.rel ((Rel.refl _).alloc _)) (HE.out.ro ((R1.out).alloc _)) w1.heap.size 3 (by simp) (by have := S1.out.lt; (try simp at this); omega) (ds_cells (l := [1, dim, dim]) rfl rfl) (by decide) (by decide) (by omega) (by omega) (by omega) (by omega) (by omega) (by omega) (by omega)).mono ?_
  unfold MkRes
  rintro e w9 ⟨t, x, at2, left2, rfl, hK, hz, hat, hS9, h9, hPR⟩
  have hinf : t.inf nm dm ke = (dim, 0) := node_inf' hPR (by omega) (fun E h => by
   have h0 := h 0 (by decide)
   have h1 := h 1 (by decide)
   have h2 := h 2 (by decide)
   simp at h0 h1 h2
   unfold resI
   repeat' split
   all_goals omega) (by omega)

  obtain ⟨xa, xc, rfl⟩ := kids_slice (kidsB_to hK)
  have S9 := Lib.hid hS9
  have R9 := Lib.hid (((R1.out).alloc _).trans h9)
  have HK := Lib.hid hK
  have q := keepr6 h9 (b := w.heap.size) (by first | (simp; done) | (simp; omega) | omega) (by first | (simp; done) | (simp; omega) | omega)
  have kc9_0_0 := q.1
  have kc9_0_1 := q.2.1
  have kc9_0_2 := q.2.2.1
  have kc9_0_3 := q.2.2.2.1
  have kc9_0_4 := q.2.2.2.2.1
  have kc9_0_5 := q.2.2.2.2.2.1
  have kf9_0_0 := q.2.2.2.2.2.2.1
  have kf9_0_1 := q.2.2.2.2.2.2.2.1
  have kf9_0_2 := q.2.2.2.2.2.2.2.2.1
  have kf9_0_3 := q.2.2.2.2.2.2.2.2.2.1
  have kf9_0_4 := q.2.2.2.2.2.2.2.2.2.2.1
  have kf9_0_5 := q.2.2.2.2.2.2.2.2.2.2.2.1
  have kl9_0 := q.2.2.2.2.2.2.2.2.2.2.2.2.1
  have kn9_0 := q.2.2.2.2.2.2.2.2.2.2.2.2.2.1
  have km9_0 := q.2.2.2.2.2.2.2.2.2.2.2.2.2.2
  clear q
  have kz9 := h9.size
  (try simp only [World.size_alloc, World.size_setCell, World.size_drew] at kz9)
  have H9 := Lib.hid h9
  clear h9

  clear hS9 hK
  ((try simp only []); (repeat (first | go_values | go_skip | go_guarded | go_step | go_upon | go_in)))
  have hp := put6 S9.out HS.out.nums R9.out (Nat.le_refl w.heap.size) hbw (.int .i64 t.op) (.int .i64 t.va) (.int .i64 t.vb) (.int .i64 t.dm) (.string t.nm) (.slice xa t.cnt xc)
  have g0 : ((((((w9.setCell ⟨w.heap.size, 0, none⟩ (.int .i64 t.op)).setCell ⟨w.heap.size, 1, none⟩ (.int .i64 t.va)).setCell ⟨w.heap.size, 2, none⟩ (.int .i64 t.vb)).setCell ⟨w.heap.size, 3, none⟩ (.int .i64 t.dm)).setCell ⟨w.heap.size, 4, none⟩ (.string t.nm)).setCell ⟨w.heap.size, 5, none⟩ (.slice xa t.cnt xc)).cell? ⟨w.heap.size, 0, none⟩ = some (.int .i64 t.op) := by go_simp
  have g1 : ((((((w9.setCell ⟨w.heap.size, 0, none⟩ (.int .i64 t.op)).setCell ⟨w.heap.size, 1, none⟩ (.int .i64 t.va)).setCell ⟨w.heap.size, 2, none⟩ (.int .i64 t.vb)).setCell ⟨w.heap.size, 3, none⟩ (.int .i64 t.dm)).setCell ⟨w.heap.size, 4, none⟩ (.string t.nm)).setCell ⟨w.heap.size, 5, none⟩ (.slice xa t.cnt xc)).cell? ⟨w.heap.size, 1, none⟩ = some (.int .i64 t.va) := by go_simp
  have g2 : ((((((w9.setCell ⟨w.heap.size, 0, none⟩ (.int .i64 t.op)).setCell ⟨w.heap.size, 1, none⟩ (.int .i64 t.va)).setCell ⟨w.heap.size, 2, none⟩ (.int .i64 t.vb)).setCell ⟨w.heap.size, 3, none⟩ (.int .i64 t.dm)).setCell ⟨w.heap.size, 4, none⟩ (.string t.nm)).setCell ⟨w.heap.size, 5, none⟩ (.slice xa t.cnt xc)).cell? ⟨w.heap.size, 2, none⟩ = some (.int .i64 t.vb) := by go_simp
  have g3 : ((((((w9.setCell ⟨w.heap.size, 0, none⟩ (.int .i64 t.op)).setCell ⟨w.heap.size, 1, none⟩ (.int .i64 t.va)).setCell ⟨w.heap.size, 2, none⟩ (.int .i64 t.vb)).setCell ⟨w.heap.size, 3, none⟩ (.int .i64 t.dm)).setCell ⟨w.heap.size, 4, none⟩ (.string t.nm)).setCell ⟨w.heap.size, 5, none⟩ (.slice xa t.cnt xc)).cell? ⟨w.heap.size, 3, none⟩ = some (.int .i64 t.dm) := by go_simp
  have g4 : ((((((w9.setCell ⟨w.heap.size, 0, none⟩ (.int .i64 t.op)).setCell ⟨w.heap.size, 1, none⟩ (.int .i64 t.va)).setCell ⟨w.heap.size, 2, none⟩ (.int .i64 t.vb)).setCell ⟨w.heap.size, 3, none⟩ (.int .i64 t.dm)).setCell ⟨w.heap.size, 4, none⟩ (.string t.nm)).setCell ⟨w.heap.size, 5, none⟩ (.slice xa t.cnt xc)).cell? ⟨w.heap.size, 4, none⟩ = some (.string t.nm) := by go_simp
  have g5 : ((((((w9.setCell ⟨w.heap.size, 0, none⟩ (.int .i64 t.op)).setCell ⟨w.heap.size, 1, none⟩ (.int .i64 t.va)).setCell ⟨w.heap.size, 2, none⟩ (.int .i64 t.vb)).setCell ⟨w.heap.size, 3, none⟩ (.int .i64 t.dm)).setCell ⟨w.heap.size, 4, none⟩ (.string t.nm)).setCell ⟨w.heap.size, 5, none⟩ (.slice xa t.cnt xc)).cell? ⟨w.heap.size, 5, none⟩ = some (.slice xa t.cnt xc) := by go_simp
  refine bodyPost_ret (v := .agg #[.int .i64 t.op, .int .i64 t.va, .int .i64 t.vb, .int .i64 t.dm, .string t.nm, .slice xa t.cnt xc]) ?_ rfl ⟨t, _, _, _, rfl, kidsB_put6 HK.out (fun q hq => by (try simp at hq); exact ⟨by omega, by omega⟩) _ _ _ _ _ _, (by omega), (by omega), hp.1, hp.2, hinf⟩
  simp [results, Tryz.results47, go_sem, g0, g1, g2, g3, g4, g5]
 ·skip
  obtain ⟨hG3, hF5⟩ := HG.out q2
  have IQ := Lib.hid (HI.out q2)
  go_wp2_with fail
  refine (mknode_any b la ln lc 4 d 1 (fun i => ([dim] : List Int).getD i 0) G (fun dm' t => t.inf nm dm ke = (dm', 0)) ea ke ecap nm dm (fun i hi at2 left2 w2 hS2 hE2 ha2 => IQ.out _ (ds_bd (l := [dim]) rfl (by first | (simp; done) | (simp; omega)) i hi) at2 left2 w2 hS2 hE2 ha2) (at' + 1) L _ (S1.out.rel ((Rel.refl _).alloc _)) (HE.out.ro ((R1.out).alloc _)) w1.heap.size 1 (by simp) (by have := S1.out.lt; (try simp at this); omega) (ds_cells (l := [dim]) rfl rfl) (by decide) (by decide) (by omega) (by omega) (by omega) (by omega) (by omega) (by omega) (by omega)).mono ?_
  unfold MkRes
  rintro e w9 ⟨t, x, at2, left2, rfl, hK, hz, hat, hS9, h9, hPR⟩
  have hinf : t.inf nm dm ke = (dim, 0) := node_inf' hPR (by omega) (fun E h => by
   have h0 := h 0 (by decide)

   simp at h0 
   unfold resI
   repeat' split
   all_goals omega) (by omega)

  obtain ⟨xa, xc, rfl⟩ := kids_slice (kidsB_to hK)
  have S9 := Lib.hid hS9
  have R9 := Lib.hid (((R1.out).alloc _).trans h9)
  have HK := Lib.hid hK
  have q := keepr6 h9 (b := w.heap.size) (by first | (simp; done) | (simp; omega) | omega) (by first | (simp; done) | (simp; omega) | omega)
  have kc9_0_0 := q.1
  have kc9_0_1 := q.2.1
  have kc9_0_2 := q.2.2.1
  have kc9_0_3 := q.2.2.2.1
  have kc9_0_4 := q.2.2.2.2.1
  have kc9_0_5 := q.2.2.2.2.2.1
  have kf9_0_0 := q.2.2.2.2.2.2.1
  have kf9_0_1 := q.2.2.2.2.2.2.2.1
  have kf9_0_2 := q.2.2.2.2.2.2.2.2.1
  have kf9_0_3 := q.2.2.2.2.2.2.2.2.2.1
  have kf9_0_4 := q.2.2.2.2.2.2.2.2.2.2.1
  have kf9_0_5 := q.2.2.2.2.2.2.2.2.2.2.2.1
  have kl9_0 := q.2.2.2.2.2.2.2.2.2.2.2.2.1
  have kn9_0 := q.2.2.2.2.2.2.2.2.2.2.2.2.2.1
  have km9_0 := q.2.2.2.2.2.2.2.2.2.2.2.2.2.2
  clear q
  have kz9 := h9.size
  (try simp only [World.size_alloc, World.size_setCell, World.size_drew] at kz9)
  have H9 := Lib.hid h9
  clear h9

  clear hS9 hK
  ((try simp only []); (repeat (first | go_values | go_skip | go_guarded | go_step | go_upon | go_in)))
  have hp := put6 S9.out HS.out.nums R9.out (Nat.le_refl w.heap.size) hbw (.int .i64 t.op) (.int .i64 t.va) (.int .i64 t.vb) (.int .i64 t.dm) (.string t.nm) (.slice xa t.cnt xc)
  have g0 : ((((((w9.setCell ⟨w.heap.size, 0, none⟩ (.int .i64 t.op)).setCell ⟨w.heap.size, 1, none⟩ (.int .i64 t.va)).setCell ⟨w.heap.size, 2, none⟩ (.int .i64 t.vb)).setCell ⟨w.heap.size, 3, none⟩ (.int .i64 t.dm)).setCell ⟨w.heap.size, 4, none⟩ (.string t.nm)).setCell ⟨w.heap.size, 5, none⟩ (.slice xa t.cnt xc)).cell? ⟨w.heap.size, 0, none⟩ = some (.int .i64 t.op) := by go_simp
  have g1 : ((((((w9.setCell ⟨w.heap.size, 0, none⟩ (.int .i64 t.op)).setCell ⟨w.heap.size, 1, none⟩ (.int .i64 t.va)).setCell ⟨w.heap.size, 2, none⟩ (.int .i64 t.vb)).setCell ⟨w.heap.size, 3, none⟩ (.int .i64 t.dm)).setCell ⟨w.heap.size, 4, none⟩ (.string t.nm)).setCell ⟨w.heap.size, 5, none⟩ (.slice xa t.cnt xc)).cell? ⟨w.heap.size, 1, none⟩ = some (.int .i64 t.va) := by go_simp
  have g2 : ((((((w9.setCell ⟨w.heap.size, 0, none⟩ (.int .i64 t.op)).setCell ⟨w.heap.size, 1, none⟩ (.int .i64 t.va)).setCell ⟨w.heap.size, 2, none⟩ (.int .i64 t.vb)).setCell ⟨w.heap.size, 3, none⟩ (.int .i64 t.dm)).setCell ⟨w.heap.size, 4, none⟩ (.string t.nm)).setCell ⟨w.heap.size, 5, none⟩ (.slice xa t.cnt xc)).cell? ⟨w.heap.size, 2, none⟩ = some (.int .i64 t.vb) := by go_simp
  have g3 : ((((((w9.setCell ⟨w.heap.size, 0, none⟩ (.int .i64 t.op)).setCell ⟨w.heap.size, 1, none⟩ (.int .i64 t.va)).setCell ⟨w.heap.size, 2, none⟩ (.int .i64 t.vb)).setCell ⟨w.heap.size, 3, none⟩ (.int .i64 t.dm)).setCell ⟨w.heap.size, 4, none⟩ (.string t.nm)).setCell ⟨w.heap.size, 5, none⟩ (.slice xa t.cnt xc)).cell? ⟨w.heap.size, 3, none⟩ = some (.int .i64 t.dm) := by go_simp
  have g4 : ((((((w9.setCell ⟨w.heap.size, 0, none⟩ (.int .i64 t.op)).setCell ⟨w.heap.size, 1, none⟩ (.int .i64 t.va)).setCell ⟨w.heap.size, 2, none⟩ (.int .i64 t.vb)).setCell ⟨w.heap.size, 3, none⟩ (.int .i64 t.dm)).setCell ⟨w.heap.size, 4, none⟩ (.string t.nm)).setCell ⟨w.heap.size, 5, none⟩ (.slice xa t.cnt xc)).cell? ⟨w.heap.size, 4, none⟩ = some (.string t.nm) := by go_simp
  have g5 : ((((((w9.setCell ⟨w.heap.size, 0, none⟩ (.int .i64 t.op)).setCell ⟨w.heap.size, 1, none⟩ (.int .i64 t.va)).setCell ⟨w.heap.size, 2, none⟩ (.int .i64 t.vb)).setCell ⟨w.heap.size, 3, none⟩ (.int .i64 t.dm)).setCell ⟨w.heap.size, 4, none⟩ (.string t.nm)).setCell ⟨w.heap.size, 5, none⟩ (.slice xa t.cnt xc)).cell? ⟨w.heap.size, 5, none⟩ = some (.slice xa t.cnt xc) := by go_simp
  refine bodyPost_ret (v := .agg #[.int .i64 t.op, .int .i64 t.va, .int .i64 t.vb, .int .i64 t.dm, .string t.nm, .slice xa t.cnt xc]) ?_ rfl ⟨t, _, _, _, rfl, kidsB_put6 HK.out (fun q hq => by (try simp at hq); exact ⟨by omega, by omega⟩) _ _ _ _ _ _, (by omega), (by omega), hp.1, hp.2, hinf⟩
  simp [results, Tryz.results47, go_sem, g0, g1, g2, g3, g4, g5]
 ·skip
  obtain ⟨hG3, hF5⟩ := HG.out q2
  have IQ := Lib.hid (HI.out q2)
  go_wp2_with fail
  refine (mknode_any b la ln lc 6 d 1 (fun i => ([dim] : List Int).getD i 0) G (fun dm' t => t.inf nm dm ke = (dm', 0)) ea ke ecap nm dm (fun i hi at2 left2 w2 hS2 hE2 ha2 => IQ.out _ (ds_bd (l := [dim]) rfl (by first | (simp; done) | (simp; omega)) i hi) at2 left2 w2 hS2 hE2 ha2) (at' + 1) L _ (S1.out.rel ((Rel.refl _).alloc _)) (HE.out.ro ((R1.out).alloc _)) w1.heap.size 1 (by simp) (by have := S1.out.lt; (try simp at this); omega) (ds_cells (l := [dim]) rfl rfl) (by decide) (by decide) (by omega) (by omega) (by omega) (by omega) (by omega) (by omega) (by omega)).mono ?_
  unfold MkRes
  rintro e w9 ⟨t, x, at2, left2, rfl, hK, hz, hat, hS9, h9, hPR⟩
  have hinf : t.inf nm dm ke = (dim, 0) := node_inf' hPR (by omega) (fun E h => by
   have h0 := h 0 (by decide)

   simp at h0 
   unfold resI
   repeat' split
   all_goals omega) (by omega)

  obtain ⟨xa, xc, rfl⟩ := kids_slice (kidsB_to hK)
  have S9 := Lib.hid hS9
  have R9 := Lib.hid (((R1.out).alloc _).trans h9)
  have HK := Lib.hid hK
  have q := keepr6 h9 (b := w.heap.size) (by first | (simp; done) | (simp; omega) | omega) (by first | (simp; done) | (simp; omega) | omega)
  have kc9_0_0 := q.1
  have kc9_0_1 := q.2.1
  have kc9_0_2 := q.2.2.1
  have kc9_0_3 := q.2.2.2.1
  have kc9_0_4 := q.2.2.2.2.1
  have kc9_0_5 := q.2.2.2.2.2.1
  have kf9_0_0 := q.2.2.2.2.2.2.1
  have kf9_0_1 := q.2.2.2.2.2.2.2.1
  have kf9_0_2 := q.2.2.2.2.2.2.2.2.1
  have kf9_0_3 := q.2.2.2.2.2.2.2.2.2.1
  have kf9_0_4 := q.2.2.2.2.2.2.2.2.2.2.1
  have kf9_0_5 := q.2.2.2.2.2.2.2.2.2.2.2.1
  have kl9_0 := q.2.2.2.2.2.2.2.2.2.2.2.2.1
  have kn9_0 := q.2.2.2.2.2.2.2.2.2.2.2.2.2.1
  have km9_0 := q.2.2.2.2.2.2.2.2.2.2.2.2.2.2
  clear q
  have kz9 := h9.size
  (try simp only [World.size_alloc, World.size_setCell, World.size_drew] at kz9)
  have H9 := Lib.hid h9
  clear h9

  clear hS9 hK
  ((try simp only []); (repeat (first | go_values | go_skip | go_guarded | go_step | go_upon | go_in)))
  have hp := put6 S9.out HS.out.nums R9.out (Nat.le_refl w.heap.size) hbw (.int .i64 t.op) (.int .i64 t.va) (.int .i64 t.vb) (.int .i64 t.dm) (.string t.nm) (.slice xa t.cnt xc)
  have g0 : ((((((w9.setCell ⟨w.heap.size, 0, none⟩ (.int .i64 t.op)).setCell ⟨w.heap.size, 1, none⟩ (.int .i64 t.va)).setCell ⟨w.heap.size, 2, none⟩ (.int .i64 t.vb)).setCell ⟨w.heap.size, 3, none⟩ (.int .i64 t.dm)).setCell ⟨w.heap.size, 4, none⟩ (.string t.nm)).setCell ⟨w.heap.size, 5, none⟩ (.slice xa t.cnt xc)).cell? ⟨w.heap.size, 0, none⟩ = some (.int .i64 t.op) := by go_simp
  have g1 : ((((((w9.setCell ⟨w.heap.size, 0, none⟩ (.int .i64 t.op)).setCell ⟨w.heap.size, 1, none⟩ (.int .i64 t.va)).setCell ⟨w.heap.size, 2, none⟩ (.int .i64 t.vb)).setCell ⟨w.heap.size, 3, none⟩ (.int .i64 t.dm)).setCell ⟨w.heap.size, 4, none⟩ (.string t.nm)).setCell ⟨w.heap.size, 5, none⟩ (.slice xa t.cnt xc)).cell? ⟨w.heap.size, 1, none⟩ = some (.int .i64 t.va) := by go_simp
  have g2 : ((((((w9.setCell ⟨w.heap.size, 0, none⟩ (.int .i64 t.op)).setCell ⟨w.heap.size, 1, none⟩ (.int .i64 t.va)).setCell ⟨w.heap.size, 2, none⟩ (.int .i64 t.vb)).setCell ⟨w.heap.size, 3, none⟩ (.int .i64 t.dm)).setCell ⟨w.heap.size, 4, none⟩ (.string t.nm)).setCell ⟨w.heap.size, 5, none⟩ (.slice xa t.cnt xc)).cell? ⟨w.heap.size, 2, none⟩ = some (.int .i64 t.vb) := by go_simp
  have g3 : ((((((w9.setCell ⟨w.heap.size, 0, none⟩ (.int .i64 t.op)).setCell ⟨w.heap.size, 1, none⟩ (.int .i64 t.va)).setCell ⟨w.heap.size, 2, none⟩ (.int .i64 t.vb)).setCell ⟨w.heap.size, 3, none⟩ (.int .i64 t.dm)).setCell ⟨w.heap.size, 4, none⟩ (.string t.nm)).setCell ⟨w.heap.size, 5, none⟩ (.slice xa t.cnt xc)).cell? ⟨w.heap.size, 3, none⟩ = some (.int .i64 t.dm) := by go_simp
  have g4 : ((((((w9.setCell ⟨w.heap.size, 0, none⟩ (.int .i64 t.op)).setCell ⟨w.heap.size, 1, none⟩ (.int .i64 t.va)).setCell ⟨w.heap.size, 2, none⟩ (.int .i64 t.vb)).setCell ⟨w.heap.size, 3, none⟩ (.int .i64 t.dm)).setCell ⟨w.heap.size, 4, none⟩ (.string t.nm)).setCell ⟨w.heap.size, 5, none⟩ (.slice xa t.cnt xc)).cell? ⟨w.heap.size, 4, none⟩ = some (.string t.nm) := by go_simp
  have g5 : ((((((w9.setCell ⟨w.heap.size, 0, none⟩ (.int .i64 t.op)).setCell ⟨w.heap.size, 1, none⟩ (.int .i64 t.va)).setCell ⟨w.heap.size, 2, none⟩ (.int .i64 t.vb)).setCell ⟨w.heap.size, 3, none⟩ (.int .i64 t.dm)).setCell ⟨w.heap.size, 4, none⟩ (.string t.nm)).setCell ⟨w.heap.size, 5, none⟩ (.slice xa t.cnt xc)).cell? ⟨w.heap.size, 5, none⟩ = some (.slice xa t.cnt xc) := by go_simp
  refine bodyPost_ret (v := .agg #[.int .i64 t.op, .int .i64 t.va, .int .i64 t.vb, .int .i64 t.dm, .string t.nm, .slice xa t.cnt xc]) ?_ rfl ⟨t, _, _, _, rfl, kidsB_put6 HK.out (fun q hq => by (try simp at hq); exact ⟨by omega, by omega⟩) _ _ _ _ _ _, (by omega), (by omega), hp.1, hp.2, hinf⟩
  simp [results, Tryz.results47, go_sem, g0, g1, g2, g3, g4, g5]
 ·skip
  obtain ⟨hG3, hF5⟩ := HG.out q2
  have IQ := Lib.hid (HI.out q2)
  go_wp2_with fail
  refine (mknode_any b la ln lc 9 d 2 (fun i => ([2, dim] : List Int).getD i 0) G (fun dm' t => t.inf nm dm ke = (dm', 0)) ea ke ecap nm dm (fun i hi at2 left2 w2 hS2 hE2 ha2 => IQ.out _ (ds_bd (l := [2, dim]) rfl (by first | (simp; done) | (simp; omega)) i hi) at2 left2 w2 hS2 hE2 ha2) (at' + 1) L _ (S1.out.rel ((Rel.refl _).alloc _)) (HE.out.ro ((R1.out).alloc _)) w1.heap.size 2 (by simp) (by have := S1.out.lt; (try simp at this); omega) (ds_cells (l := [2, dim]) rfl rfl) (by decide) (by decide) (by omega) (by omega) (by omega) (by omega) (by omega) (by omega) (by omega)).mono ?_
  unfold MkRes
  rintro e w9 ⟨t, x, at2, left2, rfl, hK, hz, hat, hS9, h9, hPR⟩
  have hinf : t.inf nm dm ke = (dim, 0) := node_inf' hPR (by omega) (fun E h => by
   have h0 := h 0 (by decide)
   have h1 := h 1 (by decide)
   simp at h0 h1
   unfold resI
   repeat' split
   all_goals omega) (by omega)

  obtain ⟨xa, xc, rfl⟩ := kids_slice (kidsB_to hK)
  have S9 := Lib.hid hS9
  have R9 := Lib.hid (((R1.out).alloc _).trans h9)
  have HK := Lib.hid hK
  have q := keepr6 h9 (b := w.heap.size) (by first | (simp; done) | (simp; omega) | omega) (by first | (simp; done) | (simp; omega) | omega)
  have kc9_0_0 := q.1
  have kc9_0_1 := q.2.1
  have kc9_0_2 := q.2.2.1
  have kc9_0_3 := q.2.2.2.1
  have kc9_0_4 := q.2.2.2.2.1
  have kc9_0_5 := q.2.2.2.2.2.1
  have kf9_0_0 := q.2.2.2.2.2.2.1
  have kf9_0_1 := q.2.2.2.2.2.2.2.1
  have kf9_0_2 := q.2.2.2.2.2.2.2.2.1
  have kf9_0_3 := q.2.2.2.2.2.2.2.2.2.1
  have kf9_0_4 := q.2.2.2.2.2.2.2.2.2.2.1
  have kf9_0_5 := q.2.2.2.2.2.2.2.2.2.2.2.1
  have kl9_0 := q.2.2.2.2.2.2.2.2.2.2.2.2.1
  have kn9_0 := q.2.2.2.2.2.2.2.2.2.2.2.2.2.1
  have km9_0 := q.2.2.2.2.2.2.2.2.2.2.2.2.2.2
  clear q
  have kz9 := h9.size
  (try simp only [World.size_alloc, World.size_setCell, World.size_drew] at kz9)
  have H9 := Lib.hid h9
  clear h9

  clear hS9 hK
  ((try simp only []); (repeat (first | go_values | go_skip | go_guarded | go_step | go_upon | go_in)))
  have hp := put6 S9.out HS.out.nums R9.out (Nat.le_refl w.heap.size) hbw (.int .i64 t.op) (.int .i64 t.va) (.int .i64 t.vb) (.int .i64 t.dm) (.string t.nm) (.slice xa t.cnt xc)
  have g0 : ((((((w9.setCell ⟨w.heap.size, 0, none⟩ (.int .i64 t.op)).setCell ⟨w.heap.size, 1, none⟩ (.int .i64 t.va)).setCell ⟨w.heap.size, 2, none⟩ (.int .i64 t.vb)).setCell ⟨w.heap.size, 3, none⟩ (.int .i64 t.dm)).setCell ⟨w.heap.size, 4, none⟩ (.string t.nm)).setCell ⟨w.heap.size, 5, none⟩ (.slice xa t.cnt xc)).cell? ⟨w.heap.size, 0, none⟩ = some (.int .i64 t.op) := by go_simp
  have g1 : ((((((w9.setCell ⟨w.heap.size, 0, none⟩ (.int .i64 t.op)).setCell ⟨w.heap.size, 1, none⟩ (.int .i64 t.va)).setCell ⟨w.heap.size, 2, none⟩ (.int .i64 t.vb)).setCell ⟨w.heap.size, 3, none⟩ (.int .i64 t.dm)).setCell ⟨w.heap.size, 4, none⟩ (.string t.nm)).setCell ⟨w.heap.size, 5, none⟩ (.slice xa t.cnt xc)).cell? ⟨w.heap.size, 1, none⟩ = some (.int .i64 t.va) := by go_simp
  have g2 : ((((((w9.setCell ⟨w.heap.size, 0, none⟩ (.int .i64 t.op)).setCell ⟨w.heap.size, 1, none⟩ (.int .i64 t.va)).setCell ⟨w.heap.size, 2, none⟩ (.int .i64 t.vb)).setCell ⟨w.heap.size, 3, none⟩ (.int .i64 t.dm)).setCell ⟨w.heap.size, 4, none⟩ (.string t.nm)).setCell ⟨w.heap.size, 5, none⟩ (.slice xa t.cnt xc)).cell? ⟨w.heap.size, 2, none⟩ = some (.int .i64 t.vb) := by go_simp
  have g3 : ((((((w9.setCell ⟨w.heap.size, 0, none⟩ (.int .i64 t.op)).setCell ⟨w.heap.size, 1, none⟩ (.int .i64 t.va)).setCell ⟨w.heap.size, 2, none⟩ (.int .i64 t.vb)).setCell ⟨w.heap.size, 3, none⟩ (.int .i64 t.dm)).setCell ⟨w.heap.size, 4, none⟩ (.string t.nm)).setCell ⟨w.heap.size, 5, none⟩ (.slice xa t.cnt xc)).cell? ⟨w.heap.size, 3, none⟩ = some (.int .i64 t.dm) := by go_simp
  have g4 : ((((((w9.setCell ⟨w.heap.size, 0, none⟩ (.int .i64 t.op)).setCell ⟨w.heap.size, 1, none⟩ (.int .i64 t.va)).setCell ⟨w.heap.size, 2, none⟩ (.int .i64 t.vb)).setCell ⟨w.heap.size, 3, none⟩ (.int .i64 t.dm)).setCell ⟨w.heap.size, 4, none⟩ (.string t.nm)).setCell ⟨w.heap.size, 5, none⟩ (.slice xa t.cnt xc)).cell? ⟨w.heap.size, 4, none⟩ = some (.string t.nm) := by go_simp
  have g5 : ((((((w9.setCell ⟨w.heap.size, 0, none⟩ (.int .i64 t.op)).setCell ⟨w.heap.size, 1, none⟩ (.int .i64 t.va)).setCell ⟨w.heap.size, 2, none⟩ (.int .i64 t.vb)).setCell ⟨w.heap.size, 3, none⟩ (.int .i64 t.dm)).setCell ⟨w.heap.size, 4, none⟩ (.string t.nm)).setCell ⟨w.heap.size, 5, none⟩ (.slice xa t.cnt xc)).cell? ⟨w.heap.size, 5, none⟩ = some (.slice xa t.cnt xc) := by go_simp
  refine bodyPost_ret (v := .agg #[.int .i64 t.op, .int .i64 t.va, .int .i64 t.vb, .int .i64 t.dm, .string t.nm, .slice xa t.cnt xc]) ?_ rfl ⟨t, _, _, _, rfl, kidsB_put6 HK.out (fun q hq => by (try simp at hq); exact ⟨by omega, by omega⟩) _ _ _ _ _ _, (by omega), (by omega), hp.1, hp.2, hinf⟩
  simp [results, Tryz.results47, go_sem, g0, g1, g2, g3, g4, g5]
 ·skip
  obtain ⟨hG3, hF5⟩ := HG.out q2
  have IQ := Lib.hid (HI.out q2)
  go_wp2_with fail
  refine (mknode_any b la ln lc 9 d 2 (fun i => ([dim, 2] : List Int).getD i 0) G (fun dm' t => t.inf nm dm ke = (dm', 0)) ea ke ecap nm dm (fun i hi at2 left2 w2 hS2 hE2 ha2 => IQ.out _ (ds_bd (l := [dim, 2]) rfl (by first | (simp; done) | (simp; omega)) i hi) at2 left2 w2 hS2 hE2 ha2) (at' + 1) L _ (S1.out.rel ((Rel.refl _).alloc _)) (HE.out.ro ((R1.out).alloc _)) w1.heap.size 2 (by simp) (by have := S1.out.lt; (try simp at this); omega) (ds_cells (l := [dim, 2]) rfl rfl) (by decide) (by decide) (by omega) (by omega) (by omega) (by omega) (by omega) (by omega) (by omega)).mono ?_
  unfold MkRes
  rintro e w9 ⟨t, x, at2, left2, rfl, hK, hz, hat, hS9, h9, hPR⟩
  have hinf : t.inf nm dm ke = (dim, 0) := node_inf' hPR (by omega) (fun E h => by
   have h0 := h 0 (by decide)
   have h1 := h 1 (by decide)
   simp at h0 h1
   unfold resI
   repeat' split
   all_goals omega) (by omega)

  obtain ⟨xa, xc, rfl⟩ := kids_slice (kidsB_to hK)
  have S9 := Lib.hid hS9
  have R9 := Lib.hid (((R1.out).alloc _).trans h9)
  have HK := Lib.hid hK
  have q := keepr6 h9 (b := w.heap.size) (by first | (simp; done) | (simp; omega) | omega) (by first | (simp; done) | (simp; omega) | omega)
  have kc9_0_0 := q.1
  have kc9_0_1 := q.2.1
  have kc9_0_2 := q.2.2.1
  have kc9_0_3 := q.2.2.2.1
  have kc9_0_4 := q.2.2.2.2.1
  have kc9_0_5 := q.2.2.2.2.2.1
  have kf9_0_0 := q.2.2.2.2.2.2.1
  have kf9_0_1 := q.2.2.2.2.2.2.2.1
  have kf9_0_2 := q.2.2.2.2.2.2.2.2.1
  have kf9_0_3 := q.2.2.2.2.2.2.2.2.2.1
  have kf9_0_4 := q.2.2.2.2.2.2.2.2.2.2.1
  have kf9_0_5 := q.2.2.2.2.2.2.2.2.2.2.2.1
  have kl9_0 := q.2.2.2.2.2.2.2.2.2.2.2.2.1
  have kn9_0 := q.2.2.2.2.2.2.2.2.2.2.2.2.2.1
  have km9_0 := q.2.2.2.2.2.2.2.2.2.2.2.2.2.2
  clear q
  have kz9 := h9.size
  (try simp only [World.size_alloc, World.size_setCell, World.size_drew] at kz9)
  have H9 := Lib.hid h9
  clear h9

  clear hS9 hK
  ((try simp only []); (repeat (first | go_values | go_skip | go_guarded | go_step | go_upon | go_in)))
  have hp := put6 S9.out HS.out.nums R9.out (Nat.le_refl w.heap.size) hbw (.int .i64 t.op) (.int .i64 t.va) (.int .i64 t.vb) (.int .i64 t.dm) (.string t.nm) (.slice xa t.cnt xc)
  have g0 : ((((((w9.setCell ⟨w.heap.size, 0, none⟩ (.int .i64 t.op)).setCell ⟨w.heap.size, 1, none⟩ (.int .i64 t.va)).setCell ⟨w.heap.size, 2, none⟩ (.int .i64 t.vb)).setCell ⟨w.heap.size, 3, none⟩ (.int .i64 t.dm)).setCell ⟨w.heap.size, 4, none⟩ (.string t.nm)).setCell ⟨w.heap.size, 5, none⟩ (.slice xa t.cnt xc)).cell? ⟨w.heap.size, 0, none⟩ = some (.int .i64 t.op) := by go_simp
  have g1 : ((((((w9.setCell ⟨w.heap.size, 0, none⟩ (.int .i64 t.op)).setCell ⟨w.heap.size, 1, none⟩ (.int .i64 t.va)).setCell ⟨w.heap.size, 2, none⟩ (.int .i64 t.vb)).setCell ⟨w.heap.size, 3, none⟩ (.int .i64 t.dm)).setCell ⟨w.heap.size, 4, none⟩ (.string t.nm)).setCell ⟨w.heap.size, 5, none⟩ (.slice xa t.cnt xc)).cell? ⟨w.heap.size, 1, none⟩ = some (.int .i64 t.va) := by go_simp
  have g2 : ((((((w9.setCell ⟨w.heap.size, 0, none⟩ (.int .i64 t.op)).setCell ⟨w.heap.size, 1, none⟩ (.int .i64 t.va)).setCell ⟨w.heap.size, 2, none⟩ (.int .i64 t.vb)).setCell ⟨w.heap.size, 3, none⟩ (.int .i64 t.dm)).setCell ⟨w.heap.size, 4, none⟩ (.string t.nm)).setCell ⟨w.heap.size, 5, none⟩ (.slice xa t.cnt xc)).cell? ⟨w.heap.size, 2, none⟩ = some (.int .i64 t.vb) := by go_simp
  have g3 : ((((((w9.setCell ⟨w.heap.size, 0, none⟩ (.int .i64 t.op)).setCell ⟨w.heap.size, 1, none⟩ (.int .i64 t.va)).setCell ⟨w.heap.size, 2, none⟩ (.int .i64 t.vb)).setCell ⟨w.heap.size, 3, none⟩ (.int .i64 t.dm)).setCell ⟨w.heap.size, 4, none⟩ (.string t.nm)).setCell ⟨w.heap.size, 5, none⟩ (.slice xa t.cnt xc)).cell? ⟨w.heap.size, 3, none⟩ = some (.int .i64 t.dm) := by go_simp
  have g4 : ((((((w9.setCell ⟨w.heap.size, 0, none⟩ (.int .i64 t.op)).setCell ⟨w.heap.size, 1, none⟩ (.int .i64 t.va)).setCell ⟨w.heap.size, 2, none⟩ (.int .i64 t.vb)).setCell ⟨w.heap.size, 3, none⟩ (.int .i64 t.dm)).setCell ⟨w.heap.size, 4, none⟩ (.string t.nm)).setCell ⟨w.heap.size, 5, none⟩ (.slice xa t.cnt xc)).cell? ⟨w.heap.size, 4, none⟩ = some (.string t.nm) := by go_simp
  have g5 : ((((((w9.setCell ⟨w.heap.size, 0, none⟩ (.int .i64 t.op)).setCell ⟨w.heap.size, 1, none⟩ (.int .i64 t.va)).setCell ⟨w.heap.size, 2, none⟩ (.int .i64 t.vb)).setCell ⟨w.heap.size, 3, none⟩ (.int .i64 t.dm)).setCell ⟨w.heap.size, 4, none⟩ (.string t.nm)).setCell ⟨w.heap.size, 5, none⟩ (.slice xa t.cnt xc)).cell? ⟨w.heap.size, 5, none⟩ = some (.slice xa t.cnt xc) := by go_simp
  refine bodyPost_ret (v := .agg #[.int .i64 t.op, .int .i64 t.va, .int .i64 t.vb, .int .i64 t.dm, .string t.nm, .slice xa t.cnt xc]) ?_ rfl ⟨t, _, _, _, rfl, kidsB_put6 HK.out (fun q hq => by (try simp at hq); exact ⟨by omega, by omega⟩) _ _ _ _ _ _, (by omega), (by omega), hp.1, hp.2, hinf⟩
  simp [results, Tryz.results47, go_sem, g0, g1, g2, g3, g4, g5]
 ·skip
  obtain ⟨hG3, hF5⟩ := HG.out q2
  have IQ := Lib.hid (HI.out q2)
  go_wp2_with fail
  refine (mknode_any b la ln lc 10 d 2 (fun i => ([dim, 2] : List Int).getD i 0) G (fun dm' t => t.inf nm dm ke = (dm', 0)) ea ke ecap nm dm (fun i hi at2 left2 w2 hS2 hE2 ha2 => IQ.out _ (ds_bd (l := [dim, 2]) rfl (by first | (simp; done) | (simp; omega)) i hi) at2 left2 w2 hS2 hE2 ha2) (at' + 1) L _ (S1.out.rel ((Rel.refl _).alloc _)) (HE.out.ro ((R1.out).alloc _)) w1.heap.size 2 (by simp) (by have := S1.out.lt; (try simp at this); omega) (ds_cells (l := [dim, 2]) rfl rfl) (by decide) (by decide) (by omega) (by omega) (by omega) (by omega) (by omega) (by omega) (by omega)).mono ?_
  unfold MkRes
  rintro e w9 ⟨t, x, at2, left2, rfl, hK, hz, hat, hS9, h9, hPR⟩
  have hinf : t.inf nm dm ke = (dim, 0) := node_inf' hPR (by omega) (fun E h => by
   have h0 := h 0 (by decide)
   have h1 := h 1 (by decide)
   simp at h0 h1
   unfold resI
   repeat' split
   all_goals omega) (by omega)

  obtain ⟨xa, xc, rfl⟩ := kids_slice (kidsB_to hK)
  have S9 := Lib.hid hS9
  have R9 := Lib.hid (((R1.out).alloc _).trans h9)
  have HK := Lib.hid hK
  have q := keepr6 h9 (b := w.heap.size) (by first | (simp; done) | (simp; omega) | omega) (by first | (simp; done) | (simp; omega) | omega)
  have kc9_0_0 := q.1
  have kc9_0_1 := q.2.1
  have kc9_0_2 := q.2.2.1
  have kc9_0_3 := q.2.2.2.1
  have kc9_0_4 := q.2.2.2.2.1
  have kc9_0_5 := q.2.2.2.2.2.1
  have kf9_0_0 := q.2.2.2.2.2.2.1
  have kf9_0_1 := q.2.2.2.2.2.2.2.1
  have kf9_0_2 := q.2.2.2.2.2.2.2.2.1
  have kf9_0_3 := q.2.2.2.2.2.2.2.2.2.1
  have kf9_0_4 := q.2.2.2.2.2.2.2.2.2.2.1
  have kf9_0_5 := q.2.2.2.2.2.2.2.2.2.2.2.1
  have kl9_0 := q.2.2.2.2.2.2.2.2.2.2.2.2.1
  have kn9_0 := q.2.2.2.2.2.2.2.2.2.2.2.2.2.1
  have km9_0 := q.2.2.2.2.2.2.2.2.2.2.2.2.2.2
  clear q
  have kz9 := h9.size
  (try simp only [World.size_alloc, World.size_setCell, World.size_drew] at kz9)
  have H9 := Lib.hid h9
  clear h9

  clear hS9 hK
  ((try simp only []); (repeat (first | go_values | go_skip | go_guarded | go_step | go_upon | go_in)))
  have hp := put6 S9.out HS.out.nums R9.out (Nat.le_refl w.heap.size) hbw (.int .i64 t.op) (.int .i64 t.va) (.int .i64 t.vb) (.int .i64 t.dm) (.string t.nm) (.slice xa t.cnt xc)
  have g0 : ((((((w9.setCell ⟨w.heap.size, 0, none⟩ (.int .i64 t.op)).setCell ⟨w.heap.size, 1, none⟩ (.int .i64 t.va)).setCell ⟨w.heap.size, 2, none⟩ (.int .i64 t.vb)).setCell ⟨w.heap.size, 3, none⟩ (.int .i64 t.dm)).setCell ⟨w.heap.size, 4, none⟩ (.string t.nm)).setCell ⟨w.heap.size, 5, none⟩ (.slice xa t.cnt xc)).cell? ⟨w.heap.size, 0, none⟩ = some (.int .i64 t.op) := by go_simp
  have g1 : ((((((w9.setCell ⟨w.heap.size, 0, none⟩ (.int .i64 t.op)).setCell ⟨w.heap.size, 1, none⟩ (.int .i64 t.va)).setCell ⟨w.heap.size, 2, none⟩ (.int .i64 t.vb)).setCell ⟨w.heap.size, 3, none⟩ (.int .i64 t.dm)).setCell ⟨w.heap.size, 4, none⟩ (.string t.nm)).setCell ⟨w.heap.size, 5, none⟩ (.slice xa t.cnt xc)).cell? ⟨w.heap.size, 1, none⟩ = some (.int .i64 t.va) := by go_simp
  have g2 : ((((((w9.setCell ⟨w.heap.size, 0, none⟩ (.int .i64 t.op)).setCell ⟨w.heap.size, 1, none⟩ (.int .i64 t.va)).setCell ⟨w.heap.size, 2, none⟩ (.int .i64 t.vb)).setCell ⟨w.heap.size, 3, none⟩ (.int .i64 t.dm)).setCell ⟨w.heap.size, 4, none⟩ (.string t.nm)).setCell ⟨w.heap.size, 5, none⟩ (.slice xa t.cnt xc)).cell? ⟨w.heap.size, 2, none⟩ = some (.int .i64 t.vb) := by go_simp
  have g3 : ((((((w9.setCell ⟨w.heap.size, 0, none⟩ (.int .i64 t.op)).setCell ⟨w.heap.size, 1, none⟩ (.int .i64 t.va)).setCell ⟨w.heap.size, 2, none⟩ (.int .i64 t.vb)).setCell ⟨w.heap.size, 3, none⟩ (.int .i64 t.dm)).setCell ⟨w.heap.size, 4, none⟩ (.string t.nm)).setCell ⟨w.heap.size, 5, none⟩ (.slice xa t.cnt xc)).cell? ⟨w.heap.size, 3, none⟩ = some (.int .i64 t.dm) := by go_simp
  have g4 : ((((((w9.setCell ⟨w.heap.size, 0, none⟩ (.int .i64 t.op)).setCell ⟨w.heap.size, 1, none⟩ (.int .i64 t.va)).setCell ⟨w.heap.size, 2, none⟩ (.int .i64 t.vb)).setCell ⟨w.heap.size, 3, none⟩ (.int .i64 t.dm)).setCell ⟨w.heap.size, 4, none⟩ (.string t.nm)).setCell ⟨w.heap.size, 5, none⟩ (.slice xa t.cnt xc)).cell? ⟨w.heap.size, 4, none⟩ = some (.string t.nm) := by go_simp
  have g5 : ((((((w9.setCell ⟨w.heap.size, 0, none⟩ (.int .i64 t.op)).setCell ⟨w.heap.size, 1, none⟩ (.int .i64 t.va)).setCell ⟨w.heap.size, 2, none⟩ (.int .i64 t.vb)).setCell ⟨w.heap.size, 3, none⟩ (.int .i64 t.dm)).setCell ⟨w.heap.size, 4, none⟩ (.string t.nm)).setCell ⟨w.heap.size, 5, none⟩ (.slice xa t.cnt xc)).cell? ⟨w.heap.size, 5, none⟩ = some (.slice xa t.cnt xc) := by go_simp
  refine bodyPost_ret (v := .agg #[.int .i64 t.op, .int .i64 t.va, .int .i64 t.vb, .int .i64 t.dm, .string t.nm, .slice xa t.cnt xc]) ?_ rfl ⟨t, _, _, _, rfl, kidsB_put6 HK.out (fun q hq => by (try simp at hq); exact ⟨by omega, by omega⟩) _ _ _ _ _ _, (by omega), (by omega), hp.1, hp.2, hinf⟩
  simp [results, Tryz.results47, go_sem, g0, g1, g2, g3, g4, g5]
 ·skip
  by_cases h22 : dim = 2
  ·subst h22
   go_wp2_with fail
   refine (next_any b la ln lc (at' + 1) L 3 _ S1.out (by omega) (by decide) (by decide)).mono ?_
   rintro e w2 ⟨y2, rfl, y20, y21, hS2, h2⟩
   obtain ⟨dd, hdd⟩ : ∃ z, 2 + y2 = z := ⟨_, rfl⟩
   have n2 : IntKind.i64.wrap (2 + y2) = dd := by rw [← hdd]; exact IntWalk.i64_in _ ⟨by omega, by omega⟩
   have bdd0 : 2 ≤ dd := by omega
   have bdd1 : dd ≤ 4 := by omega
   have S2 := Lib.hid hS2
   have R2 := Lib.hid (R1.out.trans h2)
   clear hS2 hdd
   have q := keepr6 h2 (b := w.heap.size) (by first | (simp; done) | (simp; omega) | omega) (by first | (simp; done) | (simp; omega) | omega)
   have kc2_0_0 := q.1
   have kc2_0_1 := q.2.1
   have kc2_0_2 := q.2.2.1
   have kc2_0_3 := q.2.2.2.1
   have kc2_0_4 := q.2.2.2.2.1
   have kc2_0_5 := q.2.2.2.2.2.1
   have kf2_0_0 := q.2.2.2.2.2.2.1
   have kf2_0_1 := q.2.2.2.2.2.2.2.1
   have kf2_0_2 := q.2.2.2.2.2.2.2.2.1
   have kf2_0_3 := q.2.2.2.2.2.2.2.2.2.1
   have kf2_0_4 := q.2.2.2.2.2.2.2.2.2.2.1
   have kf2_0_5 := q.2.2.2.2.2.2.2.2.2.2.2.1
   have kl2_0 := q.2.2.2.2.2.2.2.2.2.2.2.2.1
   have kn2_0 := q.2.2.2.2.2.2.2.2.2.2.2.2.2.1
   have km2_0 := q.2.2.2.2.2.2.2.2.2.2.2.2.2.2
   clear q
   have kz2 := h2.size
   (try simp only [World.size_alloc, World.size_setCell, World.size_drew] at kz2)
   have H2 := Lib.hid h2
   clear h2

   obtain ⟨hG3, hF5⟩ := HG.out q2
   have IQ := Lib.hid (HI.out q2)
   go_wp2_with fail
   refine (mknode_any b la ln lc 10 d 2 (fun i => ([dd, dd] : List Int).getD i 0) G (fun dm' t => t.inf nm dm ke = (dm', 0)) ea ke ecap nm dm (fun i hi at2 left2 w2 hS2 hE2 ha2 => IQ.out _ (ds_bd (l := [dd, dd]) rfl (by first | (simp; done) | (simp; omega)) i hi) at2 left2 w2 hS2 hE2 ha2) (at' + 1 + 1) L _ (S2.out.rel ((Rel.refl _).alloc _)) (HE.out.ro ((R2.out).alloc _)) w2.heap.size 2 (by simp) (by have := S2.out.lt; (try simp at this); omega) (ds_cells (l := [dd, dd]) rfl rfl) (by decide) (by decide) (by omega) (by omega) (by omega) (by omega) (by omega) (by omega) (by omega)).mono ?_
   unfold MkRes
   rintro e w9 ⟨t, x, at2, left2, rfl, hK, hz, hat, hS9, h9, hPR⟩
   have hinf : t.inf nm dm ke = (2, 0) := node_inf' hPR (by omega) (fun E h => by
    have h0 := h 0 (by decide)
    have h1 := h 1 (by decide)
    simp at h0 h1
    unfold resI
    repeat' split
    all_goals omega) (by omega)

   obtain ⟨xa, xc, rfl⟩ := kids_slice (kidsB_to hK)
   have S9 := Lib.hid hS9
   have R9 := Lib.hid (((R2.out).alloc _).trans h9)
   have HK := Lib.hid hK
   have q := keepr6 h9 (b := w.heap.size) (by first | (simp; done) | (simp; omega) | omega) (by first | (simp; done) | (simp; omega) | omega)
   have kc9_0_0 := q.1
   have kc9_0_1 := q.2.1
   have kc9_0_2 := q.2.2.1
   have kc9_0_3 := q.2.2.2.1
   have kc9_0_4 := q.2.2.2.2.1
   have kc9_0_5 := q.2.2.2.2.2.1
   have kf9_0_0 := q.2.2.2.2.2.2.1
   have kf9_0_1 := q.2.2.2.2.2.2.2.1
   have kf9_0_2 := q.2.2.2.2.2.2.2.2.1
   have kf9_0_3 := q.2.2.2.2.2.2.2.2.2.1
   have kf9_0_4 := q.2.2.2.2.2.2.2.2.2.2.1
   have kf9_0_5 := q.2.2.2.2.2.2.2.2.2.2.2.1
   have kl9_0 := q.2.2.2.2.2.2.2.2.2.2.2.2.1
   have kn9_0 := q.2.2.2.2.2.2.2.2.2.2.2.2.2.1
   have km9_0 := q.2.2.2.2.2.2.2.2.2.2.2.2.2.2
   clear q
   have kz9 := h9.size
   (try simp only [World.size_alloc, World.size_setCell, World.size_drew] at kz9)
   have H9 := Lib.hid h9
   clear h9

   clear hS9 hK
   ((try simp only []); (repeat (first | go_values | go_skip | go_guarded | go_step | go_upon | go_in)))
   have hp := put6 S9.out HS.out.nums R9.out (Nat.le_refl w.heap.size) hbw (.int .i64 t.op) (.int .i64 t.va) (.int .i64 t.vb) (.int .i64 t.dm) (.string t.nm) (.slice xa t.cnt xc)
   have g0 : ((((((w9.setCell ⟨w.heap.size, 0, none⟩ (.int .i64 t.op)).setCell ⟨w.heap.size, 1, none⟩ (.int .i64 t.va)).setCell ⟨w.heap.size, 2, none⟩ (.int .i64 t.vb)).setCell ⟨w.heap.size, 3, none⟩ (.int .i64 t.dm)).setCell ⟨w.heap.size, 4, none⟩ (.string t.nm)).setCell ⟨w.heap.size, 5, none⟩ (.slice xa t.cnt xc)).cell? ⟨w.heap.size, 0, none⟩ = some (.int .i64 t.op) := by go_simp
   have g1 : ((((((w9.setCell ⟨w.heap.size, 0, none⟩ (.int .i64 t.op)).setCell ⟨w.heap.size, 1, none⟩ (.int .i64 t.va)).setCell ⟨w.heap.size, 2, none⟩ (.int .i64 t.vb)).setCell ⟨w.heap.size, 3, none⟩ (.int .i64 t.dm)).setCell ⟨w.heap.size, 4, none⟩ (.string t.nm)).setCell ⟨w.heap.size, 5, none⟩ (.slice xa t.cnt xc)).cell? ⟨w.heap.size, 1, none⟩ = some (.int .i64 t.va) := by go_simp
   have g2 : ((((((w9.setCell ⟨w.heap.size, 0, none⟩ (.int .i64 t.op)).setCell ⟨w.heap.size, 1, none⟩ (.int .i64 t.va)).setCell ⟨w.heap.size, 2, none⟩ (.int .i64 t.vb)).setCell ⟨w.heap.size, 3, none⟩ (.int .i64 t.dm)).setCell ⟨w.heap.size, 4, none⟩ (.string t.nm)).setCell ⟨w.heap.size, 5, none⟩ (.slice xa t.cnt xc)).cell? ⟨w.heap.size, 2, none⟩ = some (.int .i64 t.vb) := by go_simp
   have g3 : ((((((w9.setCell ⟨w.heap.size, 0, none⟩ (.int .i64 t.op)).setCell ⟨w.heap.size, 1, none⟩ (.int .i64 t.va)).setCell ⟨w.heap.size, 2, none⟩ (.int .i64 t.vb)).setCell ⟨w.heap.size, 3, none⟩ (.int .i64 t.dm)).setCell ⟨w.heap.size, 4, none⟩ (.string t.nm)).setCell ⟨w.heap.size, 5, none⟩ (.slice xa t.cnt xc)).cell? ⟨w.heap.size, 3, none⟩ = some (.int .i64 t.dm) := by go_simp
   have g4 : ((((((w9.setCell ⟨w.heap.size, 0, none⟩ (.int .i64 t.op)).setCell ⟨w.heap.size, 1, none⟩ (.int .i64 t.va)).setCell ⟨w.heap.size, 2, none⟩ (.int .i64 t.vb)).setCell ⟨w.heap.size, 3, none⟩ (.int .i64 t.dm)).setCell ⟨w.heap.size, 4, none⟩ (.string t.nm)).setCell ⟨w.heap.size, 5, none⟩ (.slice xa t.cnt xc)).cell? ⟨w.heap.size, 4, none⟩ = some (.string t.nm) := by go_simp
   have g5 : ((((((w9.setCell ⟨w.heap.size, 0, none⟩ (.int .i64 t.op)).setCell ⟨w.heap.size, 1, none⟩ (.int .i64 t.va)).setCell ⟨w.heap.size, 2, none⟩ (.int .i64 t.vb)).setCell ⟨w.heap.size, 3, none⟩ (.int .i64 t.dm)).setCell ⟨w.heap.size, 4, none⟩ (.string t.nm)).setCell ⟨w.heap.size, 5, none⟩ (.slice xa t.cnt xc)).cell? ⟨w.heap.size, 5, none⟩ = some (.slice xa t.cnt xc) := by go_simp
   refine bodyPost_ret (v := .agg #[.int .i64 t.op, .int .i64 t.va, .int .i64 t.vb, .int .i64 t.dm, .string t.nm, .slice xa t.cnt xc]) ?_ rfl ⟨t, _, _, _, rfl, kidsB_put6 HK.out (fun q hq => by (try simp at hq); exact ⟨by omega, by omega⟩) _ _ _ _ _ _, (by omega), (by omega), hp.1, hp.2, hinf⟩
   simp [results, Tryz.results47, go_sem, g0, g1, g2, g3, g4, g5]
  ·have e22 : (dim == 2) = false := by rw [beq_eq_false_iff_ne]; exact h22
   go_wp2_with fail
   refine (leaf_any b la ln lc (at' + 1) L dim ea ke ecap nm dm _ hN S1.out (HE.out.ro R1.out) (by omega) (by omega)).mono ?_
   unfold MkRes
   rintro e w9 ⟨t, x, at2, left2, rfl, hK, hz, hat, hS9, h9, hPR⟩
   have hinf := hPR.2

   obtain ⟨xa, xc, rfl⟩ := kids_slice (kidsB_to hK)
   have S9 := Lib.hid hS9
   have R9 := Lib.hid ((R1.out).trans h9)
   have HK := Lib.hid hK
   have q := keepr6 h9 (b := w.heap.size) (by first | (simp; done) | (simp; omega) | omega) (by first | (simp; done) | (simp; omega) | omega)
   have kc9_0_0 := q.1
   have kc9_0_1 := q.2.1
   have kc9_0_2 := q.2.2.1
   have kc9_0_3 := q.2.2.2.1
   have kc9_0_4 := q.2.2.2.2.1
   have kc9_0_5 := q.2.2.2.2.2.1
   have kf9_0_0 := q.2.2.2.2.2.2.1
   have kf9_0_1 := q.2.2.2.2.2.2.2.1
   have kf9_0_2 := q.2.2.2.2.2.2.2.2.1
   have kf9_0_3 := q.2.2.2.2.2.2.2.2.2.1
   have kf9_0_4 := q.2.2.2.2.2.2.2.2.2.2.1
   have kf9_0_5 := q.2.2.2.2.2.2.2.2.2.2.2.1
   have kl9_0 := q.2.2.2.2.2.2.2.2.2.2.2.2.1
   have kn9_0 := q.2.2.2.2.2.2.2.2.2.2.2.2.2.1
   have km9_0 := q.2.2.2.2.2.2.2.2.2.2.2.2.2.2
   clear q
   have kz9 := h9.size
   (try simp only [World.size_alloc, World.size_setCell, World.size_drew] at kz9)
   have H9 := Lib.hid h9
   clear h9

   clear hS9 hK
   ((try simp only []); (repeat (first | go_values | go_skip | go_guarded | go_step | go_upon | go_in)))
   have hp := put6 S9.out HS.out.nums R9.out (Nat.le_refl w.heap.size) hbw (.int .i64 t.op) (.int .i64 t.va) (.int .i64 t.vb) (.int .i64 t.dm) (.string t.nm) (.slice xa t.cnt xc)
   have g0 : ((((((w9.setCell ⟨w.heap.size, 0, none⟩ (.int .i64 t.op)).setCell ⟨w.heap.size, 1, none⟩ (.int .i64 t.va)).setCell ⟨w.heap.size, 2, none⟩ (.int .i64 t.vb)).setCell ⟨w.heap.size, 3, none⟩ (.int .i64 t.dm)).setCell ⟨w.heap.size, 4, none⟩ (.string t.nm)).setCell ⟨w.heap.size, 5, none⟩ (.slice xa t.cnt xc)).cell? ⟨w.heap.size, 0, none⟩ = some (.int .i64 t.op) := by go_simp
   have g1 : ((((((w9.setCell ⟨w.heap.size, 0, none⟩ (.int .i64 t.op)).setCell ⟨w.heap.size, 1, none⟩ (.int .i64 t.va)).setCell ⟨w.heap.size, 2, none⟩ (.int .i64 t.vb)).setCell ⟨w.heap.size, 3, none⟩ (.int .i64 t.dm)).setCell ⟨w.heap.size, 4, none⟩ (.string t.nm)).setCell ⟨w.heap.size, 5, none⟩ (.slice xa t.cnt xc)).cell? ⟨w.heap.size, 1, none⟩ = some (.int .i64 t.va) := by go_simp
   have g2 : ((((((w9.setCell ⟨w.heap.size, 0, none⟩ (.int .i64 t.op)).setCell ⟨w.heap.size, 1, none⟩ (.int .i64 t.va)).setCell ⟨w.heap.size, 2, none⟩ (.int .i64 t.vb)).setCell ⟨w.heap.size, 3, none⟩ (.int .i64 t.dm)).setCell ⟨w.heap.size, 4, none⟩ (.string t.nm)).setCell ⟨w.heap.size, 5, none⟩ (.slice xa t.cnt xc)).cell? ⟨w.heap.size, 2, none⟩ = some (.int .i64 t.vb) := by go_simp
   have g3 : ((((((w9.setCell ⟨w.heap.size, 0, none⟩ (.int .i64 t.op)).setCell ⟨w.heap.size, 1, none⟩ (.int .i64 t.va)).setCell ⟨w.heap.size, 2, none⟩ (.int .i64 t.vb)).setCell ⟨w.heap.size, 3, none⟩ (.int .i64 t.dm)).setCell ⟨w.heap.size, 4, none⟩ (.string t.nm)).setCell ⟨w.heap.size, 5, none⟩ (.slice xa t.cnt xc)).cell? ⟨w.heap.size, 3, none⟩ = some (.int .i64 t.dm) := by go_simp
   have g4 : ((((((w9.setCell ⟨w.heap.size, 0, none⟩ (.int .i64 t.op)).setCell ⟨w.heap.size, 1, none⟩ (.int .i64 t.va)).setCell ⟨w.heap.size, 2, none⟩ (.int .i64 t.vb)).setCell ⟨w.heap.size, 3, none⟩ (.int .i64 t.dm)).setCell ⟨w.heap.size, 4, none⟩ (.string t.nm)).setCell ⟨w.heap.size, 5, none⟩ (.slice xa t.cnt xc)).cell? ⟨w.heap.size, 4, none⟩ = some (.string t.nm) := by go_simp
   have g5 : ((((((w9.setCell ⟨w.heap.size, 0, none⟩ (.int .i64 t.op)).setCell ⟨w.heap.size, 1, none⟩ (.int .i64 t.va)).setCell ⟨w.heap.size, 2, none⟩ (.int .i64 t.vb)).setCell ⟨w.heap.size, 3, none⟩ (.int .i64 t.dm)).setCell ⟨w.heap.size, 4, none⟩ (.string t.nm)).setCell ⟨w.heap.size, 5, none⟩ (.slice xa t.cnt xc)).cell? ⟨w.heap.size, 5, none⟩ = some (.slice xa t.cnt xc) := by go_simp
   refine bodyPost_ret (v := .agg #[.int .i64 t.op, .int .i64 t.va, .int .i64 t.vb, .int .i64 t.dm, .string t.nm, .slice xa t.cnt xc]) ?_ rfl ⟨t, _, _, _, rfl, kidsB_put6 HK.out (fun q hq => by (try simp at hq); exact ⟨by omega, by omega⟩) _ _ _ _ _ _, (by omega), (by omega), hp.1, hp.2, hinf⟩
   simp [results, Tryz.results47, go_sem, g0, g1, g2, g3, g4, g5]
 ·skip
  go_wp2_with fail
  refine (leaf_any b la ln lc (at' + 1) L dim ea ke ecap nm dm _ hN S1.out (HE.out.ro R1.out) (by omega) (by omega)).mono ?_
  unfold MkRes
  rintro e w9 ⟨t, x, at2, left2, rfl, hK, hz, hat, hS9, h9, hPR⟩
  have hinf := hPR.2

  obtain ⟨xa, xc, rfl⟩ := kids_slice (kidsB_to hK)
  have S9 := Lib.hid hS9
  have R9 := Lib.hid ((R1.out).trans h9)
  have HK := Lib.hid hK
  have q := keepr6 h9 (b := w.heap.size) (by first | (simp; done) | (simp; omega) | omega) (by first | (simp; done) | (simp; omega) | omega)
  have kc9_0_0 := q.1
  have kc9_0_1 := q.2.1
  have kc9_0_2 := q.2.2.1
  have kc9_0_3 := q.2.2.2.1
  have kc9_0_4 := q.2.2.2.2.1
  have kc9_0_5 := q.2.2.2.2.2.1
  have kf9_0_0 := q.2.2.2.2.2.2.1
  have kf9_0_1 := q.2.2.2.2.2.2.2.1
  have kf9_0_2 := q.2.2.2.2.2.2.2.2.1
  have kf9_0_3 := q.2.2.2.2.2.2.2.2.2.1
  have kf9_0_4 := q.2.2.2.2.2.2.2.2.2.2.1
  have kf9_0_5 := q.2.2.2.2.2.2.2.2.2.2.2.1
  have kl9_0 := q.2.2.2.2.2.2.2.2.2.2.2.2.1
  have kn9_0 := q.2.2.2.2.2.2.2.2.2.2.2.2.2.1
  have km9_0 := q.2.2.2.2.2.2.2.2.2.2.2.2.2.2
  clear q
  have kz9 := h9.size
  (try simp only [World.size_alloc, World.size_setCell, World.size_drew] at kz9)
  have H9 := Lib.hid h9
  clear h9

  clear hS9 hK
  ((try simp only []); (repeat (first | go_values | go_skip | go_guarded | go_step | go_upon | go_in)))
  have hp := put6 S9.out HS.out.nums R9.out (Nat.le_refl w.heap.size) hbw (.int .i64 t.op) (.int .i64 t.va) (.int .i64 t.vb) (.int .i64 t.dm) (.string t.nm) (.slice xa t.cnt xc)
  have g0 : ((((((w9.setCell ⟨w.heap.size, 0, none⟩ (.int .i64 t.op)).setCell ⟨w.heap.size, 1, none⟩ (.int .i64 t.va)).setCell ⟨w.heap.size, 2, none⟩ (.int .i64 t.vb)).setCell ⟨w.heap.size, 3, none⟩ (.int .i64 t.dm)).setCell ⟨w.heap.size, 4, none⟩ (.string t.nm)).setCell ⟨w.heap.size, 5, none⟩ (.slice xa t.cnt xc)).cell? ⟨w.heap.size, 0, none⟩ = some (.int .i64 t.op) := by go_simp
  have g1 : ((((((w9.setCell ⟨w.heap.size, 0, none⟩ (.int .i64 t.op)).setCell ⟨w.heap.size, 1, none⟩ (.int .i64 t.va)).setCell ⟨w.heap.size, 2, none⟩ (.int .i64 t.vb)).setCell ⟨w.heap.size, 3, none⟩ (.int .i64 t.dm)).setCell ⟨w.heap.size, 4, none⟩ (.string t.nm)).setCell ⟨w.heap.size, 5, none⟩ (.slice xa t.cnt xc)).cell? ⟨w.heap.size, 1, none⟩ = some (.int .i64 t.va) := by go_simp
  have g2 : ((((((w9.setCell ⟨w.heap.size, 0, none⟩ (.int .i64 t.op)).setCell ⟨w.heap.size, 1, none⟩ (.int .i64 t.va)).setCell ⟨w.heap.size, 2, none⟩ (.int .i64 t.vb)).setCell ⟨w.heap.size, 3, none⟩ (.int .i64 t.dm)).setCell ⟨w.heap.size, 4, none⟩ (.string t.nm)).setCell ⟨w.heap.size, 5, none⟩ (.slice xa t.cnt xc)).cell? ⟨w.heap.size, 2, none⟩ = some (.int .i64 t.vb) := by go_simp
  have g3 : ((((((w9.setCell ⟨w.heap.size, 0, none⟩ (.int .i64 t.op)).setCell ⟨w.heap.size, 1, none⟩ (.int .i64 t.va)).setCell ⟨w.heap.size, 2, none⟩ (.int .i64 t.vb)).setCell ⟨w.heap.size, 3, none⟩ (.int .i64 t.dm)).setCell ⟨w.heap.size, 4, none⟩ (.string t.nm)).setCell ⟨w.heap.size, 5, none⟩ (.slice xa t.cnt xc)).cell? ⟨w.heap.size, 3, none⟩ = some (.int .i64 t.dm) := by go_simp
  have g4 : ((((((w9.setCell ⟨w.heap.size, 0, none⟩ (.int .i64 t.op)).setCell ⟨w.heap.size, 1, none⟩ (.int .i64 t.va)).setCell ⟨w.heap.size, 2, none⟩ (.int .i64 t.vb)).setCell ⟨w.heap.size, 3, none⟩ (.int .i64 t.dm)).setCell ⟨w.heap.size, 4, none⟩ (.string t.nm)).setCell ⟨w.heap.size, 5, none⟩ (.slice xa t.cnt xc)).cell? ⟨w.heap.size, 4, none⟩ = some (.string t.nm) := by go_simp
  have g5 : ((((((w9.setCell ⟨w.heap.size, 0, none⟩ (.int .i64 t.op)).setCell ⟨w.heap.size, 1, none⟩ (.int .i64 t.va)).setCell ⟨w.heap.size, 2, none⟩ (.int .i64 t.vb)).setCell ⟨w.heap.size, 3, none⟩ (.int .i64 t.dm)).setCell ⟨w.heap.size, 4, none⟩ (.string t.nm)).setCell ⟨w.heap.size, 5, none⟩ (.slice xa t.cnt xc)).cell? ⟨w.heap.size, 5, none⟩ = some (.slice xa t.cnt xc) := by go_simp
  refine bodyPost_ret (v := .agg #[.int .i64 t.op, .int .i64 t.va, .int .i64 t.vb, .int .i64 t.dm, .string t.nm, .slice xa t.cnt xc]) ?_ rfl ⟨t, _, _, _, rfl, kidsB_put6 HK.out (fun q hq => by (try simp at hq); exact ⟨by omega, by omega⟩) _ _ _ _ _ _, (by omega), (by omega), hp.1, hp.2, hinf⟩
  simp [results, Tryz.results47, go_sem, g0, g1, g2, g3, g4, g5]
 ·skip
  go_wp2_with fail
  refine (leaf_any b la ln lc (at' + 1) L dim ea ke ecap nm dm _ hN S1.out (HE.out.ro R1.out) (by omega) (by omega)).mono ?_
  unfold MkRes
  rintro e w9 ⟨t, x, at2, left2, rfl, hK, hz, hat, hS9, h9, hPR⟩
  have hinf := hPR.2

  obtain ⟨xa, xc, rfl⟩ := kids_slice (kidsB_to hK)
  have S9 := Lib.hid hS9
  have R9 := Lib.hid ((R1.out).trans h9)
  have HK := Lib.hid hK
  have q := keepr6 h9 (b := w.heap.size) (by first | (simp; done) | (simp; omega) | omega) (by first | (simp; done) | (simp; omega) | omega)
  have kc9_0_0 := q.1
  have kc9_0_1 := q.2.1
  have kc9_0_2 := q.2.2.1
  have kc9_0_3 := q.2.2.2.1
  have kc9_0_4 := q.2.2.2.2.1
  have kc9_0_5 := q.2.2.2.2.2.1
  have kf9_0_0 := q.2.2.2.2.2.2.1
  have kf9_0_1 := q.2.2.2.2.2.2.2.1
  have kf9_0_2 := q.2.2.2.2.2.2.2.2.1
  have kf9_0_3 := q.2.2.2.2.2.2.2.2.2.1
  have kf9_0_4 := q.2.2.2.2.2.2.2.2.2.2.1
  have kf9_0_5 := q.2.2.2.2.2.2.2.2.2.2.2.1
  have kl9_0 := q.2.2.2.2.2.2.2.2.2.2.2.2.1
  have kn9_0 := q.2.2.2.2.2.2.2.2.2.2.2.2.2.1
  have km9_0 := q.2.2.2.2.2.2.2.2.2.2.2.2.2.2
  clear q
  have kz9 := h9.size
  (try simp only [World.size_alloc, World.size_setCell, World.size_drew] at kz9)
  have H9 := Lib.hid h9
  clear h9

  clear hS9 hK
  ((try simp only []); (repeat (first | go_values | go_skip | go_guarded | go_step | go_upon | go_in)))
  have hp := put6 S9.out HS.out.nums R9.out (Nat.le_refl w.heap.size) hbw (.int .i64 t.op) (.int .i64 t.va) (.int .i64 t.vb) (.int .i64 t.dm) (.string t.nm) (.slice xa t.cnt xc)
  have g0 : ((((((w9.setCell ⟨w.heap.size, 0, none⟩ (.int .i64 t.op)).setCell ⟨w.heap.size, 1, none⟩ (.int .i64 t.va)).setCell ⟨w.heap.size, 2, none⟩ (.int .i64 t.vb)).setCell ⟨w.heap.size, 3, none⟩ (.int .i64 t.dm)).setCell ⟨w.heap.size, 4, none⟩ (.string t.nm)).setCell ⟨w.heap.size, 5, none⟩ (.slice xa t.cnt xc)).cell? ⟨w.heap.size, 0, none⟩ = some (.int .i64 t.op) := by go_simp
  have g1 : ((((((w9.setCell ⟨w.heap.size, 0, none⟩ (.int .i64 t.op)).setCell ⟨w.heap.size, 1, none⟩ (.int .i64 t.va)).setCell ⟨w.heap.size, 2, none⟩ (.int .i64 t.vb)).setCell ⟨w.heap.size, 3, none⟩ (.int .i64 t.dm)).setCell ⟨w.heap.size, 4, none⟩ (.string t.nm)).setCell ⟨w.heap.size, 5, none⟩ (.slice xa t.cnt xc)).cell? ⟨w.heap.size, 1, none⟩ = some (.int .i64 t.va) := by go_simp
  have g2 : ((((((w9.setCell ⟨w.heap.size, 0, none⟩ (.int .i64 t.op)).setCell ⟨w.heap.size, 1, none⟩ (.int .i64 t.va)).setCell ⟨w.heap.size, 2, none⟩ (.int .i64 t.vb)).setCell ⟨w.heap.size, 3, none⟩ (.int .i64 t.dm)).setCell ⟨w.heap.size, 4, none⟩ (.string t.nm)).setCell ⟨w.heap.size, 5, none⟩ (.slice xa t.cnt xc)).cell? ⟨w.heap.size, 2, none⟩ = some (.int .i64 t.vb) := by go_simp
  have g3 : ((((((w9.setCell ⟨w.heap.size, 0, none⟩ (.int .i64 t.op)).setCell ⟨w.heap.size, 1, none⟩ (.int .i64 t.va)).setCell ⟨w.heap.size, 2, none⟩ (.int .i64 t.vb)).setCell ⟨w.heap.size, 3, none⟩ (.int .i64 t.dm)).setCell ⟨w.heap.size, 4, none⟩ (.string t.nm)).setCell ⟨w.heap.size, 5, none⟩ (.slice xa t.cnt xc)).cell? ⟨w.heap.size, 3, none⟩ = some (.int .i64 t.dm) := by go_simp
  have g4 : ((((((w9.setCell ⟨w.heap.size, 0, none⟩ (.int .i64 t.op)).setCell ⟨w.heap.size, 1, none⟩ (.int .i64 t.va)).setCell ⟨w.heap.size, 2, none⟩ (.int .i64 t.vb)).setCell ⟨w.heap.size, 3, none⟩ (.int .i64 t.dm)).setCell ⟨w.heap.size, 4, none⟩ (.string t.nm)).setCell ⟨w.heap.size, 5, none⟩ (.slice xa t.cnt xc)).cell? ⟨w.heap.size, 4, none⟩ = some (.string t.nm) := by go_simp
  have g5 : ((((((w9.setCell ⟨w.heap.size, 0, none⟩ (.int .i64 t.op)).setCell ⟨w.heap.size, 1, none⟩ (.int .i64 t.va)).setCell ⟨w.heap.size, 2, none⟩ (.int .i64 t.vb)).setCell ⟨w.heap.size, 3, none⟩ (.int .i64 t.dm)).setCell ⟨w.heap.size, 4, none⟩ (.string t.nm)).setCell ⟨w.heap.size, 5, none⟩ (.slice xa t.cnt xc)).cell? ⟨w.heap.size, 5, none⟩ = some (.slice xa t.cnt xc) := by go_simp
  refine bodyPost_ret (v := .agg #[.int .i64 t.op, .int .i64 t.va, .int .i64 t.vb, .int .i64 t.dm, .string t.nm, .slice xa t.cnt xc]) ?_ rfl ⟨t, _, _, _, rfl, kidsB_put6 HK.out (fun q hq => by (try simp at hq); exact ⟨by omega, by omega⟩) _ _ _ _ _ _, (by omega), (by omega), hp.1, hp.2, hinf⟩
  simp [results, Tryz.results47, go_sem, g0, g1, g2, g3, g4, g5]
 ·skip
  go_wp2_with fail
  refine (leaf_any b la ln lc (at' + 1) L dim ea ke ecap nm dm _ hN S1.out (HE.out.ro R1.out) (by omega) (by omega)).mono ?_
  unfold MkRes
  rintro e w9 ⟨t, x, at2, left2, rfl, hK, hz, hat, hS9, h9, hPR⟩
  have hinf := hPR.2

  obtain ⟨xa, xc, rfl⟩ := kids_slice (kidsB_to hK)
  have S9 := Lib.hid hS9
  have R9 := Lib.hid ((R1.out).trans h9)
  have HK := Lib.hid hK
  have q := keepr6 h9 (b := w.heap.size) (by first | (simp; done) | (simp; omega) | omega) (by first | (simp; done) | (simp; omega) | omega)
  have kc9_0_0 := q.1
  have kc9_0_1 := q.2.1
  have kc9_0_2 := q.2.2.1
  have kc9_0_3 := q.2.2.2.1
  have kc9_0_4 := q.2.2.2.2.1
  have kc9_0_5 := q.2.2.2.2.2.1
  have kf9_0_0 := q.2.2.2.2.2.2.1
  have kf9_0_1 := q.2.2.2.2.2.2.2.1
  have kf9_0_2 := q.2.2.2.2.2.2.2.2.1
  have kf9_0_3 := q.2.2.2.2.2.2.2.2.2.1
  have kf9_0_4 := q.2.2.2.2.2.2.2.2.2.2.1
  have kf9_0_5 := q.2.2.2.2.2.2.2.2.2.2.2.1
  have kl9_0 := q.2.2.2.2.2.2.2.2.2.2.2.2.1
  have kn9_0 := q.2.2.2.2.2.2.2.2.2.2.2.2.2.1
  have km9_0 := q.2.2.2.2.2.2.2.2.2.2.2.2.2.2
  clear q
  have kz9 := h9.size
  (try simp only [World.size_alloc, World.size_setCell, World.size_drew] at kz9)
  have H9 := Lib.hid h9
  clear h9

  clear hS9 hK
  ((try simp only []); (repeat (first | go_values | go_skip | go_guarded | go_step | go_upon | go_in)))
  have hp := put6 S9.out HS.out.nums R9.out (Nat.le_refl w.heap.size) hbw (.int .i64 t.op) (.int .i64 t.va) (.int .i64 t.vb) (.int .i64 t.dm) (.string t.nm) (.slice xa t.cnt xc)
  have g0 : ((((((w9.setCell ⟨w.heap.size, 0, none⟩ (.int .i64 t.op)).setCell ⟨w.heap.size, 1, none⟩ (.int .i64 t.va)).setCell ⟨w.heap.size, 2, none⟩ (.int .i64 t.vb)).setCell ⟨w.heap.size, 3, none⟩ (.int .i64 t.dm)).setCell ⟨w.heap.size, 4, none⟩ (.string t.nm)).setCell ⟨w.heap.size, 5, none⟩ (.slice xa t.cnt xc)).cell? ⟨w.heap.size, 0, none⟩ = some (.int .i64 t.op) := by go_simp
  have g1 : ((((((w9.setCell ⟨w.heap.size, 0, none⟩ (.int .i64 t.op)).setCell ⟨w.heap.size, 1, none⟩ (.int .i64 t.va)).setCell ⟨w.heap.size, 2, none⟩ (.int .i64 t.vb)).setCell ⟨w.heap.size, 3, none⟩ (.int .i64 t.dm)).setCell ⟨w.heap.size, 4, none⟩ (.string t.nm)).setCell ⟨w.heap.size, 5, none⟩ (.slice xa t.cnt xc)).cell? ⟨w.heap.size, 1, none⟩ = some (.int .i64 t.va) := by go_simp
  have g2 : ((((((w9.setCell ⟨w.heap.size, 0, none⟩ (.int .i64 t.op)).setCell ⟨w.heap.size, 1, none⟩ (.int .i64 t.va)).setCell ⟨w.heap.size, 2, none⟩ (.int .i64 t.vb)).setCell ⟨w.heap.size, 3, none⟩ (.int .i64 t.dm)).setCell ⟨w.heap.size, 4, none⟩ (.string t.nm)).setCell ⟨w.heap.size, 5, none⟩ (.slice xa t.cnt xc)).cell? ⟨w.heap.size, 2, none⟩ = some (.int .i64 t.vb) := by go_simp
  have g3 : ((((((w9.setCell ⟨w.heap.size, 0, none⟩ (.int .i64 t.op)).setCell ⟨w.heap.size, 1, none⟩ (.int .i64 t.va)).setCell ⟨w.heap.size, 2, none⟩ (.int .i64 t.vb)).setCell ⟨w.heap.size, 3, none⟩ (.int .i64 t.dm)).setCell ⟨w.heap.size, 4, none⟩ (.string t.nm)).setCell ⟨w.heap.size, 5, none⟩ (.slice xa t.cnt xc)).cell? ⟨w.heap.size, 3, none⟩ = some (.int .i64 t.dm) := by go_simp
  have g4 : ((((((w9.setCell ⟨w.heap.size, 0, none⟩ (.int .i64 t.op)).setCell ⟨w.heap.size, 1, none⟩ (.int .i64 t.va)).setCell ⟨w.heap.size, 2, none⟩ (.int .i64 t.vb)).setCell ⟨w.heap.size, 3, none⟩ (.int .i64 t.dm)).setCell ⟨w.heap.size, 4, none⟩ (.string t.nm)).setCell ⟨w.heap.size, 5, none⟩ (.slice xa t.cnt xc)).cell? ⟨w.heap.size, 4, none⟩ = some (.string t.nm) := by go_simp
  have g5 : ((((((w9.setCell ⟨w.heap.size, 0, none⟩ (.int .i64 t.op)).setCell ⟨w.heap.size, 1, none⟩ (.int .i64 t.va)).setCell ⟨w.heap.size, 2, none⟩ (.int .i64 t.vb)).setCell ⟨w.heap.size, 3, none⟩ (.int .i64 t.dm)).setCell ⟨w.heap.size, 4, none⟩ (.string t.nm)).setCell ⟨w.heap.size, 5, none⟩ (.slice xa t.cnt xc)).cell? ⟨w.heap.size, 5, none⟩ = some (.slice xa t.cnt xc) := by go_simp
  refine bodyPost_ret (v := .agg #[.int .i64 t.op, .int .i64 t.va, .int .i64 t.vb, .int .i64 t.dm, .string t.nm, .slice xa t.cnt xc]) ?_ rfl ⟨t, _, _, _, rfl, kidsB_put6 HK.out (fun q hq => by (try simp at hq); exact ⟨by omega, by omega⟩) _ _ _ _ _ _, (by omega), (by omega), hp.1, hp.2, hinf⟩
  simp [results, Tryz.results47, go_sem, g0, g1, g2, g3, g4, g5]
theorem expr_step (b : Nat) (la : Option Addr) (ln lc : Nat) (d F G : Int) (ea : Option Addr) (ke ecap : Nat) (nm : Nat → ByteArray) (dm : Nat → Int) (hN : EnvG nm dm ke) (hd1 : 1 ≤ d) (hd6 : d ≤ 6) (hF : 3 ≤ F) (hF2 : F ≤ 2000000) (hG : d < 6 → 3 ≤ G ∧ F = 5 * G)
  (IH : d < 6 → ∀ dim, 1 ≤ dim ∧ dim ≤ 4 → ∀ (at' left : Int) (w : World), Src w b la ln lc at' left → EnvB w b ke nm dm ea → at' + 10 * G ≤ 3000000000000000000 → Calls Tryz.prog 47 #[.pointer (some ⟨b, 0, none⟩), .int .i64 dim, .int .i64 (d + 1), .slice ea ke ecap] w (MkRes b la ln lc (at' + 10 * G) G (fun t => t.inf nm dm ke = (dim, 0)) w))
  (dim : Int) (hdim : 1 ≤ dim ∧ dim ≤ 4) (at' left : Int) (w : World) (hS : Src w b la ln lc at' left) (hE : EnvB w b ke nm dm ea) (ha : at' + 10 * F ≤ 3000000000000000000) :
  Calls Tryz.prog 47 #[.pointer (some ⟨b, 0, none⟩), .int .i64 dim, .int .i64 d, .slice ea ke ecap] w (MkRes b la ln lc (at' + 10 * F) F (fun t => t.inf nm dm ke = (dim, 0)) w) := by
 by_cases hq : 6 ≤ d ∨ left ≤ 0
 ·exact expr_leaf b la ln lc d F G ea ke ecap nm dm hN hd1 hd6 hF hF2 hG IH dim hdim at' left w hS hE ha hq
 ·by_cases h1 : dim = 1
  ·exact expr_bool b la ln lc d F G ea ke ecap nm dm hN hd1 hd6 hF hF2 hG IH dim h1 at' left w hS hE ha (by omega)
  ·exact expr_num b la ln lc d F G ea ke ecap nm dm hN hd1 hd6 hF hF2 hG IH dim (by omega) at' left w hS hE ha (by omega)
theorem pow53 : ∀ f : Nat, f ≤ 5 → (3 : Int) ≤ 3 * 5 ^ f ∧ (3 : Int) * 5 ^ f ≤ 2000000 := by
 intro f hf
 rcases (show f = 0 ∨ f = 1 ∨ f = 2 ∨ f = 3 ∨ f = 4 ∨ f = 5 by omega) with rfl | rfl | rfl | rfl | rfl | rfl <;> decide
theorem expr_any (b : Nat) (la : Option Addr) (ln lc : Nat) (ea : Option Addr) (ke ecap : Nat) (nm : Nat → ByteArray) (dm : Nat → Int) (hN : EnvG nm dm ke) (f : Nat) : f ≤ 5 → ∀ (dim : Int) (_ : 1 ≤ dim ∧ dim ≤ 4) (at' left : Int) (w : World), Src w b la ln lc at' left → EnvB w b ke nm dm ea → at' + 10 * (3 * (5 : Int) ^ f) ≤ 3000000000000000000 →
  Calls Tryz.prog 47 #[.pointer (some ⟨b, 0, none⟩), .int .i64 dim, .int .i64 (6 - (f : Int)), .slice ea ke ecap] w (MkRes b la ln lc (at' + 10 * (3 * (5 : Int) ^ f)) (3 * (5 : Int) ^ f) (fun t => t.inf nm dm ke = (dim, 0)) w) := by
 induction f with
 | zero =>
  intro _ dim hdim at' left w hS hE ha
  exact expr_step b la ln lc (6 - ((0 : Nat) : Int)) _ 0 ea ke ecap nm dm hN (by decide) (by decide) (pow53 0 (by decide)).1 (pow53 0 (by decide)).2 (fun h => absurd h (by decide)) (fun h => absurd h (by decide)) dim hdim at' left w hS hE ha
 | succ f ih =>
  intro hf dim hdim at' left w hS hE ha
  have e : (6 - ((f + 1 : Nat) : Int)) + 1 = 6 - (f : Int) := by omega
  exact expr_step b la ln lc (6 - ((f + 1 : Nat) : Int)) _ (3 * (5 : Int) ^ f) ea ke ecap nm dm hN (by omega) (by omega) (pow53 (f + 1) hf).1 (pow53 (f + 1) hf).2 (fun _ => ⟨(pow53 f (by omega)).1, by rw [Int.pow_succ]; omega⟩) (fun _ dim2 hdim2 at2 left2 w2 h2 hE2 ha2 => by rw [e]; exact ih (by omega) dim2 hdim2 at2 left2 w2 h2 hE2 ha2) dim hdim at' left w hS hE ha
end Go.Proofs.YtkghmghjgikihaaGreatDoor

/- Contract of Expr: a valid tree of a dimension, where nothing lay. No conditions but those printed. -/
namespace Go.Proofs.YtkghmghjgikihaaGreatDoor
open Go.RowKit Cal Str Tok Frac Txt Tree
attribute [local go_sem] calmUpon
set_option linter.unusedVariables false
set_option linter.unusedSimpArgs false
theorem nums_in {w : World} {b n : Nat} {a0 : Option Addr} {cap : Nat} (h : IntsIn w (.slice a0 n cap) n) (hb : w.heap.size ≤ b) : Nums w b a0 n := by
 obtain ⟨a1, c1, e, hn, hc⟩ := h
 obtain ⟨rfl, -, -⟩ := by simpa using e
 refine ⟨hn, fun h0 => ?_⟩
 obtain ⟨g, off, zs, rfl, hg, hz⟩ := hc h0
 exact ⟨g, off, fun j => zs.getD j 0, rfl, hg, by omega, hz⟩
theorem envB_of {w : World} {b k : Nat} {nm : Nat → ByteArray} {dm : Nat → Int} {ad : Option Addr} (h : EnvAt w k nm dm ad) (hk : k ≤ 1000000000) (hb : w.heap.size ≤ b) : EnvB w b k nm dm ad := ⟨hk, fun h0 => by
 obtain ⟨g, off, e, hg, hc⟩ := h h0
 exact ⟨g, off, e, hg, by omega, hc⟩⟩
theorem kidsB_rel {P : Nat → Prop} {t : Ex} {w w' : World} {x : Value} (h : ExKidsB P t w x) (r : Rel w w') : ExKidsB P t w' x := kidsB_keep (Below.size r) (fun g hg hp => ⟨Below.block r g hg, hp⟩) h
theorem rel_six {w w1 : World} (h : Rel w w1) {g : Nat} (hg : w.heap.size ≤ g) (v0 v1 v2 v3 v4 v5 : Value) :
  Rel w ((((((w1.setCell ⟨g, 0, none⟩ v0).setCell ⟨g, 1, none⟩ v1).setCell ⟨g, 2, none⟩ v2).setCell ⟨g, 3, none⟩ v3).setCell ⟨g, 4, none⟩ v4).setCell ⟨g, 5, none⟩ v5) :=
 (((((h.setCell (p := ⟨g, 0, none⟩) hg v0).setCell (p := ⟨g, 1, none⟩) hg v1).setCell (p := ⟨g, 2, none⟩) hg v2).setCell (p := ⟨g, 3, none⟩) hg v3).setCell (p := ⟨g, 4, none⟩) hg v4).setCell (p := ⟨g, 5, none⟩) hg v5
def TyRes (nm : Nat → ByteArray) (dm : Nat → Int) (k : Nat) (dim : Int) (w : World) (e : Ending) (w' : World) : Prop := ∃ (t : Ex) (x : Value), e = .returned (.agg #[.int .i64 t.op, .int .i64 t.va, .int .i64 t.vb, .int .i64 t.dm, .string t.nm, x]) ∧ ExKidsB (fun g => w.heap.size ≤ g) t w' x ∧ t.size ≤ 60 ∧ Rel w w' ∧ TyV nm dm k dim t
theorem valid_size {t : Ex} (h : t.valid = true) : t.size ≤ 60 := by
 unfold Ex.valid at h
 simp only [Bool.and_eq_true, decide_eq_true_eq] at h
 exact h.2.1
set_option maxRecDepth 20000 in
set_option maxHeartbeats 8000000 in
theorem Expr_any (v : Value) (n : Nat) (dim : Int) (ea : Option Addr) (ke ecap : Nat) (nm : Nat → ByteArray) (dm : Nat → Int) (w : World) (hI : IntsIn w v n) (hE : EnvAt w ke nm dm ea) (hk : ke ≤ 1000000000) (hN : EnvG nm dm ke) (hdim : 1 ≤ dim ∧ dim ≤ 4) :
  Calls Tryz.prog 19 #[v, .int .i64 dim, .slice ea ke ecap] w (TyRes nm dm ke dim w) := by
 obtain ⟨ad, cap, rfl, -⟩ := id hI
 have hI2 := Lib.hid hI
 have HE := Lib.hid ((envB_of (b := w.heap.size + 1) hE hk (by omega)).ro (Ro.of (((Rel.refl w).alloc (.cells #[.int .i64 0, .int .i64 0, .int .i64 0, .int .i64 0, .string ⟨#[]⟩, .slice none 0 0] 29)).alloc (.cells #[.slice ad n cap, .int .i64 0, .int .i64 24] 95))))
 clear hI hE
 unfold TyRes
 go_enter Tryz.func19, Tryz.ntmps19
 go_wp2_with fail
 have hNm := (nums_in (b := w.heap.size + 1) hI2.out (by omega)).ro (Ro.of (((Rel.refl w).alloc (.cells #[.int .i64 0, .int .i64 0, .int .i64 0, .int .i64 0, .string ⟨#[]⟩, .slice none 0 0] 29)).alloc (.cells #[.slice ad n cap, .int .i64 0, .int .i64 24] 95)))
 have HS : Hid (Src ((w.alloc (.cells #[.int .i64 0, .int .i64 0, .int .i64 0, .int .i64 0, .string ⟨#[]⟩, .slice none 0 0] 29)).alloc (.cells #[.slice ad n cap, .int .i64 0, .int .i64 24] 95)) (w.heap.size + 1) ad n cap 0 24) :=
  ⟨by simp, by simp, by simp, by simp, by simp, by simp, hNm, by decide, by decide, by decide⟩
 clear hNm
 have C := Lib.hid (expr_any (w.heap.size + 1) ad n cap ea ke ecap nm dm hN 5 (by decide) dim hdim 0 24 _ HS.out HE.out (by decide))
 have e6 : (6 : Int) - ((5 : Nat) : Int) = 1 := by decide
 have e5 : (3 : Int) * 5 ^ 5 = 9375 := by decide
 rw [e6, e5] at C
 clear e6 e5
 refine C.out.mono ?_
 unfold MkRes
 rintro e w1 ⟨t, x, at2, left2, rfl, hK, hz, hat, hS1, h1, hinf⟩
 obtain ⟨xa, xc, rfl⟩ := kids_slice (kidsB_to hK)
 have HK := Lib.hid hK
 have HF := Lib.hid hinf
 have R1 := Lib.hid (Ro.rel (((Rel.refl w).alloc (.cells #[.int .i64 0, .int .i64 0, .int .i64 0, .int .i64 0, .string ⟨#[]⟩, .slice none 0 0] 29)).alloc (.cells #[.slice ad n cap, .int .i64 0, .int .i64 24] 95)) h1 (by omega))
 have S1 := Lib.hid hS1
 have E1 := Lib.hid (HE.out.ro h1)
 have q := keepr6 h1 (b := w.heap.size) (by first | (simp; done) | (simp; omega) | omega) (by first | (simp; done) | (simp; omega) | omega)
 have kc1_0_0 := q.1
 have kc1_0_1 := q.2.1
 have kc1_0_2 := q.2.2.1
 have kc1_0_3 := q.2.2.2.1
 have kc1_0_4 := q.2.2.2.2.1
 have kc1_0_5 := q.2.2.2.2.2.1
 have kf1_0_0 := q.2.2.2.2.2.2.1
 have kf1_0_1 := q.2.2.2.2.2.2.2.1
 have kf1_0_2 := q.2.2.2.2.2.2.2.2.1
 have kf1_0_3 := q.2.2.2.2.2.2.2.2.2.1
 have kf1_0_4 := q.2.2.2.2.2.2.2.2.2.2.1
 have kf1_0_5 := q.2.2.2.2.2.2.2.2.2.2.2.1
 have kl1_0 := q.2.2.2.2.2.2.2.2.2.2.2.2.1
 have kn1_0 := q.2.2.2.2.2.2.2.2.2.2.2.2.2.1
 have km1_0 := q.2.2.2.2.2.2.2.2.2.2.2.2.2.2
 clear q
 have kz1 := h1.size
 (try simp only [World.size_alloc, World.size_setCell, World.size_drew] at kz1)
 have H1 := Lib.hid h1
 clear h1
 clear hK C hS1 hinf
 go_wp2_with fail
 refine (rValidExpr_any t _ _ (kids_rel (kidsB_to HK.out) ((Rel.refl _).alloc _)) (by omega)).mono ?_
 unfold BRes
 obtain ⟨V, hV⟩ : ∃ V, t.valid = V := ⟨_, rfl⟩
 rw [hV]
 rintro e w2 ⟨rfl, h2⟩
 have HV := Lib.hid hV
 have K2 := Lib.hid (kidsB_rel (kidsB_rel HK.out ((Rel.refl _).alloc _)) h2)
 have R2 := Lib.hid ((R1.out.alloc _).trans h2)
 have S2 := Lib.hid ((S1.out.rel ((Rel.refl _).alloc _)).rel h2)
 have E2 := Lib.hid ((E1.out.ro (Ro.of ((Rel.refl _).alloc _))).ro (Ro.of h2))
 have q := keep6 h2 (b := w.heap.size) (by first | (simp; done) | (simp; omega) | omega)
 have kc2_0_0 := q.1
 have kc2_0_1 := q.2.1
 have kc2_0_2 := q.2.2.1
 have kc2_0_3 := q.2.2.2.1
 have kc2_0_4 := q.2.2.2.2.1
 have kc2_0_5 := q.2.2.2.2.2.1
 have kf2_0_0 := q.2.2.2.2.2.2.1
 have kf2_0_1 := q.2.2.2.2.2.2.2.1
 have kf2_0_2 := q.2.2.2.2.2.2.2.2.1
 have kf2_0_3 := q.2.2.2.2.2.2.2.2.2.1
 have kf2_0_4 := q.2.2.2.2.2.2.2.2.2.2.1
 have kf2_0_5 := q.2.2.2.2.2.2.2.2.2.2.2.1
 have kl2_0 := q.2.2.2.2.2.2.2.2.2.2.2.2.1
 have kn2_0 := q.2.2.2.2.2.2.2.2.2.2.2.2.2.1
 have km2_0 := q.2.2.2.2.2.2.2.2.2.2.2.2.2.2
 clear q
 have q := keep6 h2 (b := w1.heap.size) (by first | (simp; done) | (simp; omega) | omega)
 have kc2_1_0 := q.1
 have kc2_1_1 := q.2.1
 have kc2_1_2 := q.2.2.1
 have kc2_1_3 := q.2.2.2.1
 have kc2_1_4 := q.2.2.2.2.1
 have kc2_1_5 := q.2.2.2.2.2.1
 have kf2_1_0 := q.2.2.2.2.2.2.1
 have kf2_1_1 := q.2.2.2.2.2.2.2.1
 have kf2_1_2 := q.2.2.2.2.2.2.2.2.1
 have kf2_1_3 := q.2.2.2.2.2.2.2.2.2.1
 have kf2_1_4 := q.2.2.2.2.2.2.2.2.2.2.1
 have kf2_1_5 := q.2.2.2.2.2.2.2.2.2.2.2.1
 have kl2_1 := q.2.2.2.2.2.2.2.2.2.2.2.2.1
 have kn2_1 := q.2.2.2.2.2.2.2.2.2.2.2.2.2.1
 have km2_1 := q.2.2.2.2.2.2.2.2.2.2.2.2.2.2
 clear q
 have kz2 := h2.size
 (try simp only [World.size_alloc, World.size_setCell, World.size_drew] at kz2)
 have H2 := Lib.hid h2
 clear h2
 clear hV
 cases V
 ·have s2 := S2.out.c2
  have sf := S2.out.f2
  have sl := S2.out.lt
  have S3 := Lib.hid (S2.out.setLeft 0 (by decide) (by decide))
  have E3 := Lib.hid (E2.out.ro ((Ro.refl (w.heap.size + 1) w2).set 2 (.int .i64 0)))
  have R3 := Lib.hid (R2.out.setCell (p := ⟨w.heap.size + 1, 2, none⟩) (by simp) (.int .i64 0))
  go_wp2_with fail
  refine (leaf_any (w.heap.size + 1) ad n cap at2 0 dim ea ke ecap nm dm _ hN S3.out E3.out (by omega) hdim).mono ?_
  unfold MkRes
  clear HK K2 HF HV
  rintro e w4 ⟨t, x, at4, left4, rfl, hK, hz, hat4, hS4, h4, hPR⟩
  obtain ⟨xa, xc, rfl⟩ := kids_slice (kidsB_to hK)
  have HK := Lib.hid hK
  have HP := Lib.hid hPR
  have R4 := Lib.hid (Ro.rel R3.out h4 (by omega))
  have q := keepr6 h4 (b := w.heap.size) (by first | (simp; done) | (simp; omega) | omega) (by first | (simp; done) | (simp; omega) | omega)
  have kc4_0_0 := q.1
  have kc4_0_1 := q.2.1
  have kc4_0_2 := q.2.2.1
  have kc4_0_3 := q.2.2.2.1
  have kc4_0_4 := q.2.2.2.2.1
  have kc4_0_5 := q.2.2.2.2.2.1
  have kf4_0_0 := q.2.2.2.2.2.2.1
  have kf4_0_1 := q.2.2.2.2.2.2.2.1
  have kf4_0_2 := q.2.2.2.2.2.2.2.2.1
  have kf4_0_3 := q.2.2.2.2.2.2.2.2.2.1
  have kf4_0_4 := q.2.2.2.2.2.2.2.2.2.2.1
  have kf4_0_5 := q.2.2.2.2.2.2.2.2.2.2.2.1
  have kl4_0 := q.2.2.2.2.2.2.2.2.2.2.2.2.1
  have kn4_0 := q.2.2.2.2.2.2.2.2.2.2.2.2.2.1
  have km4_0 := q.2.2.2.2.2.2.2.2.2.2.2.2.2.2
  clear q
  have kz4 := h4.size
  (try simp only [World.size_alloc, World.size_setCell, World.size_drew] at kz4)
  have H4 := Lib.hid h4
  clear h4
  clear hK hPR hS4
  ((try simp only []); (repeat (first | go_values | go_skip | go_guarded | go_step | go_upon | go_in)))
  have g0 : ((((((w4.setCell ⟨w.heap.size, 0, none⟩ (.int .i64 t.op)).setCell ⟨w.heap.size, 1, none⟩ (.int .i64 t.va)).setCell ⟨w.heap.size, 2, none⟩ (.int .i64 t.vb)).setCell ⟨w.heap.size, 3, none⟩ (.int .i64 t.dm)).setCell ⟨w.heap.size, 4, none⟩ (.string t.nm)).setCell ⟨w.heap.size, 5, none⟩ (.slice xa t.cnt xc)).cell? ⟨w.heap.size, 0, none⟩ = some (.int .i64 t.op) := by go_simp
  have g1 : ((((((w4.setCell ⟨w.heap.size, 0, none⟩ (.int .i64 t.op)).setCell ⟨w.heap.size, 1, none⟩ (.int .i64 t.va)).setCell ⟨w.heap.size, 2, none⟩ (.int .i64 t.vb)).setCell ⟨w.heap.size, 3, none⟩ (.int .i64 t.dm)).setCell ⟨w.heap.size, 4, none⟩ (.string t.nm)).setCell ⟨w.heap.size, 5, none⟩ (.slice xa t.cnt xc)).cell? ⟨w.heap.size, 1, none⟩ = some (.int .i64 t.va) := by go_simp
  have g2 : ((((((w4.setCell ⟨w.heap.size, 0, none⟩ (.int .i64 t.op)).setCell ⟨w.heap.size, 1, none⟩ (.int .i64 t.va)).setCell ⟨w.heap.size, 2, none⟩ (.int .i64 t.vb)).setCell ⟨w.heap.size, 3, none⟩ (.int .i64 t.dm)).setCell ⟨w.heap.size, 4, none⟩ (.string t.nm)).setCell ⟨w.heap.size, 5, none⟩ (.slice xa t.cnt xc)).cell? ⟨w.heap.size, 2, none⟩ = some (.int .i64 t.vb) := by go_simp
  have g3 : ((((((w4.setCell ⟨w.heap.size, 0, none⟩ (.int .i64 t.op)).setCell ⟨w.heap.size, 1, none⟩ (.int .i64 t.va)).setCell ⟨w.heap.size, 2, none⟩ (.int .i64 t.vb)).setCell ⟨w.heap.size, 3, none⟩ (.int .i64 t.dm)).setCell ⟨w.heap.size, 4, none⟩ (.string t.nm)).setCell ⟨w.heap.size, 5, none⟩ (.slice xa t.cnt xc)).cell? ⟨w.heap.size, 3, none⟩ = some (.int .i64 t.dm) := by go_simp
  have g4 : ((((((w4.setCell ⟨w.heap.size, 0, none⟩ (.int .i64 t.op)).setCell ⟨w.heap.size, 1, none⟩ (.int .i64 t.va)).setCell ⟨w.heap.size, 2, none⟩ (.int .i64 t.vb)).setCell ⟨w.heap.size, 3, none⟩ (.int .i64 t.dm)).setCell ⟨w.heap.size, 4, none⟩ (.string t.nm)).setCell ⟨w.heap.size, 5, none⟩ (.slice xa t.cnt xc)).cell? ⟨w.heap.size, 4, none⟩ = some (.string t.nm) := by go_simp
  have g5 : ((((((w4.setCell ⟨w.heap.size, 0, none⟩ (.int .i64 t.op)).setCell ⟨w.heap.size, 1, none⟩ (.int .i64 t.va)).setCell ⟨w.heap.size, 2, none⟩ (.int .i64 t.vb)).setCell ⟨w.heap.size, 3, none⟩ (.int .i64 t.dm)).setCell ⟨w.heap.size, 4, none⟩ (.string t.nm)).setCell ⟨w.heap.size, 5, none⟩ (.slice xa t.cnt xc)).cell? ⟨w.heap.size, 5, none⟩ = some (.slice xa t.cnt xc) := by go_simp
  refine bodyPost_ret (v := .agg #[.int .i64 t.op, .int .i64 t.va, .int .i64 t.vb, .int .i64 t.dm, .string t.nm, .slice xa t.cnt xc]) ?_ rfl ⟨t, _, rfl, kidsB_put6 HK.out (fun q hq => by simp [World.setCell] at hq; exact ⟨by omega, by omega⟩) _ _ _ _ _ _, valid_size HP.out.1, rel_six R4.out (Nat.le_refl _) _ _ _ _ _ _, HP.out⟩
  simp [results, Tryz.results19, go_sem, g0, g1, g2, g3, g4, g5]
 ·have HT : Hid (TyV nm dm ke dim t) := ⟨HV.out, HF.out⟩
  ((try simp only []); (repeat (first | go_values | go_skip | go_guarded | go_step | go_upon | go_in)))
  have g0 : ((((((w2.setCell ⟨w.heap.size, 0, none⟩ (.int .i64 t.op)).setCell ⟨w.heap.size, 1, none⟩ (.int .i64 t.va)).setCell ⟨w.heap.size, 2, none⟩ (.int .i64 t.vb)).setCell ⟨w.heap.size, 3, none⟩ (.int .i64 t.dm)).setCell ⟨w.heap.size, 4, none⟩ (.string t.nm)).setCell ⟨w.heap.size, 5, none⟩ (.slice xa t.cnt xc)).cell? ⟨w.heap.size, 0, none⟩ = some (.int .i64 t.op) := by go_simp
  have g1 : ((((((w2.setCell ⟨w.heap.size, 0, none⟩ (.int .i64 t.op)).setCell ⟨w.heap.size, 1, none⟩ (.int .i64 t.va)).setCell ⟨w.heap.size, 2, none⟩ (.int .i64 t.vb)).setCell ⟨w.heap.size, 3, none⟩ (.int .i64 t.dm)).setCell ⟨w.heap.size, 4, none⟩ (.string t.nm)).setCell ⟨w.heap.size, 5, none⟩ (.slice xa t.cnt xc)).cell? ⟨w.heap.size, 1, none⟩ = some (.int .i64 t.va) := by go_simp
  have g2 : ((((((w2.setCell ⟨w.heap.size, 0, none⟩ (.int .i64 t.op)).setCell ⟨w.heap.size, 1, none⟩ (.int .i64 t.va)).setCell ⟨w.heap.size, 2, none⟩ (.int .i64 t.vb)).setCell ⟨w.heap.size, 3, none⟩ (.int .i64 t.dm)).setCell ⟨w.heap.size, 4, none⟩ (.string t.nm)).setCell ⟨w.heap.size, 5, none⟩ (.slice xa t.cnt xc)).cell? ⟨w.heap.size, 2, none⟩ = some (.int .i64 t.vb) := by go_simp
  have g3 : ((((((w2.setCell ⟨w.heap.size, 0, none⟩ (.int .i64 t.op)).setCell ⟨w.heap.size, 1, none⟩ (.int .i64 t.va)).setCell ⟨w.heap.size, 2, none⟩ (.int .i64 t.vb)).setCell ⟨w.heap.size, 3, none⟩ (.int .i64 t.dm)).setCell ⟨w.heap.size, 4, none⟩ (.string t.nm)).setCell ⟨w.heap.size, 5, none⟩ (.slice xa t.cnt xc)).cell? ⟨w.heap.size, 3, none⟩ = some (.int .i64 t.dm) := by go_simp
  have g4 : ((((((w2.setCell ⟨w.heap.size, 0, none⟩ (.int .i64 t.op)).setCell ⟨w.heap.size, 1, none⟩ (.int .i64 t.va)).setCell ⟨w.heap.size, 2, none⟩ (.int .i64 t.vb)).setCell ⟨w.heap.size, 3, none⟩ (.int .i64 t.dm)).setCell ⟨w.heap.size, 4, none⟩ (.string t.nm)).setCell ⟨w.heap.size, 5, none⟩ (.slice xa t.cnt xc)).cell? ⟨w.heap.size, 4, none⟩ = some (.string t.nm) := by go_simp
  have g5 : ((((((w2.setCell ⟨w.heap.size, 0, none⟩ (.int .i64 t.op)).setCell ⟨w.heap.size, 1, none⟩ (.int .i64 t.va)).setCell ⟨w.heap.size, 2, none⟩ (.int .i64 t.vb)).setCell ⟨w.heap.size, 3, none⟩ (.int .i64 t.dm)).setCell ⟨w.heap.size, 4, none⟩ (.string t.nm)).setCell ⟨w.heap.size, 5, none⟩ (.slice xa t.cnt xc)).cell? ⟨w.heap.size, 5, none⟩ = some (.slice xa t.cnt xc) := by go_simp
  refine bodyPost_ret (v := .agg #[.int .i64 t.op, .int .i64 t.va, .int .i64 t.vb, .int .i64 t.dm, .string t.nm, .slice xa t.cnt xc]) ?_ rfl ⟨t, _, rfl, kidsB_put6 K2.out (fun q hq => by simp at hq; exact ⟨by omega, by omega⟩) _ _ _ _ _ _, valid_size HT.out.1, rel_six R2.out (Nat.le_refl _) _ _ _ _ _ _, HT.out⟩
  simp [results, Tryz.results19, go_sem, g0, g1, g2, g3, g4, g5]
end Go.Proofs.YtkghmghjgikihaaGreatDoor

/- Bundle of texts: each says at its head what it proves; no conditions but those printed. -/
import Derived.Test.YtkghmghjgikihaaGreatDoorTB26
/- Contract of expr (the maker of trees by the rules of the table) where it must be a leaf, and at Bool. No conditions but those printed. -/
namespace Go.Proofs.YtkghmghjgikihaaGreatDoor
open Go.RowKit Cal Str Tok Frac Txt Tree
attribute [local go_sem] calmUpon
set_option linter.unusedVariables false
set_option linter.unusedSimpArgs false
theorem erK_all0 {f : Nat → Int} {n : Nat} (h : ∀ i, i < n → f i = 0) : erK f n = 0 := by
 induction n with
 | zero => rfl
 | succ n ih => simp only [erK]; rw [ih (fun i hi => h i (by omega)), if_pos rfl]; exact h n (by omega)
theorem node_inf {nm : Nat → ByteArray} {dm : Nat → Int} {k M : Nat} {op dim : Int} {ds : Nat → Int} {kid : Nat → Ex} (h4 : 4 ≤ op) (hk : ∀ i, i < M → (kid i).inf nm dm k = (ds i, 0)) (hr : ∀ E : Nat → Int, (∀ i, i < M → E i = ds i) → resI op E = dim) (hd : ¬ dim = 0) :
  (Ex.mk op 0 0 0 ⟨#[]⟩ M kid).inf nm dm k = (dim, 0) := by
 rw [inf_mk, if_neg (by omega), if_neg (by omega), if_neg (by omega), opD_ok (erK_all0 (fun i hi => by rw [hk i hi])), hr _ (fun i hi => by rw [hk i hi]), if_neg hd]
theorem node_inf' {nm : Nat → ByteArray} {dm : Nat → Int} {k M : Nat} {op dim : Int} {ds : Nat → Int} {t : Ex} (h : ∃ kid, t = .mk op 0 0 0 ⟨#[]⟩ M kid ∧ ∀ i, i < M → (kid i).inf nm dm k = (ds i, 0)) (h4 : 4 ≤ op) (hr : ∀ E : Nat → Int, (∀ i, i < M → E i = ds i) → resI op E = dim) (hd : ¬ dim = 0) : t.inf nm dm k = (dim, 0) := by
 obtain ⟨kid, rfl, hk⟩ := h
 exact node_inf h4 hk hr hd
theorem ds_bd {l : List Int} {M : Nat} (hl : l.length = M) (h : ∀ x ∈ l, 1 ≤ x ∧ x ≤ 4) : ∀ i, i < M → 1 ≤ l.getD i 0 ∧ l.getD i 0 ≤ 4 := fun i hi => by
 have : l.getD i 0 = l[i]'(by omega) := by simp [List.getD, show i < l.length by omega]
 rw [this]; exact h _ (List.getElem_mem _)
theorem ds_cells {w : World} {l : List Int} {M g : Nat} {T : TypeId} (hl : l.length = M) (hg : g = w.heap.size) : ∀ i, i < M → (w.alloc (.cells (l.map (Value.int .i64)).toArray T)).cell? ⟨g, i, none⟩ = some (.int .i64 (l.getD i 0)) := fun i hi => by
 subst hg
 have h1 : l.getD i 0 = l[i]'(by omega) := by simp [List.getD, show i < l.length by omega]
 rw [h1]; simp [show i < l.length by omega]
set_option maxRecDepth 20000 in
set_option maxHeartbeats 16000000 in
theorem expr_leaf (b : Nat) (la : Option Addr) (ln lc : Nat) (d F G : Int) (ea : Option Addr) (ke ecap : Nat) (nm : Nat → ByteArray) (dm : Nat → Int) (hN : EnvG nm dm ke) (hd1 : 1 ≤ d) (hd6 : d ≤ 6) (hF : 3 ≤ F) (hF2 : F ≤ 2000000) (hG : d < 6 → 3 ≤ G ∧ F = 5 * G)
  (IH : d < 6 → ∀ dim, 1 ≤ dim ∧ dim ≤ 4 → ∀ (at' left : Int) (w : World), Src w b la ln lc at' left → EnvB w b ke nm dm ea → at' + 10 * G ≤ 3000000000000000000 → Calls Tryz.prog 47 #[.pointer (some ⟨b, 0, none⟩), .int .i64 dim, .int .i64 (d + 1), .slice ea ke ecap] w (MkRes b la ln lc (at' + 10 * G) G (fun t => t.inf nm dm ke = (dim, 0)) w))
  (dim : Int) (hdim : 1 ≤ dim ∧ dim ≤ 4) (at' left : Int) (w : World) (hS : Src w b la ln lc at' left) (hE : EnvB w b ke nm dm ea) (ha : at' + 10 * F ≤ 3000000000000000000) (hq : 6 ≤ d ∨ left ≤ 0) :
  Calls Tryz.prog 47 #[.pointer (some ⟨b, 0, none⟩), .int .i64 dim, .int .i64 d, .slice ea ke ecap] w (MkRes b la ln lc (at' + 10 * F) F (fun t => t.inf nm dm ke = (dim, 0)) w) := by
 unfold MkRes
 have HS := Lib.hid hS
 have HE := Lib.hid hE
 have hlt := hS.lt
 have a0 := hS.at0
 have c2 := hS.c2
 have f2 := hS.f2
 have l0 := hS.l0
 have l1 := hS.l1
 have hke := hE.le
 have hbw : w.heap.size ≠ b := by omega
 clear hS hE
 have S0 := Lib.hid (HS.out.rel ((Rel.refl _).alloc (.cells #[.int .i64 0, .int .i64 0, .int .i64 0, .int .i64 0, .string ⟨#[]⟩, .slice none 0 0] 29)))
 have R0 := Lib.hid ((Ro.refl b w).alloc (.cells #[.int .i64 0, .int .i64 0, .int .i64 0, .int .i64 0, .string ⟨#[]⟩, .slice none 0 0] 29))
 clear hG IH
 by_cases q : 6 ≤ d
 ·have e1 : decide (6 ≤ d) = true := decide_eq_true q
  go_enter Tryz.func47, Tryz.ntmps47
  go_wp2_with fail
  refine (leaf_any b la ln lc (at') left dim ea ke ecap nm dm _ hN S0.out (HE.out.ro R0.out) (by omega) (by omega)).mono ?_
  unfold MkRes
  rintro e w9 ⟨t, x, at2, left2, rfl, hK, hz, hat, hS9, h9, hPR⟩
  have hinf := hPR.2

  obtain ⟨xa, xc, rfl⟩ := kids_slice (kidsB_to hK)
  have S9 := Lib.hid hS9
  have R9 := Lib.hid ((R0.out).trans h9)
  have HK := Lib.hid hK
  have q := keepr6 h9 (b := w.heap.size) (by first | (simp; done) | (simp; omega) | omega) (by first | (simp; done) | (simp; omega) | omega)
  have kc9_0_0 := q.1
  have kc9_0_1 := q.2.1
  have kc9_0_2 := q.2.2.1
  have kc9_0_3 := q.2.2.2.1
  have kc9_0_4 := q.2.2.2.2.1
  have kc9_0_5 := q.2.2.2.2.2.1
  have kf9_0_0 := q.2.2.2.2.2.2.1
  have kf9_0_1 := q.2.2.2.2.2.2.2.1
  have kf9_0_2 := q.2.2.2.2.2.2.2.2.1
  have kf9_0_3 := q.2.2.2.2.2.2.2.2.2.1
  have kf9_0_4 := q.2.2.2.2.2.2.2.2.2.2.1
  have kf9_0_5 := q.2.2.2.2.2.2.2.2.2.2.2.1
  have kl9_0 := q.2.2.2.2.2.2.2.2.2.2.2.2.1
  have kn9_0 := q.2.2.2.2.2.2.2.2.2.2.2.2.2.1
  have km9_0 := q.2.2.2.2.2.2.2.2.2.2.2.2.2.2
  clear q
  have kz9 := h9.size
  (try simp only [World.size_alloc, World.size_setCell, World.size_drew] at kz9)
  have H9 := Lib.hid h9
  clear h9

  clear hS9 hK
  ((try simp only []); (repeat (first | go_values | go_skip | go_guarded | go_step | go_upon | go_in)))
  have hp := put6 S9.out HS.out.nums R9.out (Nat.le_refl w.heap.size) hbw (.int .i64 t.op) (.int .i64 t.va) (.int .i64 t.vb) (.int .i64 t.dm) (.string t.nm) (.slice xa t.cnt xc)
  have g0 : ((((((w9.setCell ⟨w.heap.size, 0, none⟩ (.int .i64 t.op)).setCell ⟨w.heap.size, 1, none⟩ (.int .i64 t.va)).setCell ⟨w.heap.size, 2, none⟩ (.int .i64 t.vb)).setCell ⟨w.heap.size, 3, none⟩ (.int .i64 t.dm)).setCell ⟨w.heap.size, 4, none⟩ (.string t.nm)).setCell ⟨w.heap.size, 5, none⟩ (.slice xa t.cnt xc)).cell? ⟨w.heap.size, 0, none⟩ = some (.int .i64 t.op) := by go_simp
  have g1 : ((((((w9.setCell ⟨w.heap.size, 0, none⟩ (.int .i64 t.op)).setCell ⟨w.heap.size, 1, none⟩ (.int .i64 t.va)).setCell ⟨w.heap.size, 2, none⟩ (.int .i64 t.vb)).setCell ⟨w.heap.size, 3, none⟩ (.int .i64 t.dm)).setCell ⟨w.heap.size, 4, none⟩ (.string t.nm)).setCell ⟨w.heap.size, 5, none⟩ (.slice xa t.cnt xc)).cell? ⟨w.heap.size, 1, none⟩ = some (.int .i64 t.va) := by go_simp
  have g2 : ((((((w9.setCell ⟨w.heap.size, 0, none⟩ (.int .i64 t.op)).setCell ⟨w.heap.size, 1, none⟩ (.int .i64 t.va)).setCell ⟨w.heap.size, 2, none⟩ (.int .i64 t.vb)).setCell ⟨w.heap.size, 3, none⟩ (.int .i64 t.dm)).setCell ⟨w.heap.size, 4, none⟩ (.string t.nm)).setCell ⟨w.heap.size, 5, none⟩ (.slice xa t.cnt xc)).cell? ⟨w.heap.size, 2, none⟩ = some (.int .i64 t.vb) := by go_simp
  have g3 : ((((((w9.setCell ⟨w.heap.size, 0, none⟩ (.int .i64 t.op)).setCell ⟨w.heap.size, 1, none⟩ (.int .i64 t.va)).setCell ⟨w.heap.size, 2, none⟩ (.int .i64 t.vb)).setCell ⟨w.heap.size, 3, none⟩ (.int .i64 t.dm)).setCell ⟨w.heap.size, 4, none⟩ (.string t.nm)).setCell ⟨w.heap.size, 5, none⟩ (.slice xa t.cnt xc)).cell? ⟨w.heap.size, 3, none⟩ = some (.int .i64 t.dm) := by go_simp
  have g4 : ((((((w9.setCell ⟨w.heap.size, 0, none⟩ (.int .i64 t.op)).setCell ⟨w.heap.size, 1, none⟩ (.int .i64 t.va)).setCell ⟨w.heap.size, 2, none⟩ (.int .i64 t.vb)).setCell ⟨w.heap.size, 3, none⟩ (.int .i64 t.dm)).setCell ⟨w.heap.size, 4, none⟩ (.string t.nm)).setCell ⟨w.heap.size, 5, none⟩ (.slice xa t.cnt xc)).cell? ⟨w.heap.size, 4, none⟩ = some (.string t.nm) := by go_simp
  have g5 : ((((((w9.setCell ⟨w.heap.size, 0, none⟩ (.int .i64 t.op)).setCell ⟨w.heap.size, 1, none⟩ (.int .i64 t.va)).setCell ⟨w.heap.size, 2, none⟩ (.int .i64 t.vb)).setCell ⟨w.heap.size, 3, none⟩ (.int .i64 t.dm)).setCell ⟨w.heap.size, 4, none⟩ (.string t.nm)).setCell ⟨w.heap.size, 5, none⟩ (.slice xa t.cnt xc)).cell? ⟨w.heap.size, 5, none⟩ = some (.slice xa t.cnt xc) := by go_simp
  refine bodyPost_ret (v := .agg #[.int .i64 t.op, .int .i64 t.va, .int .i64 t.vb, .int .i64 t.dm, .string t.nm, .slice xa t.cnt xc]) ?_ rfl ⟨t, _, _, _, rfl, kidsB_put6 HK.out (fun q hq => by (try simp at hq); exact ⟨by omega, by omega⟩) _ _ _ _ _ _, (by omega), (by omega), hp.1, hp.2, hinf⟩
  simp [results, Tryz.results47, go_sem, g0, g1, g2, g3, g4, g5]
 ·have e1 : decide (6 ≤ d) = false := decide_eq_false q
  have e2 : decide (left ≤ 0) = true := decide_eq_true (by omega)
  go_enter Tryz.func47, Tryz.ntmps47
  go_wp2_with fail
  refine (leaf_any b la ln lc (at') left dim ea ke ecap nm dm _ hN S0.out (HE.out.ro R0.out) (by omega) (by omega)).mono ?_
  unfold MkRes
  rintro e w9 ⟨t, x, at2, left2, rfl, hK, hz, hat, hS9, h9, hPR⟩
  have hinf := hPR.2

  obtain ⟨xa, xc, rfl⟩ := kids_slice (kidsB_to hK)
  have S9 := Lib.hid hS9
  have R9 := Lib.hid ((R0.out).trans h9)
  have HK := Lib.hid hK
  have q := keepr6 h9 (b := w.heap.size) (by first | (simp; done) | (simp; omega) | omega) (by first | (simp; done) | (simp; omega) | omega)
  have kc9_0_0 := q.1
  have kc9_0_1 := q.2.1
  have kc9_0_2 := q.2.2.1
  have kc9_0_3 := q.2.2.2.1
  have kc9_0_4 := q.2.2.2.2.1
  have kc9_0_5 := q.2.2.2.2.2.1
  have kf9_0_0 := q.2.2.2.2.2.2.1
  have kf9_0_1 := q.2.2.2.2.2.2.2.1
  have kf9_0_2 := q.2.2.2.2.2.2.2.2.1
  have kf9_0_3 := q.2.2.2.2.2.2.2.2.2.1
  have kf9_0_4 := q.2.2.2.2.2.2.2.2.2.2.1
  have kf9_0_5 := q.2.2.2.2.2.2.2.2.2.2.2.1
  have kl9_0 := q.2.2.2.2.2.2.2.2.2.2.2.2.1
  have kn9_0 := q.2.2.2.2.2.2.2.2.2.2.2.2.2.1
  have km9_0 := q.2.2.2.2.2.2.2.2.2.2.2.2.2.2
  clear q
  have kz9 := h9.size
  (try simp only [World.size_alloc, World.size_setCell, World.size_drew] at kz9)
  have H9 := Lib.hid h9
  clear h9

  clear hS9 hK
  ((try simp only []); (repeat (first | go_values | go_skip | go_guarded | go_step | go_upon | go_in)))
  have hp := put6 S9.out HS.out.nums R9.out (Nat.le_refl w.heap.size) hbw (.int .i64 t.op) (.int .i64 t.va) (.int .i64 t.vb) (.int .i64 t.dm) (.string t.nm) (.slice xa t.cnt xc)
  have g0 : ((((((w9.setCell ⟨w.heap.size, 0, none⟩ (.int .i64 t.op)).setCell ⟨w.heap.size, 1, none⟩ (.int .i64 t.va)).setCell ⟨w.heap.size, 2, none⟩ (.int .i64 t.vb)).setCell ⟨w.heap.size, 3, none⟩ (.int .i64 t.dm)).setCell ⟨w.heap.size, 4, none⟩ (.string t.nm)).setCell ⟨w.heap.size, 5, none⟩ (.slice xa t.cnt xc)).cell? ⟨w.heap.size, 0, none⟩ = some (.int .i64 t.op) := by go_simp
  have g1 : ((((((w9.setCell ⟨w.heap.size, 0, none⟩ (.int .i64 t.op)).setCell ⟨w.heap.size, 1, none⟩ (.int .i64 t.va)).setCell ⟨w.heap.size, 2, none⟩ (.int .i64 t.vb)).setCell ⟨w.heap.size, 3, none⟩ (.int .i64 t.dm)).setCell ⟨w.heap.size, 4, none⟩ (.string t.nm)).setCell ⟨w.heap.size, 5, none⟩ (.slice xa t.cnt xc)).cell? ⟨w.heap.size, 1, none⟩ = some (.int .i64 t.va) := by go_simp
  have g2 : ((((((w9.setCell ⟨w.heap.size, 0, none⟩ (.int .i64 t.op)).setCell ⟨w.heap.size, 1, none⟩ (.int .i64 t.va)).setCell ⟨w.heap.size, 2, none⟩ (.int .i64 t.vb)).setCell ⟨w.heap.size, 3, none⟩ (.int .i64 t.dm)).setCell ⟨w.heap.size, 4, none⟩ (.string t.nm)).setCell ⟨w.heap.size, 5, none⟩ (.slice xa t.cnt xc)).cell? ⟨w.heap.size, 2, none⟩ = some (.int .i64 t.vb) := by go_simp
  have g3 : ((((((w9.setCell ⟨w.heap.size, 0, none⟩ (.int .i64 t.op)).setCell ⟨w.heap.size, 1, none⟩ (.int .i64 t.va)).setCell ⟨w.heap.size, 2, none⟩ (.int .i64 t.vb)).setCell ⟨w.heap.size, 3, none⟩ (.int .i64 t.dm)).setCell ⟨w.heap.size, 4, none⟩ (.string t.nm)).setCell ⟨w.heap.size, 5, none⟩ (.slice xa t.cnt xc)).cell? ⟨w.heap.size, 3, none⟩ = some (.int .i64 t.dm) := by go_simp
  have g4 : ((((((w9.setCell ⟨w.heap.size, 0, none⟩ (.int .i64 t.op)).setCell ⟨w.heap.size, 1, none⟩ (.int .i64 t.va)).setCell ⟨w.heap.size, 2, none⟩ (.int .i64 t.vb)).setCell ⟨w.heap.size, 3, none⟩ (.int .i64 t.dm)).setCell ⟨w.heap.size, 4, none⟩ (.string t.nm)).setCell ⟨w.heap.size, 5, none⟩ (.slice xa t.cnt xc)).cell? ⟨w.heap.size, 4, none⟩ = some (.string t.nm) := by go_simp
  have g5 : ((((((w9.setCell ⟨w.heap.size, 0, none⟩ (.int .i64 t.op)).setCell ⟨w.heap.size, 1, none⟩ (.int .i64 t.va)).setCell ⟨w.heap.size, 2, none⟩ (.int .i64 t.vb)).setCell ⟨w.heap.size, 3, none⟩ (.int .i64 t.dm)).setCell ⟨w.heap.size, 4, none⟩ (.string t.nm)).setCell ⟨w.heap.size, 5, none⟩ (.slice xa t.cnt xc)).cell? ⟨w.heap.size, 5, none⟩ = some (.slice xa t.cnt xc) := by go_simp
  refine bodyPost_ret (v := .agg #[.int .i64 t.op, .int .i64 t.va, .int .i64 t.vb, .int .i64 t.dm, .string t.nm, .slice xa t.cnt xc]) ?_ rfl ⟨t, _, _, _, rfl, kidsB_put6 HK.out (fun q hq => by (try simp at hq); exact ⟨by omega, by omega⟩) _ _ _ _ _ _, (by omega), (by omega), hp.1, hp.2, hinf⟩
  simp [results, Tryz.results47, go_sem, g0, g1, g2, g3, g4, g5]
set_option maxRecDepth 20000 in
set_option maxHeartbeats 16000000 in
theorem expr_bool (b : Nat) (la : Option Addr) (ln lc : Nat) (d F G : Int) (ea : Option Addr) (ke ecap : Nat) (nm : Nat → ByteArray) (dm : Nat → Int) (hN : EnvG nm dm ke) (hd1 : 1 ≤ d) (hd6 : d ≤ 6) (hF : 3 ≤ F) (hF2 : F ≤ 2000000) (hG : d < 6 → 3 ≤ G ∧ F = 5 * G)
  (IH : d < 6 → ∀ dim, 1 ≤ dim ∧ dim ≤ 4 → ∀ (at' left : Int) (w : World), Src w b la ln lc at' left → EnvB w b ke nm dm ea → at' + 10 * G ≤ 3000000000000000000 → Calls Tryz.prog 47 #[.pointer (some ⟨b, 0, none⟩), .int .i64 dim, .int .i64 (d + 1), .slice ea ke ecap] w (MkRes b la ln lc (at' + 10 * G) G (fun t => t.inf nm dm ke = (dim, 0)) w))
  (dim : Int) (hdim : dim = 1) (at' left : Int) (w : World) (hS : Src w b la ln lc at' left) (hE : EnvB w b ke nm dm ea) (ha : at' + 10 * F ≤ 3000000000000000000) (hq : d < 6 ∧ 0 < left) :
  Calls Tryz.prog 47 #[.pointer (some ⟨b, 0, none⟩), .int .i64 dim, .int .i64 d, .slice ea ke ecap] w (MkRes b la ln lc (at' + 10 * F) F (fun t => t.inf nm dm ke = (dim, 0)) w) := by
 unfold MkRes
 subst hdim
 have HS := Lib.hid hS
 have HE := Lib.hid hE
 have hlt := hS.lt
 have a0 := hS.at0
 have c2 := hS.c2
 have f2 := hS.f2
 have l0 := hS.l0
 have l1 := hS.l1
 have hke := hE.le
 have hbw : w.heap.size ≠ b := by omega
 clear hS hE
 have HG := Lib.hid hG
 have HI := Lib.hid IH
 clear hG IH
 obtain ⟨q2, q3⟩ := hq
 have e1 : decide (6 ≤ d) = false := decide_eq_false (by omega)
 have e2 : decide (left ≤ 0) = false := decide_eq_false (by omega)
 go_enter Tryz.func47, Tryz.ntmps47
 go_wp2_with fail
 have hL0 : -9223372036854775808 ≤ left - 2 := by omega
 have hL1 : left - 2 ≤ 9223372036854775807 := by omega
 obtain ⟨L, hL⟩ : ∃ L, left - 2 = L := ⟨_, rfl⟩
 rw [hL] at hL0 hL1 ⊢
 have S0 := Lib.hid ((HS.out.setLeft L hL0 hL1).rel ((Rel.refl _).alloc (.cells #[.int .i64 0, .int .i64 0, .int .i64 0, .int .i64 0, .string ⟨#[]⟩, .slice none 0 0] 29)))
 have R0 := Lib.hid ((((Ro.refl b w).set 2 (.int .i64 L))).alloc (.cells #[.int .i64 0, .int .i64 0, .int .i64 0, .int .i64 0, .string ⟨#[]⟩, .slice none 0 0] 29))
 clear hL
 have g3 : 15 ≤ F := by have := HG.out q2; omega
 refine (next_any b la ln lc at' L 14 _ S0.out (by omega) (by decide) (by decide)).mono ?_
 rintro e w1 ⟨v, rfl, v0, v1, hS1, h1⟩
 have S1 := Lib.hid hS1
 have R1 := Lib.hid (R0.out.trans h1)
 clear hS1
 have q := keepr6 h1 (b := w.heap.size) (by first | (simp; done) | (simp; omega) | omega) (by first | (simp; done) | (simp; omega) | omega)
 have kc1_0_0 := q.1
 have kc1_0_1 := q.2.1
 have kc1_0_2 := q.2.2.1
 have kc1_0_3 := q.2.2.2.1
 have kc1_0_4 := q.2.2.2.2.1
 have kc1_0_5 := q.2.2.2.2.2.1
 have kf1_0_0 := q.2.2.2.2.2.2.1
 have kf1_0_1 := q.2.2.2.2.2.2.2.1
 have kf1_0_2 := q.2.2.2.2.2.2.2.2.1
 have kf1_0_3 := q.2.2.2.2.2.2.2.2.2.1
 have kf1_0_4 := q.2.2.2.2.2.2.2.2.2.2.1
 have kf1_0_5 := q.2.2.2.2.2.2.2.2.2.2.2.1
 have kl1_0 := q.2.2.2.2.2.2.2.2.2.2.2.2.1
 have kn1_0 := q.2.2.2.2.2.2.2.2.2.2.2.2.2.1
 have km1_0 := q.2.2.2.2.2.2.2.2.2.2.2.2.2.2
 clear q
 have kz1 := h1.size
 (try simp only [World.size_alloc, World.size_setCell, World.size_drew] at kz1)
 have H1 := Lib.hid h1
 clear h1
 rcases (show v = 0 ∨ v = 1 ∨ v = 2 ∨ v = 3 ∨ v = 4 ∨ v = 5 ∨ v = 6 ∨ v = 7 ∨ v = 8 ∨ v = 9 ∨ v = 10 ∨ v = 11 ∨ v = 12 ∨ v = 13 by omega) with rfl | rfl | rfl | rfl | rfl | rfl | rfl | rfl | rfl | rfl | rfl | rfl | rfl | rfl
 ·skip
  obtain ⟨hG3, hF5⟩ := HG.out q2
  have IQ := Lib.hid (HI.out q2)
  go_wp2_with fail
  refine (mknode_any b la ln lc 17 d 2 (fun i => ([1, 1] : List Int).getD i 0) G (fun dm' t => t.inf nm dm ke = (dm', 0)) ea ke ecap nm dm (fun i hi at2 left2 w2 hS2 hE2 ha2 => IQ.out _ (ds_bd (l := [1, 1]) rfl (by first | (simp; done) | (simp; omega)) i hi) at2 left2 w2 hS2 hE2 ha2) (at' + 1) L _ (S1.out.rel ((Rel.refl _).alloc _)) (HE.out.ro ((R1.out).alloc _)) w1.heap.size 2 (by simp) (by have := S1.out.lt; (try simp at this); omega) (ds_cells (l := [1, 1]) rfl rfl) (by decide) (by decide) (by omega) (by omega) (by omega) (by omega) (by omega) (by omega) (by omega)).mono ?_
  unfold MkRes
  rintro e w9 ⟨t, x, at2, left2, rfl, hK, hz, hat, hS9, h9, hPR⟩
  have hinf : t.inf nm dm ke = (1, 0) := node_inf' hPR (by omega) (fun E h => by
   have h0 := h 0 (by decide)
   have h1 := h 1 (by decide)
   simp at h0 h1
   unfold resI
   repeat' split
   all_goals omega) (by omega)

  obtain ⟨xa, xc, rfl⟩ := kids_slice (kidsB_to hK)
  have S9 := Lib.hid hS9
  have R9 := Lib.hid (((R1.out).alloc _).trans h9)
  have HK := Lib.hid hK
  have q := keepr6 h9 (b := w.heap.size) (by first | (simp; done) | (simp; omega) | omega) (by first | (simp; done) | (simp; omega) | omega)
  have kc9_0_0 := q.1
  have kc9_0_1 := q.2.1
  have kc9_0_2 := q.2.2.1
  have kc9_0_3 := q.2.2.2.1
  have kc9_0_4 := q.2.2.2.2.1
  have kc9_0_5 := q.2.2.2.2.2.1
  have kf9_0_0 := q.2.2.2.2.2.2.1
  have kf9_0_1 := q.2.2.2.2.2.2.2.1
  have kf9_0_2 := q.2.2.2.2.2.2.2.2.1
  have kf9_0_3 := q.2.2.2.2.2.2.2.2.2.1
  have kf9_0_4 := q.2.2.2.2.2.2.2.2.2.2.1
  have kf9_0_5 := q.2.2.2.2.2.2.2.2.2.2.2.1
  have kl9_0 := q.2.2.2.2.2.2.2.2.2.2.2.2.1
  have kn9_0 := q.2.2.2.2.2.2.2.2.2.2.2.2.2.1
  have km9_0 := q.2.2.2.2.2.2.2.2.2.2.2.2.2.2
  clear q
  have kz9 := h9.size
  (try simp only [World.size_alloc, World.size_setCell, World.size_drew] at kz9)
  have H9 := Lib.hid h9
  clear h9

  clear hS9 hK
  ((try simp only []); (repeat (first | go_values | go_skip | go_guarded | go_step | go_upon | go_in)))
  have hp := put6 S9.out HS.out.nums R9.out (Nat.le_refl w.heap.size) hbw (.int .i64 t.op) (.int .i64 t.va) (.int .i64 t.vb) (.int .i64 t.dm) (.string t.nm) (.slice xa t.cnt xc)
  have g0 : ((((((w9.setCell ⟨w.heap.size, 0, none⟩ (.int .i64 t.op)).setCell ⟨w.heap.size, 1, none⟩ (.int .i64 t.va)).setCell ⟨w.heap.size, 2, none⟩ (.int .i64 t.vb)).setCell ⟨w.heap.size, 3, none⟩ (.int .i64 t.dm)).setCell ⟨w.heap.size, 4, none⟩ (.string t.nm)).setCell ⟨w.heap.size, 5, none⟩ (.slice xa t.cnt xc)).cell? ⟨w.heap.size, 0, none⟩ = some (.int .i64 t.op) := by go_simp
  have g1 : ((((((w9.setCell ⟨w.heap.size, 0, none⟩ (.int .i64 t.op)).setCell ⟨w.heap.size, 1, none⟩ (.int .i64 t.va)).setCell ⟨w.heap.size, 2, none⟩ (.int .i64 t.vb)).setCell ⟨w.heap.size, 3, none⟩ (.int .i64 t.dm)).setCell ⟨w.heap.size, 4, none⟩ (.string t.nm)).setCell ⟨w.heap.size, 5, none⟩ (.slice xa t.cnt xc)).cell? ⟨w.heap.size, 1, none⟩ = some (.int .i64 t.va) := by go_simp
  have g2 : ((((((w9.setCell ⟨w.heap.size, 0, none⟩ (.int .i64 t.op)).setCell ⟨w.heap.size, 1, none⟩ (.int .i64 t.va)).setCell ⟨w.heap.size, 2, none⟩ (.int .i64 t.vb)).setCell ⟨w.heap.size, 3, none⟩ (.int .i64 t.dm)).setCell ⟨w.heap.size, 4, none⟩ (.string t.nm)).setCell ⟨w.heap.size, 5, none⟩ (.slice xa t.cnt xc)).cell? ⟨w.heap.size, 2, none⟩ = some (.int .i64 t.vb) := by go_simp
  have g3 : ((((((w9.setCell ⟨w.heap.size, 0, none⟩ (.int .i64 t.op)).setCell ⟨w.heap.size, 1, none⟩ (.int .i64 t.va)).setCell ⟨w.heap.size, 2, none⟩ (.int .i64 t.vb)).setCell ⟨w.heap.size, 3, none⟩ (.int .i64 t.dm)).setCell ⟨w.heap.size, 4, none⟩ (.string t.nm)).setCell ⟨w.heap.size, 5, none⟩ (.slice xa t.cnt xc)).cell? ⟨w.heap.size, 3, none⟩ = some (.int .i64 t.dm) := by go_simp
  have g4 : ((((((w9.setCell ⟨w.heap.size, 0, none⟩ (.int .i64 t.op)).setCell ⟨w.heap.size, 1, none⟩ (.int .i64 t.va)).setCell ⟨w.heap.size, 2, none⟩ (.int .i64 t.vb)).setCell ⟨w.heap.size, 3, none⟩ (.int .i64 t.dm)).setCell ⟨w.heap.size, 4, none⟩ (.string t.nm)).setCell ⟨w.heap.size, 5, none⟩ (.slice xa t.cnt xc)).cell? ⟨w.heap.size, 4, none⟩ = some (.string t.nm) := by go_simp
  have g5 : ((((((w9.setCell ⟨w.heap.size, 0, none⟩ (.int .i64 t.op)).setCell ⟨w.heap.size, 1, none⟩ (.int .i64 t.va)).setCell ⟨w.heap.size, 2, none⟩ (.int .i64 t.vb)).setCell ⟨w.heap.size, 3, none⟩ (.int .i64 t.dm)).setCell ⟨w.heap.size, 4, none⟩ (.string t.nm)).setCell ⟨w.heap.size, 5, none⟩ (.slice xa t.cnt xc)).cell? ⟨w.heap.size, 5, none⟩ = some (.slice xa t.cnt xc) := by go_simp
  refine bodyPost_ret (v := .agg #[.int .i64 t.op, .int .i64 t.va, .int .i64 t.vb, .int .i64 t.dm, .string t.nm, .slice xa t.cnt xc]) ?_ rfl ⟨t, _, _, _, rfl, kidsB_put6 HK.out (fun q hq => by (try simp at hq); exact ⟨by omega, by omega⟩) _ _ _ _ _ _, (by omega), (by omega), hp.1, hp.2, hinf⟩
  simp [results, Tryz.results47, go_sem, g0, g1, g2, g3, g4, g5]
 ·skip
  obtain ⟨hG3, hF5⟩ := HG.out q2
  have IQ := Lib.hid (HI.out q2)
  go_wp2_with fail
  refine (mknode_any b la ln lc 18 d 2 (fun i => ([1, 1] : List Int).getD i 0) G (fun dm' t => t.inf nm dm ke = (dm', 0)) ea ke ecap nm dm (fun i hi at2 left2 w2 hS2 hE2 ha2 => IQ.out _ (ds_bd (l := [1, 1]) rfl (by first | (simp; done) | (simp; omega)) i hi) at2 left2 w2 hS2 hE2 ha2) (at' + 1) L _ (S1.out.rel ((Rel.refl _).alloc _)) (HE.out.ro ((R1.out).alloc _)) w1.heap.size 2 (by simp) (by have := S1.out.lt; (try simp at this); omega) (ds_cells (l := [1, 1]) rfl rfl) (by decide) (by decide) (by omega) (by omega) (by omega) (by omega) (by omega) (by omega) (by omega)).mono ?_
  unfold MkRes
  rintro e w9 ⟨t, x, at2, left2, rfl, hK, hz, hat, hS9, h9, hPR⟩
  have hinf : t.inf nm dm ke = (1, 0) := node_inf' hPR (by omega) (fun E h => by
   have h0 := h 0 (by decide)
   have h1 := h 1 (by decide)
   simp at h0 h1
   unfold resI
   repeat' split
   all_goals omega) (by omega)

  obtain ⟨xa, xc, rfl⟩ := kids_slice (kidsB_to hK)
  have S9 := Lib.hid hS9
  have R9 := Lib.hid (((R1.out).alloc _).trans h9)
  have HK := Lib.hid hK
  have q := keepr6 h9 (b := w.heap.size) (by first | (simp; done) | (simp; omega) | omega) (by first | (simp; done) | (simp; omega) | omega)
  have kc9_0_0 := q.1
  have kc9_0_1 := q.2.1
  have kc9_0_2 := q.2.2.1
  have kc9_0_3 := q.2.2.2.1
  have kc9_0_4 := q.2.2.2.2.1
  have kc9_0_5 := q.2.2.2.2.2.1
  have kf9_0_0 := q.2.2.2.2.2.2.1
  have kf9_0_1 := q.2.2.2.2.2.2.2.1
  have kf9_0_2 := q.2.2.2.2.2.2.2.2.1
  have kf9_0_3 := q.2.2.2.2.2.2.2.2.2.1
  have kf9_0_4 := q.2.2.2.2.2.2.2.2.2.2.1
  have kf9_0_5 := q.2.2.2.2.2.2.2.2.2.2.2.1
  have kl9_0 := q.2.2.2.2.2.2.2.2.2.2.2.2.1
  have kn9_0 := q.2.2.2.2.2.2.2.2.2.2.2.2.2.1
  have km9_0 := q.2.2.2.2.2.2.2.2.2.2.2.2.2.2
  clear q
  have kz9 := h9.size
  (try simp only [World.size_alloc, World.size_setCell, World.size_drew] at kz9)
  have H9 := Lib.hid h9
  clear h9

  clear hS9 hK
  ((try simp only []); (repeat (first | go_values | go_skip | go_guarded | go_step | go_upon | go_in)))
  have hp := put6 S9.out HS.out.nums R9.out (Nat.le_refl w.heap.size) hbw (.int .i64 t.op) (.int .i64 t.va) (.int .i64 t.vb) (.int .i64 t.dm) (.string t.nm) (.slice xa t.cnt xc)
  have g0 : ((((((w9.setCell ⟨w.heap.size, 0, none⟩ (.int .i64 t.op)).setCell ⟨w.heap.size, 1, none⟩ (.int .i64 t.va)).setCell ⟨w.heap.size, 2, none⟩ (.int .i64 t.vb)).setCell ⟨w.heap.size, 3, none⟩ (.int .i64 t.dm)).setCell ⟨w.heap.size, 4, none⟩ (.string t.nm)).setCell ⟨w.heap.size, 5, none⟩ (.slice xa t.cnt xc)).cell? ⟨w.heap.size, 0, none⟩ = some (.int .i64 t.op) := by go_simp
  have g1 : ((((((w9.setCell ⟨w.heap.size, 0, none⟩ (.int .i64 t.op)).setCell ⟨w.heap.size, 1, none⟩ (.int .i64 t.va)).setCell ⟨w.heap.size, 2, none⟩ (.int .i64 t.vb)).setCell ⟨w.heap.size, 3, none⟩ (.int .i64 t.dm)).setCell ⟨w.heap.size, 4, none⟩ (.string t.nm)).setCell ⟨w.heap.size, 5, none⟩ (.slice xa t.cnt xc)).cell? ⟨w.heap.size, 1, none⟩ = some (.int .i64 t.va) := by go_simp
  have g2 : ((((((w9.setCell ⟨w.heap.size, 0, none⟩ (.int .i64 t.op)).setCell ⟨w.heap.size, 1, none⟩ (.int .i64 t.va)).setCell ⟨w.heap.size, 2, none⟩ (.int .i64 t.vb)).setCell ⟨w.heap.size, 3, none⟩ (.int .i64 t.dm)).setCell ⟨w.heap.size, 4, none⟩ (.string t.nm)).setCell ⟨w.heap.size, 5, none⟩ (.slice xa t.cnt xc)).cell? ⟨w.heap.size, 2, none⟩ = some (.int .i64 t.vb) := by go_simp
  have g3 : ((((((w9.setCell ⟨w.heap.size, 0, none⟩ (.int .i64 t.op)).setCell ⟨w.heap.size, 1, none⟩ (.int .i64 t.va)).setCell ⟨w.heap.size, 2, none⟩ (.int .i64 t.vb)).setCell ⟨w.heap.size, 3, none⟩ (.int .i64 t.dm)).setCell ⟨w.heap.size, 4, none⟩ (.string t.nm)).setCell ⟨w.heap.size, 5, none⟩ (.slice xa t.cnt xc)).cell? ⟨w.heap.size, 3, none⟩ = some (.int .i64 t.dm) := by go_simp
  have g4 : ((((((w9.setCell ⟨w.heap.size, 0, none⟩ (.int .i64 t.op)).setCell ⟨w.heap.size, 1, none⟩ (.int .i64 t.va)).setCell ⟨w.heap.size, 2, none⟩ (.int .i64 t.vb)).setCell ⟨w.heap.size, 3, none⟩ (.int .i64 t.dm)).setCell ⟨w.heap.size, 4, none⟩ (.string t.nm)).setCell ⟨w.heap.size, 5, none⟩ (.slice xa t.cnt xc)).cell? ⟨w.heap.size, 4, none⟩ = some (.string t.nm) := by go_simp
  have g5 : ((((((w9.setCell ⟨w.heap.size, 0, none⟩ (.int .i64 t.op)).setCell ⟨w.heap.size, 1, none⟩ (.int .i64 t.va)).setCell ⟨w.heap.size, 2, none⟩ (.int .i64 t.vb)).setCell ⟨w.heap.size, 3, none⟩ (.int .i64 t.dm)).setCell ⟨w.heap.size, 4, none⟩ (.string t.nm)).setCell ⟨w.heap.size, 5, none⟩ (.slice xa t.cnt xc)).cell? ⟨w.heap.size, 5, none⟩ = some (.slice xa t.cnt xc) := by go_simp
  refine bodyPost_ret (v := .agg #[.int .i64 t.op, .int .i64 t.va, .int .i64 t.vb, .int .i64 t.dm, .string t.nm, .slice xa t.cnt xc]) ?_ rfl ⟨t, _, _, _, rfl, kidsB_put6 HK.out (fun q hq => by (try simp at hq); exact ⟨by omega, by omega⟩) _ _ _ _ _ _, (by omega), (by omega), hp.1, hp.2, hinf⟩
  simp [results, Tryz.results47, go_sem, g0, g1, g2, g3, g4, g5]
 ·skip
  obtain ⟨hG3, hF5⟩ := HG.out q2
  have IQ := Lib.hid (HI.out q2)
  go_wp2_with fail
  refine (mknode_any b la ln lc 5 d 1 (fun i => ([1] : List Int).getD i 0) G (fun dm' t => t.inf nm dm ke = (dm', 0)) ea ke ecap nm dm (fun i hi at2 left2 w2 hS2 hE2 ha2 => IQ.out _ (ds_bd (l := [1]) rfl (by first | (simp; done) | (simp; omega)) i hi) at2 left2 w2 hS2 hE2 ha2) (at' + 1) L _ (S1.out.rel ((Rel.refl _).alloc _)) (HE.out.ro ((R1.out).alloc _)) w1.heap.size 1 (by simp) (by have := S1.out.lt; (try simp at this); omega) (ds_cells (l := [1]) rfl rfl) (by decide) (by decide) (by omega) (by omega) (by omega) (by omega) (by omega) (by omega) (by omega)).mono ?_
  unfold MkRes
  rintro e w9 ⟨t, x, at2, left2, rfl, hK, hz, hat, hS9, h9, hPR⟩
  have hinf : t.inf nm dm ke = (1, 0) := node_inf' hPR (by omega) (fun E h => by
   have h0 := h 0 (by decide)

   simp at h0 
   unfold resI
   repeat' split
   all_goals omega) (by omega)

  obtain ⟨xa, xc, rfl⟩ := kids_slice (kidsB_to hK)
  have S9 := Lib.hid hS9
  have R9 := Lib.hid (((R1.out).alloc _).trans h9)
  have HK := Lib.hid hK
  have q := keepr6 h9 (b := w.heap.size) (by first | (simp; done) | (simp; omega) | omega) (by first | (simp; done) | (simp; omega) | omega)
  have kc9_0_0 := q.1
  have kc9_0_1 := q.2.1
  have kc9_0_2 := q.2.2.1
  have kc9_0_3 := q.2.2.2.1
  have kc9_0_4 := q.2.2.2.2.1
  have kc9_0_5 := q.2.2.2.2.2.1
  have kf9_0_0 := q.2.2.2.2.2.2.1
  have kf9_0_1 := q.2.2.2.2.2.2.2.1
  have kf9_0_2 := q.2.2.2.2.2.2.2.2.1
  have kf9_0_3 := q.2.2.2.2.2.2.2.2.2.1
  have kf9_0_4 := q.2.2.2.2.2.2.2.2.2.2.1
  have kf9_0_5 := q.2.2.2.2.2.2.2.2.2.2.2.1
  have kl9_0 := q.2.2.2.2.2.2.2.2.2.2.2.2.1
  have kn9_0 := q.2.2.2.2.2.2.2.2.2.2.2.2.2.1
  have km9_0 := q.2.2.2.2.2.2.2.2.2.2.2.2.2.2
  clear q
  have kz9 := h9.size
  (try simp only [World.size_alloc, World.size_setCell, World.size_drew] at kz9)
  have H9 := Lib.hid h9
  clear h9

  clear hS9 hK
  ((try simp only []); (repeat (first | go_values | go_skip | go_guarded | go_step | go_upon | go_in)))
  have hp := put6 S9.out HS.out.nums R9.out (Nat.le_refl w.heap.size) hbw (.int .i64 t.op) (.int .i64 t.va) (.int .i64 t.vb) (.int .i64 t.dm) (.string t.nm) (.slice xa t.cnt xc)
  have g0 : ((((((w9.setCell ⟨w.heap.size, 0, none⟩ (.int .i64 t.op)).setCell ⟨w.heap.size, 1, none⟩ (.int .i64 t.va)).setCell ⟨w.heap.size, 2, none⟩ (.int .i64 t.vb)).setCell ⟨w.heap.size, 3, none⟩ (.int .i64 t.dm)).setCell ⟨w.heap.size, 4, none⟩ (.string t.nm)).setCell ⟨w.heap.size, 5, none⟩ (.slice xa t.cnt xc)).cell? ⟨w.heap.size, 0, none⟩ = some (.int .i64 t.op) := by go_simp
  have g1 : ((((((w9.setCell ⟨w.heap.size, 0, none⟩ (.int .i64 t.op)).setCell ⟨w.heap.size, 1, none⟩ (.int .i64 t.va)).setCell ⟨w.heap.size, 2, none⟩ (.int .i64 t.vb)).setCell ⟨w.heap.size, 3, none⟩ (.int .i64 t.dm)).setCell ⟨w.heap.size, 4, none⟩ (.string t.nm)).setCell ⟨w.heap.size, 5, none⟩ (.slice xa t.cnt xc)).cell? ⟨w.heap.size, 1, none⟩ = some (.int .i64 t.va) := by go_simp
  have g2 : ((((((w9.setCell ⟨w.heap.size, 0, none⟩ (.int .i64 t.op)).setCell ⟨w.heap.size, 1, none⟩ (.int .i64 t.va)).setCell ⟨w.heap.size, 2, none⟩ (.int .i64 t.vb)).setCell ⟨w.heap.size, 3, none⟩ (.int .i64 t.dm)).setCell ⟨w.heap.size, 4, none⟩ (.string t.nm)).setCell ⟨w.heap.size, 5, none⟩ (.slice xa t.cnt xc)).cell? ⟨w.heap.size, 2, none⟩ = some (.int .i64 t.vb) := by go_simp
  have g3 : ((((((w9.setCell ⟨w.heap.size, 0, none⟩ (.int .i64 t.op)).setCell ⟨w.heap.size, 1, none⟩ (.int .i64 t.va)).setCell ⟨w.heap.size, 2, none⟩ (.int .i64 t.vb)).setCell ⟨w.heap.size, 3, none⟩ (.int .i64 t.dm)).setCell ⟨w.heap.size, 4, none⟩ (.string t.nm)).setCell ⟨w.heap.size, 5, none⟩ (.slice xa t.cnt xc)).cell? ⟨w.heap.size, 3, none⟩ = some (.int .i64 t.dm) := by go_simp
  have g4 : ((((((w9.setCell ⟨w.heap.size, 0, none⟩ (.int .i64 t.op)).setCell ⟨w.heap.size, 1, none⟩ (.int .i64 t.va)).setCell ⟨w.heap.size, 2, none⟩ (.int .i64 t.vb)).setCell ⟨w.heap.size, 3, none⟩ (.int .i64 t.dm)).setCell ⟨w.heap.size, 4, none⟩ (.string t.nm)).setCell ⟨w.heap.size, 5, none⟩ (.slice xa t.cnt xc)).cell? ⟨w.heap.size, 4, none⟩ = some (.string t.nm) := by go_simp
  have g5 : ((((((w9.setCell ⟨w.heap.size, 0, none⟩ (.int .i64 t.op)).setCell ⟨w.heap.size, 1, none⟩ (.int .i64 t.va)).setCell ⟨w.heap.size, 2, none⟩ (.int .i64 t.vb)).setCell ⟨w.heap.size, 3, none⟩ (.int .i64 t.dm)).setCell ⟨w.heap.size, 4, none⟩ (.string t.nm)).setCell ⟨w.heap.size, 5, none⟩ (.slice xa t.cnt xc)).cell? ⟨w.heap.size, 5, none⟩ = some (.slice xa t.cnt xc) := by go_simp
  refine bodyPost_ret (v := .agg #[.int .i64 t.op, .int .i64 t.va, .int .i64 t.vb, .int .i64 t.dm, .string t.nm, .slice xa t.cnt xc]) ?_ rfl ⟨t, _, _, _, rfl, kidsB_put6 HK.out (fun q hq => by (try simp at hq); exact ⟨by omega, by omega⟩) _ _ _ _ _ _, (by omega), (by omega), hp.1, hp.2, hinf⟩
  simp [results, Tryz.results47, go_sem, g0, g1, g2, g3, g4, g5]
 ·skip
  obtain ⟨hG3, hF5⟩ := HG.out q2
  have IQ := Lib.hid (HI.out q2)
  go_wp2_with fail
  refine (mknode_any b la ln lc 21 d 3 (fun i => ([1, 1, 1] : List Int).getD i 0) G (fun dm' t => t.inf nm dm ke = (dm', 0)) ea ke ecap nm dm (fun i hi at2 left2 w2 hS2 hE2 ha2 => IQ.out _ (ds_bd (l := [1, 1, 1]) rfl (by first | (simp; done) | (simp; omega)) i hi) at2 left2 w2 hS2 hE2 ha2) (at' + 1) L _ (S1.out.rel ((Rel.refl _).alloc _)) (HE.out.ro ((R1.out).alloc _)) w1.heap.size 3 (by simp) (by have := S1.out.lt; (try simp at this); omega) (ds_cells (l := [1, 1, 1]) rfl rfl) (by decide) (by decide) (by omega) (by omega) (by omega) (by omega) (by omega) (by omega) (by omega)).mono ?_
  unfold MkRes
  rintro e w9 ⟨t, x, at2, left2, rfl, hK, hz, hat, hS9, h9, hPR⟩
  have hinf : t.inf nm dm ke = (1, 0) := node_inf' hPR (by omega) (fun E h => by
   have h0 := h 0 (by decide)
   have h1 := h 1 (by decide)
   have h2 := h 2 (by decide)
   simp at h0 h1 h2
   unfold resI
   repeat' split
   all_goals omega) (by omega)

  obtain ⟨xa, xc, rfl⟩ := kids_slice (kidsB_to hK)
  have S9 := Lib.hid hS9
  have R9 := Lib.hid (((R1.out).alloc _).trans h9)
  have HK := Lib.hid hK
  have q := keepr6 h9 (b := w.heap.size) (by first | (simp; done) | (simp; omega) | omega) (by first | (simp; done) | (simp; omega) | omega)
  have kc9_0_0 := q.1
  have kc9_0_1 := q.2.1
  have kc9_0_2 := q.2.2.1
  have kc9_0_3 := q.2.2.2.1
  have kc9_0_4 := q.2.2.2.2.1
  have kc9_0_5 := q.2.2.2.2.2.1
  have kf9_0_0 := q.2.2.2.2.2.2.1
  have kf9_0_1 := q.2.2.2.2.2.2.2.1
  have kf9_0_2 := q.2.2.2.2.2.2.2.2.1
  have kf9_0_3 := q.2.2.2.2.2.2.2.2.2.1
  have kf9_0_4 := q.2.2.2.2.2.2.2.2.2.2.1
  have kf9_0_5 := q.2.2.2.2.2.2.2.2.2.2.2.1
  have kl9_0 := q.2.2.2.2.2.2.2.2.2.2.2.2.1
  have kn9_0 := q.2.2.2.2.2.2.2.2.2.2.2.2.2.1
  have km9_0 := q.2.2.2.2.2.2.2.2.2.2.2.2.2.2
  clear q
  have kz9 := h9.size
  (try simp only [World.size_alloc, World.size_setCell, World.size_drew] at kz9)
  have H9 := Lib.hid h9
  clear h9

  clear hS9 hK
  ((try simp only []); (repeat (first | go_values | go_skip | go_guarded | go_step | go_upon | go_in)))
  have hp := put6 S9.out HS.out.nums R9.out (Nat.le_refl w.heap.size) hbw (.int .i64 t.op) (.int .i64 t.va) (.int .i64 t.vb) (.int .i64 t.dm) (.string t.nm) (.slice xa t.cnt xc)
  have g0 : ((((((w9.setCell ⟨w.heap.size, 0, none⟩ (.int .i64 t.op)).setCell ⟨w.heap.size, 1, none⟩ (.int .i64 t.va)).setCell ⟨w.heap.size, 2, none⟩ (.int .i64 t.vb)).setCell ⟨w.heap.size, 3, none⟩ (.int .i64 t.dm)).setCell ⟨w.heap.size, 4, none⟩ (.string t.nm)).setCell ⟨w.heap.size, 5, none⟩ (.slice xa t.cnt xc)).cell? ⟨w.heap.size, 0, none⟩ = some (.int .i64 t.op) := by go_simp
  have g1 : ((((((w9.setCell ⟨w.heap.size, 0, none⟩ (.int .i64 t.op)).setCell ⟨w.heap.size, 1, none⟩ (.int .i64 t.va)).setCell ⟨w.heap.size, 2, none⟩ (.int .i64 t.vb)).setCell ⟨w.heap.size, 3, none⟩ (.int .i64 t.dm)).setCell ⟨w.heap.size, 4, none⟩ (.string t.nm)).setCell ⟨w.heap.size, 5, none⟩ (.slice xa t.cnt xc)).cell? ⟨w.heap.size, 1, none⟩ = some (.int .i64 t.va) := by go_simp
  have g2 : ((((((w9.setCell ⟨w.heap.size, 0, none⟩ (.int .i64 t.op)).setCell ⟨w.heap.size, 1, none⟩ (.int .i64 t.va)).setCell ⟨w.heap.size, 2, none⟩ (.int .i64 t.vb)).setCell ⟨w.heap.size, 3, none⟩ (.int .i64 t.dm)).setCell ⟨w.heap.size, 4, none⟩ (.string t.nm)).setCell ⟨w.heap.size, 5, none⟩ (.slice xa t.cnt xc)).cell? ⟨w.heap.size, 2, none⟩ = some (.int .i64 t.vb) := by go_simp
  have g3 : ((((((w9.setCell ⟨w.heap.size, 0, none⟩ (.int .i64 t.op)).setCell ⟨w.heap.size, 1, none⟩ (.int .i64 t.va)).setCell ⟨w.heap.size, 2, none⟩ (.int .i64 t.vb)).setCell ⟨w.heap.size, 3, none⟩ (.int .i64 t.dm)).setCell ⟨w.heap.size, 4, none⟩ (.string t.nm)).setCell ⟨w.heap.size, 5, none⟩ (.slice xa t.cnt xc)).cell? ⟨w.heap.size, 3, none⟩ = some (.int .i64 t.dm) := by go_simp
  have g4 : ((((((w9.setCell ⟨w.heap.size, 0, none⟩ (.int .i64 t.op)).setCell ⟨w.heap.size, 1, none⟩ (.int .i64 t.va)).setCell ⟨w.heap.size, 2, none⟩ (.int .i64 t.vb)).setCell ⟨w.heap.size, 3, none⟩ (.int .i64 t.dm)).setCell ⟨w.heap.size, 4, none⟩ (.string t.nm)).setCell ⟨w.heap.size, 5, none⟩ (.slice xa t.cnt xc)).cell? ⟨w.heap.size, 4, none⟩ = some (.string t.nm) := by go_simp
  have g5 : ((((((w9.setCell ⟨w.heap.size, 0, none⟩ (.int .i64 t.op)).setCell ⟨w.heap.size, 1, none⟩ (.int .i64 t.va)).setCell ⟨w.heap.size, 2, none⟩ (.int .i64 t.vb)).setCell ⟨w.heap.size, 3, none⟩ (.int .i64 t.dm)).setCell ⟨w.heap.size, 4, none⟩ (.string t.nm)).setCell ⟨w.heap.size, 5, none⟩ (.slice xa t.cnt xc)).cell? ⟨w.heap.size, 5, none⟩ = some (.slice xa t.cnt xc) := by go_simp
  refine bodyPost_ret (v := .agg #[.int .i64 t.op, .int .i64 t.va, .int .i64 t.vb, .int .i64 t.dm, .string t.nm, .slice xa t.cnt xc]) ?_ rfl ⟨t, _, _, _, rfl, kidsB_put6 HK.out (fun q hq => by (try simp at hq); exact ⟨by omega, by omega⟩) _ _ _ _ _ _, (by omega), (by omega), hp.1, hp.2, hinf⟩
  simp [results, Tryz.results47, go_sem, g0, g1, g2, g3, g4, g5]
 ·skip
  go_wp2_with fail
  refine (next_any b la ln lc (at' + 1) L 3 _ S1.out (by omega) (by decide) (by decide)).mono ?_
  rintro e w2 ⟨y2, rfl, y20, y21, hS2, h2⟩
  obtain ⟨dd, hdd⟩ : ∃ z, 2 + y2 = z := ⟨_, rfl⟩
  have n2 : IntKind.i64.wrap (2 + y2) = dd := by rw [← hdd]; exact IntWalk.i64_in _ ⟨by omega, by omega⟩
  have bdd0 : 2 ≤ dd := by omega
  have bdd1 : dd ≤ 4 := by omega
  have S2 := Lib.hid hS2
  have R2 := Lib.hid (R1.out.trans h2)
  clear hS2 hdd
  have q := keepr6 h2 (b := w.heap.size) (by first | (simp; done) | (simp; omega) | omega) (by first | (simp; done) | (simp; omega) | omega)
  have kc2_0_0 := q.1
  have kc2_0_1 := q.2.1
  have kc2_0_2 := q.2.2.1
  have kc2_0_3 := q.2.2.2.1
  have kc2_0_4 := q.2.2.2.2.1
  have kc2_0_5 := q.2.2.2.2.2.1
  have kf2_0_0 := q.2.2.2.2.2.2.1
  have kf2_0_1 := q.2.2.2.2.2.2.2.1
  have kf2_0_2 := q.2.2.2.2.2.2.2.2.1
  have kf2_0_3 := q.2.2.2.2.2.2.2.2.2.1
  have kf2_0_4 := q.2.2.2.2.2.2.2.2.2.2.1
  have kf2_0_5 := q.2.2.2.2.2.2.2.2.2.2.2.1
  have kl2_0 := q.2.2.2.2.2.2.2.2.2.2.2.2.1
  have kn2_0 := q.2.2.2.2.2.2.2.2.2.2.2.2.2.1
  have km2_0 := q.2.2.2.2.2.2.2.2.2.2.2.2.2.2
  clear q
  have kz2 := h2.size
  (try simp only [World.size_alloc, World.size_setCell, World.size_drew] at kz2)
  have H2 := Lib.hid h2
  clear h2

  go_wp2_with fail
  refine (next_any b la ln lc (at' + 1 + 1) L 6 _ S2.out (by omega) (by decide) (by decide)).mono ?_
  rintro e w3 ⟨y3, rfl, y30, y31, hS3, h3⟩
  obtain ⟨oo, hoo⟩ : ∃ z, 11 + y3 = z := ⟨_, rfl⟩
  have n3 : IntKind.i64.wrap (11 + y3) = oo := by rw [← hoo]; exact IntWalk.i64_in _ ⟨by omega, by omega⟩
  have boo0 : 11 ≤ oo := by omega
  have boo1 : oo ≤ 16 := by omega
  have S3 := Lib.hid hS3
  have R3 := Lib.hid (R2.out.trans h3)
  clear hS3 hoo
  have q := keepr6 h3 (b := w.heap.size) (by first | (simp; done) | (simp; omega) | omega) (by first | (simp; done) | (simp; omega) | omega)
  have kc3_0_0 := q.1
  have kc3_0_1 := q.2.1
  have kc3_0_2 := q.2.2.1
  have kc3_0_3 := q.2.2.2.1
  have kc3_0_4 := q.2.2.2.2.1
  have kc3_0_5 := q.2.2.2.2.2.1
  have kf3_0_0 := q.2.2.2.2.2.2.1
  have kf3_0_1 := q.2.2.2.2.2.2.2.1
  have kf3_0_2 := q.2.2.2.2.2.2.2.2.1
  have kf3_0_3 := q.2.2.2.2.2.2.2.2.2.1
  have kf3_0_4 := q.2.2.2.2.2.2.2.2.2.2.1
  have kf3_0_5 := q.2.2.2.2.2.2.2.2.2.2.2.1
  have kl3_0 := q.2.2.2.2.2.2.2.2.2.2.2.2.1
  have kn3_0 := q.2.2.2.2.2.2.2.2.2.2.2.2.2.1
  have km3_0 := q.2.2.2.2.2.2.2.2.2.2.2.2.2.2
  clear q
  have kz3 := h3.size
  (try simp only [World.size_alloc, World.size_setCell, World.size_drew] at kz3)
  have H3 := Lib.hid h3
  clear h3

  obtain ⟨hG3, hF5⟩ := HG.out q2
  have IQ := Lib.hid (HI.out q2)
  go_wp2_with fail
  refine (mknode_any b la ln lc oo d 2 (fun i => ([dd, dd] : List Int).getD i 0) G (fun dm' t => t.inf nm dm ke = (dm', 0)) ea ke ecap nm dm (fun i hi at2 left2 w2 hS2 hE2 ha2 => IQ.out _ (ds_bd (l := [dd, dd]) rfl (by first | (simp; done) | (simp; omega)) i hi) at2 left2 w2 hS2 hE2 ha2) (at' + 1 + 1 + 1) L _ (S3.out.rel ((Rel.refl _).alloc _)) (HE.out.ro ((R3.out).alloc _)) w3.heap.size 2 (by simp) (by have := S3.out.lt; (try simp at this); omega) (ds_cells (l := [dd, dd]) rfl rfl) (by decide) (by decide) (by omega) (by omega) (by omega) (by omega) (by omega) (by omega) (by omega)).mono ?_
  unfold MkRes
  rintro e w9 ⟨t, x, at2, left2, rfl, hK, hz, hat, hS9, h9, hPR⟩
  have hinf : t.inf nm dm ke = (1, 0) := node_inf' hPR (by omega) (fun E h => by
   have h0 := h 0 (by decide)
   have h1 := h 1 (by decide)
   simp at h0 h1
   unfold resI
   repeat' split
   all_goals omega) (by omega)

  obtain ⟨xa, xc, rfl⟩ := kids_slice (kidsB_to hK)
  have S9 := Lib.hid hS9
  have R9 := Lib.hid (((R3.out).alloc _).trans h9)
  have HK := Lib.hid hK
  have q := keepr6 h9 (b := w.heap.size) (by first | (simp; done) | (simp; omega) | omega) (by first | (simp; done) | (simp; omega) | omega)
  have kc9_0_0 := q.1
  have kc9_0_1 := q.2.1
  have kc9_0_2 := q.2.2.1
  have kc9_0_3 := q.2.2.2.1
  have kc9_0_4 := q.2.2.2.2.1
  have kc9_0_5 := q.2.2.2.2.2.1
  have kf9_0_0 := q.2.2.2.2.2.2.1
  have kf9_0_1 := q.2.2.2.2.2.2.2.1
  have kf9_0_2 := q.2.2.2.2.2.2.2.2.1
  have kf9_0_3 := q.2.2.2.2.2.2.2.2.2.1
  have kf9_0_4 := q.2.2.2.2.2.2.2.2.2.2.1
  have kf9_0_5 := q.2.2.2.2.2.2.2.2.2.2.2.1
  have kl9_0 := q.2.2.2.2.2.2.2.2.2.2.2.2.1
  have kn9_0 := q.2.2.2.2.2.2.2.2.2.2.2.2.2.1
  have km9_0 := q.2.2.2.2.2.2.2.2.2.2.2.2.2.2
  clear q
  have kz9 := h9.size
  (try simp only [World.size_alloc, World.size_setCell, World.size_drew] at kz9)
  have H9 := Lib.hid h9
  clear h9

  clear hS9 hK
  ((try simp only []); (repeat (first | go_values | go_skip | go_guarded | go_step | go_upon | go_in)))
  have hp := put6 S9.out HS.out.nums R9.out (Nat.le_refl w.heap.size) hbw (.int .i64 t.op) (.int .i64 t.va) (.int .i64 t.vb) (.int .i64 t.dm) (.string t.nm) (.slice xa t.cnt xc)
  have g0 : ((((((w9.setCell ⟨w.heap.size, 0, none⟩ (.int .i64 t.op)).setCell ⟨w.heap.size, 1, none⟩ (.int .i64 t.va)).setCell ⟨w.heap.size, 2, none⟩ (.int .i64 t.vb)).setCell ⟨w.heap.size, 3, none⟩ (.int .i64 t.dm)).setCell ⟨w.heap.size, 4, none⟩ (.string t.nm)).setCell ⟨w.heap.size, 5, none⟩ (.slice xa t.cnt xc)).cell? ⟨w.heap.size, 0, none⟩ = some (.int .i64 t.op) := by go_simp
  have g1 : ((((((w9.setCell ⟨w.heap.size, 0, none⟩ (.int .i64 t.op)).setCell ⟨w.heap.size, 1, none⟩ (.int .i64 t.va)).setCell ⟨w.heap.size, 2, none⟩ (.int .i64 t.vb)).setCell ⟨w.heap.size, 3, none⟩ (.int .i64 t.dm)).setCell ⟨w.heap.size, 4, none⟩ (.string t.nm)).setCell ⟨w.heap.size, 5, none⟩ (.slice xa t.cnt xc)).cell? ⟨w.heap.size, 1, none⟩ = some (.int .i64 t.va) := by go_simp
  have g2 : ((((((w9.setCell ⟨w.heap.size, 0, none⟩ (.int .i64 t.op)).setCell ⟨w.heap.size, 1, none⟩ (.int .i64 t.va)).setCell ⟨w.heap.size, 2, none⟩ (.int .i64 t.vb)).setCell ⟨w.heap.size, 3, none⟩ (.int .i64 t.dm)).setCell ⟨w.heap.size, 4, none⟩ (.string t.nm)).setCell ⟨w.heap.size, 5, none⟩ (.slice xa t.cnt xc)).cell? ⟨w.heap.size, 2, none⟩ = some (.int .i64 t.vb) := by go_simp
  have g3 : ((((((w9.setCell ⟨w.heap.size, 0, none⟩ (.int .i64 t.op)).setCell ⟨w.heap.size, 1, none⟩ (.int .i64 t.va)).setCell ⟨w.heap.size, 2, none⟩ (.int .i64 t.vb)).setCell ⟨w.heap.size, 3, none⟩ (.int .i64 t.dm)).setCell ⟨w.heap.size, 4, none⟩ (.string t.nm)).setCell ⟨w.heap.size, 5, none⟩ (.slice xa t.cnt xc)).cell? ⟨w.heap.size, 3, none⟩ = some (.int .i64 t.dm) := by go_simp
  have g4 : ((((((w9.setCell ⟨w.heap.size, 0, none⟩ (.int .i64 t.op)).setCell ⟨w.heap.size, 1, none⟩ (.int .i64 t.va)).setCell ⟨w.heap.size, 2, none⟩ (.int .i64 t.vb)).setCell ⟨w.heap.size, 3, none⟩ (.int .i64 t.dm)).setCell ⟨w.heap.size, 4, none⟩ (.string t.nm)).setCell ⟨w.heap.size, 5, none⟩ (.slice xa t.cnt xc)).cell? ⟨w.heap.size, 4, none⟩ = some (.string t.nm) := by go_simp
  have g5 : ((((((w9.setCell ⟨w.heap.size, 0, none⟩ (.int .i64 t.op)).setCell ⟨w.heap.size, 1, none⟩ (.int .i64 t.va)).setCell ⟨w.heap.size, 2, none⟩ (.int .i64 t.vb)).setCell ⟨w.heap.size, 3, none⟩ (.int .i64 t.dm)).setCell ⟨w.heap.size, 4, none⟩ (.string t.nm)).setCell ⟨w.heap.size, 5, none⟩ (.slice xa t.cnt xc)).cell? ⟨w.heap.size, 5, none⟩ = some (.slice xa t.cnt xc) := by go_simp
  refine bodyPost_ret (v := .agg #[.int .i64 t.op, .int .i64 t.va, .int .i64 t.vb, .int .i64 t.dm, .string t.nm, .slice xa t.cnt xc]) ?_ rfl ⟨t, _, _, _, rfl, kidsB_put6 HK.out (fun q hq => by (try simp at hq); exact ⟨by omega, by omega⟩) _ _ _ _ _ _, (by omega), (by omega), hp.1, hp.2, hinf⟩
  simp [results, Tryz.results47, go_sem, g0, g1, g2, g3, g4, g5]
 ·skip
  go_wp2_with fail
  refine (next_any b la ln lc (at' + 1) L 3 _ S1.out (by omega) (by decide) (by decide)).mono ?_
  rintro e w2 ⟨y2, rfl, y20, y21, hS2, h2⟩
  obtain ⟨dd, hdd⟩ : ∃ z, 2 + y2 = z := ⟨_, rfl⟩
  have n2 : IntKind.i64.wrap (2 + y2) = dd := by rw [← hdd]; exact IntWalk.i64_in _ ⟨by omega, by omega⟩
  have bdd0 : 2 ≤ dd := by omega
  have bdd1 : dd ≤ 4 := by omega
  have S2 := Lib.hid hS2
  have R2 := Lib.hid (R1.out.trans h2)
  clear hS2 hdd
  have q := keepr6 h2 (b := w.heap.size) (by first | (simp; done) | (simp; omega) | omega) (by first | (simp; done) | (simp; omega) | omega)
  have kc2_0_0 := q.1
  have kc2_0_1 := q.2.1
  have kc2_0_2 := q.2.2.1
  have kc2_0_3 := q.2.2.2.1
  have kc2_0_4 := q.2.2.2.2.1
  have kc2_0_5 := q.2.2.2.2.2.1
  have kf2_0_0 := q.2.2.2.2.2.2.1
  have kf2_0_1 := q.2.2.2.2.2.2.2.1
  have kf2_0_2 := q.2.2.2.2.2.2.2.2.1
  have kf2_0_3 := q.2.2.2.2.2.2.2.2.2.1
  have kf2_0_4 := q.2.2.2.2.2.2.2.2.2.2.1
  have kf2_0_5 := q.2.2.2.2.2.2.2.2.2.2.2.1
  have kl2_0 := q.2.2.2.2.2.2.2.2.2.2.2.2.1
  have kn2_0 := q.2.2.2.2.2.2.2.2.2.2.2.2.2.1
  have km2_0 := q.2.2.2.2.2.2.2.2.2.2.2.2.2.2
  clear q
  have kz2 := h2.size
  (try simp only [World.size_alloc, World.size_setCell, World.size_drew] at kz2)
  have H2 := Lib.hid h2
  clear h2

  go_wp2_with fail
  refine (next_any b la ln lc (at' + 1 + 1) L 6 _ S2.out (by omega) (by decide) (by decide)).mono ?_
  rintro e w3 ⟨y3, rfl, y30, y31, hS3, h3⟩
  obtain ⟨oo, hoo⟩ : ∃ z, 11 + y3 = z := ⟨_, rfl⟩
  have n3 : IntKind.i64.wrap (11 + y3) = oo := by rw [← hoo]; exact IntWalk.i64_in _ ⟨by omega, by omega⟩
  have boo0 : 11 ≤ oo := by omega
  have boo1 : oo ≤ 16 := by omega
  have S3 := Lib.hid hS3
  have R3 := Lib.hid (R2.out.trans h3)
  clear hS3 hoo
  have q := keepr6 h3 (b := w.heap.size) (by first | (simp; done) | (simp; omega) | omega) (by first | (simp; done) | (simp; omega) | omega)
  have kc3_0_0 := q.1
  have kc3_0_1 := q.2.1
  have kc3_0_2 := q.2.2.1
  have kc3_0_3 := q.2.2.2.1
  have kc3_0_4 := q.2.2.2.2.1
  have kc3_0_5 := q.2.2.2.2.2.1
  have kf3_0_0 := q.2.2.2.2.2.2.1
  have kf3_0_1 := q.2.2.2.2.2.2.2.1
  have kf3_0_2 := q.2.2.2.2.2.2.2.2.1
  have kf3_0_3 := q.2.2.2.2.2.2.2.2.2.1
  have kf3_0_4 := q.2.2.2.2.2.2.2.2.2.2.1
  have kf3_0_5 := q.2.2.2.2.2.2.2.2.2.2.2.1
  have kl3_0 := q.2.2.2.2.2.2.2.2.2.2.2.2.1
  have kn3_0 := q.2.2.2.2.2.2.2.2.2.2.2.2.2.1
  have km3_0 := q.2.2.2.2.2.2.2.2.2.2.2.2.2.2
  clear q
  have kz3 := h3.size
  (try simp only [World.size_alloc, World.size_setCell, World.size_drew] at kz3)
  have H3 := Lib.hid h3
  clear h3

  obtain ⟨hG3, hF5⟩ := HG.out q2
  have IQ := Lib.hid (HI.out q2)
  go_wp2_with fail
  refine (mknode_any b la ln lc oo d 2 (fun i => ([dd, dd] : List Int).getD i 0) G (fun dm' t => t.inf nm dm ke = (dm', 0)) ea ke ecap nm dm (fun i hi at2 left2 w2 hS2 hE2 ha2 => IQ.out _ (ds_bd (l := [dd, dd]) rfl (by first | (simp; done) | (simp; omega)) i hi) at2 left2 w2 hS2 hE2 ha2) (at' + 1 + 1 + 1) L _ (S3.out.rel ((Rel.refl _).alloc _)) (HE.out.ro ((R3.out).alloc _)) w3.heap.size 2 (by simp) (by have := S3.out.lt; (try simp at this); omega) (ds_cells (l := [dd, dd]) rfl rfl) (by decide) (by decide) (by omega) (by omega) (by omega) (by omega) (by omega) (by omega) (by omega)).mono ?_
  unfold MkRes
  rintro e w9 ⟨t, x, at2, left2, rfl, hK, hz, hat, hS9, h9, hPR⟩
  have hinf : t.inf nm dm ke = (1, 0) := node_inf' hPR (by omega) (fun E h => by
   have h0 := h 0 (by decide)
   have h1 := h 1 (by decide)
   simp at h0 h1
   unfold resI
   repeat' split
   all_goals omega) (by omega)

  obtain ⟨xa, xc, rfl⟩ := kids_slice (kidsB_to hK)
  have S9 := Lib.hid hS9
  have R9 := Lib.hid (((R3.out).alloc _).trans h9)
  have HK := Lib.hid hK
  have q := keepr6 h9 (b := w.heap.size) (by first | (simp; done) | (simp; omega) | omega) (by first | (simp; done) | (simp; omega) | omega)
  have kc9_0_0 := q.1
  have kc9_0_1 := q.2.1
  have kc9_0_2 := q.2.2.1
  have kc9_0_3 := q.2.2.2.1
  have kc9_0_4 := q.2.2.2.2.1
  have kc9_0_5 := q.2.2.2.2.2.1
  have kf9_0_0 := q.2.2.2.2.2.2.1
  have kf9_0_1 := q.2.2.2.2.2.2.2.1
  have kf9_0_2 := q.2.2.2.2.2.2.2.2.1
  have kf9_0_3 := q.2.2.2.2.2.2.2.2.2.1
  have kf9_0_4 := q.2.2.2.2.2.2.2.2.2.2.1
  have kf9_0_5 := q.2.2.2.2.2.2.2.2.2.2.2.1
  have kl9_0 := q.2.2.2.2.2.2.2.2.2.2.2.2.1
  have kn9_0 := q.2.2.2.2.2.2.2.2.2.2.2.2.2.1
  have km9_0 := q.2.2.2.2.2.2.2.2.2.2.2.2.2.2
  clear q
  have kz9 := h9.size
  (try simp only [World.size_alloc, World.size_setCell, World.size_drew] at kz9)
  have H9 := Lib.hid h9
  clear h9

  clear hS9 hK
  ((try simp only []); (repeat (first | go_values | go_skip | go_guarded | go_step | go_upon | go_in)))
  have hp := put6 S9.out HS.out.nums R9.out (Nat.le_refl w.heap.size) hbw (.int .i64 t.op) (.int .i64 t.va) (.int .i64 t.vb) (.int .i64 t.dm) (.string t.nm) (.slice xa t.cnt xc)
  have g0 : ((((((w9.setCell ⟨w.heap.size, 0, none⟩ (.int .i64 t.op)).setCell ⟨w.heap.size, 1, none⟩ (.int .i64 t.va)).setCell ⟨w.heap.size, 2, none⟩ (.int .i64 t.vb)).setCell ⟨w.heap.size, 3, none⟩ (.int .i64 t.dm)).setCell ⟨w.heap.size, 4, none⟩ (.string t.nm)).setCell ⟨w.heap.size, 5, none⟩ (.slice xa t.cnt xc)).cell? ⟨w.heap.size, 0, none⟩ = some (.int .i64 t.op) := by go_simp
  have g1 : ((((((w9.setCell ⟨w.heap.size, 0, none⟩ (.int .i64 t.op)).setCell ⟨w.heap.size, 1, none⟩ (.int .i64 t.va)).setCell ⟨w.heap.size, 2, none⟩ (.int .i64 t.vb)).setCell ⟨w.heap.size, 3, none⟩ (.int .i64 t.dm)).setCell ⟨w.heap.size, 4, none⟩ (.string t.nm)).setCell ⟨w.heap.size, 5, none⟩ (.slice xa t.cnt xc)).cell? ⟨w.heap.size, 1, none⟩ = some (.int .i64 t.va) := by go_simp
  have g2 : ((((((w9.setCell ⟨w.heap.size, 0, none⟩ (.int .i64 t.op)).setCell ⟨w.heap.size, 1, none⟩ (.int .i64 t.va)).setCell ⟨w.heap.size, 2, none⟩ (.int .i64 t.vb)).setCell ⟨w.heap.size, 3, none⟩ (.int .i64 t.dm)).setCell ⟨w.heap.size, 4, none⟩ (.string t.nm)).setCell ⟨w.heap.size, 5, none⟩ (.slice xa t.cnt xc)).cell? ⟨w.heap.size, 2, none⟩ = some (.int .i64 t.vb) := by go_simp
  have g3 : ((((((w9.setCell ⟨w.heap.size, 0, none⟩ (.int .i64 t.op)).setCell ⟨w.heap.size, 1, none⟩ (.int .i64 t.va)).setCell ⟨w.heap.size, 2, none⟩ (.int .i64 t.vb)).setCell ⟨w.heap.size, 3, none⟩ (.int .i64 t.dm)).setCell ⟨w.heap.size, 4, none⟩ (.string t.nm)).setCell ⟨w.heap.size, 5, none⟩ (.slice xa t.cnt xc)).cell? ⟨w.heap.size, 3, none⟩ = some (.int .i64 t.dm) := by go_simp
  have g4 : ((((((w9.setCell ⟨w.heap.size, 0, none⟩ (.int .i64 t.op)).setCell ⟨w.heap.size, 1, none⟩ (.int .i64 t.va)).setCell ⟨w.heap.size, 2, none⟩ (.int .i64 t.vb)).setCell ⟨w.heap.size, 3, none⟩ (.int .i64 t.dm)).setCell ⟨w.heap.size, 4, none⟩ (.string t.nm)).setCell ⟨w.heap.size, 5, none⟩ (.slice xa t.cnt xc)).cell? ⟨w.heap.size, 4, none⟩ = some (.string t.nm) := by go_simp
  have g5 : ((((((w9.setCell ⟨w.heap.size, 0, none⟩ (.int .i64 t.op)).setCell ⟨w.heap.size, 1, none⟩ (.int .i64 t.va)).setCell ⟨w.heap.size, 2, none⟩ (.int .i64 t.vb)).setCell ⟨w.heap.size, 3, none⟩ (.int .i64 t.dm)).setCell ⟨w.heap.size, 4, none⟩ (.string t.nm)).setCell ⟨w.heap.size, 5, none⟩ (.slice xa t.cnt xc)).cell? ⟨w.heap.size, 5, none⟩ = some (.slice xa t.cnt xc) := by go_simp
  refine bodyPost_ret (v := .agg #[.int .i64 t.op, .int .i64 t.va, .int .i64 t.vb, .int .i64 t.dm, .string t.nm, .slice xa t.cnt xc]) ?_ rfl ⟨t, _, _, _, rfl, kidsB_put6 HK.out (fun q hq => by (try simp at hq); exact ⟨by omega, by omega⟩) _ _ _ _ _ _, (by omega), (by omega), hp.1, hp.2, hinf⟩
  simp [results, Tryz.results47, go_sem, g0, g1, g2, g3, g4, g5]
 ·skip
  go_wp2_with fail
  refine (next_any b la ln lc (at' + 1) L 3 _ S1.out (by omega) (by decide) (by decide)).mono ?_
  rintro e w2 ⟨y2, rfl, y20, y21, hS2, h2⟩
  obtain ⟨dd, hdd⟩ : ∃ z, 2 + y2 = z := ⟨_, rfl⟩
  have n2 : IntKind.i64.wrap (2 + y2) = dd := by rw [← hdd]; exact IntWalk.i64_in _ ⟨by omega, by omega⟩
  have bdd0 : 2 ≤ dd := by omega
  have bdd1 : dd ≤ 4 := by omega
  have S2 := Lib.hid hS2
  have R2 := Lib.hid (R1.out.trans h2)
  clear hS2 hdd
  have q := keepr6 h2 (b := w.heap.size) (by first | (simp; done) | (simp; omega) | omega) (by first | (simp; done) | (simp; omega) | omega)
  have kc2_0_0 := q.1
  have kc2_0_1 := q.2.1
  have kc2_0_2 := q.2.2.1
  have kc2_0_3 := q.2.2.2.1
  have kc2_0_4 := q.2.2.2.2.1
  have kc2_0_5 := q.2.2.2.2.2.1
  have kf2_0_0 := q.2.2.2.2.2.2.1
  have kf2_0_1 := q.2.2.2.2.2.2.2.1
  have kf2_0_2 := q.2.2.2.2.2.2.2.2.1
  have kf2_0_3 := q.2.2.2.2.2.2.2.2.2.1
  have kf2_0_4 := q.2.2.2.2.2.2.2.2.2.2.1
  have kf2_0_5 := q.2.2.2.2.2.2.2.2.2.2.2.1
  have kl2_0 := q.2.2.2.2.2.2.2.2.2.2.2.2.1
  have kn2_0 := q.2.2.2.2.2.2.2.2.2.2.2.2.2.1
  have km2_0 := q.2.2.2.2.2.2.2.2.2.2.2.2.2.2
  clear q
  have kz2 := h2.size
  (try simp only [World.size_alloc, World.size_setCell, World.size_drew] at kz2)
  have H2 := Lib.hid h2
  clear h2

  go_wp2_with fail
  refine (next_any b la ln lc (at' + 1 + 1) L 6 _ S2.out (by omega) (by decide) (by decide)).mono ?_
  rintro e w3 ⟨y3, rfl, y30, y31, hS3, h3⟩
  obtain ⟨oo, hoo⟩ : ∃ z, 11 + y3 = z := ⟨_, rfl⟩
  have n3 : IntKind.i64.wrap (11 + y3) = oo := by rw [← hoo]; exact IntWalk.i64_in _ ⟨by omega, by omega⟩
  have boo0 : 11 ≤ oo := by omega
  have boo1 : oo ≤ 16 := by omega
  have S3 := Lib.hid hS3
  have R3 := Lib.hid (R2.out.trans h3)
  clear hS3 hoo
  have q := keepr6 h3 (b := w.heap.size) (by first | (simp; done) | (simp; omega) | omega) (by first | (simp; done) | (simp; omega) | omega)
  have kc3_0_0 := q.1
  have kc3_0_1 := q.2.1
  have kc3_0_2 := q.2.2.1
  have kc3_0_3 := q.2.2.2.1
  have kc3_0_4 := q.2.2.2.2.1
  have kc3_0_5 := q.2.2.2.2.2.1
  have kf3_0_0 := q.2.2.2.2.2.2.1
  have kf3_0_1 := q.2.2.2.2.2.2.2.1
  have kf3_0_2 := q.2.2.2.2.2.2.2.2.1
  have kf3_0_3 := q.2.2.2.2.2.2.2.2.2.1
  have kf3_0_4 := q.2.2.2.2.2.2.2.2.2.2.1
  have kf3_0_5 := q.2.2.2.2.2.2.2.2.2.2.2.1
  have kl3_0 := q.2.2.2.2.2.2.2.2.2.2.2.2.1
  have kn3_0 := q.2.2.2.2.2.2.2.2.2.2.2.2.2.1
  have km3_0 := q.2.2.2.2.2.2.2.2.2.2.2.2.2.2
  clear q
  have kz3 := h3.size
  (try simp only [World.size_alloc, World.size_setCell, World.size_drew] at kz3)
  have H3 := Lib.hid h3
  clear h3

  obtain ⟨hG3, hF5⟩ := HG.out q2
  have IQ := Lib.hid (HI.out q2)
  go_wp2_with fail
  refine (mknode_any b la ln lc oo d 2 (fun i => ([dd, dd] : List Int).getD i 0) G (fun dm' t => t.inf nm dm ke = (dm', 0)) ea ke ecap nm dm (fun i hi at2 left2 w2 hS2 hE2 ha2 => IQ.out _ (ds_bd (l := [dd, dd]) rfl (by first | (simp; done) | (simp; omega)) i hi) at2 left2 w2 hS2 hE2 ha2) (at' + 1 + 1 + 1) L _ (S3.out.rel ((Rel.refl _).alloc _)) (HE.out.ro ((R3.out).alloc _)) w3.heap.size 2 (by simp) (by have := S3.out.lt; (try simp at this); omega) (ds_cells (l := [dd, dd]) rfl rfl) (by decide) (by decide) (by omega) (by omega) (by omega) (by omega) (by omega) (by omega) (by omega)).mono ?_
  unfold MkRes
  rintro e w9 ⟨t, x, at2, left2, rfl, hK, hz, hat, hS9, h9, hPR⟩
  have hinf : t.inf nm dm ke = (1, 0) := node_inf' hPR (by omega) (fun E h => by
   have h0 := h 0 (by decide)
   have h1 := h 1 (by decide)
   simp at h0 h1
   unfold resI
   repeat' split
   all_goals omega) (by omega)

  obtain ⟨xa, xc, rfl⟩ := kids_slice (kidsB_to hK)
  have S9 := Lib.hid hS9
  have R9 := Lib.hid (((R3.out).alloc _).trans h9)
  have HK := Lib.hid hK
  have q := keepr6 h9 (b := w.heap.size) (by first | (simp; done) | (simp; omega) | omega) (by first | (simp; done) | (simp; omega) | omega)
  have kc9_0_0 := q.1
  have kc9_0_1 := q.2.1
  have kc9_0_2 := q.2.2.1
  have kc9_0_3 := q.2.2.2.1
  have kc9_0_4 := q.2.2.2.2.1
  have kc9_0_5 := q.2.2.2.2.2.1
  have kf9_0_0 := q.2.2.2.2.2.2.1
  have kf9_0_1 := q.2.2.2.2.2.2.2.1
  have kf9_0_2 := q.2.2.2.2.2.2.2.2.1
  have kf9_0_3 := q.2.2.2.2.2.2.2.2.2.1
  have kf9_0_4 := q.2.2.2.2.2.2.2.2.2.2.1
  have kf9_0_5 := q.2.2.2.2.2.2.2.2.2.2.2.1
  have kl9_0 := q.2.2.2.2.2.2.2.2.2.2.2.2.1
  have kn9_0 := q.2.2.2.2.2.2.2.2.2.2.2.2.2.1
  have km9_0 := q.2.2.2.2.2.2.2.2.2.2.2.2.2.2
  clear q
  have kz9 := h9.size
  (try simp only [World.size_alloc, World.size_setCell, World.size_drew] at kz9)
  have H9 := Lib.hid h9
  clear h9

  clear hS9 hK
  ((try simp only []); (repeat (first | go_values | go_skip | go_guarded | go_step | go_upon | go_in)))
  have hp := put6 S9.out HS.out.nums R9.out (Nat.le_refl w.heap.size) hbw (.int .i64 t.op) (.int .i64 t.va) (.int .i64 t.vb) (.int .i64 t.dm) (.string t.nm) (.slice xa t.cnt xc)
  have g0 : ((((((w9.setCell ⟨w.heap.size, 0, none⟩ (.int .i64 t.op)).setCell ⟨w.heap.size, 1, none⟩ (.int .i64 t.va)).setCell ⟨w.heap.size, 2, none⟩ (.int .i64 t.vb)).setCell ⟨w.heap.size, 3, none⟩ (.int .i64 t.dm)).setCell ⟨w.heap.size, 4, none⟩ (.string t.nm)).setCell ⟨w.heap.size, 5, none⟩ (.slice xa t.cnt xc)).cell? ⟨w.heap.size, 0, none⟩ = some (.int .i64 t.op) := by go_simp
  have g1 : ((((((w9.setCell ⟨w.heap.size, 0, none⟩ (.int .i64 t.op)).setCell ⟨w.heap.size, 1, none⟩ (.int .i64 t.va)).setCell ⟨w.heap.size, 2, none⟩ (.int .i64 t.vb)).setCell ⟨w.heap.size, 3, none⟩ (.int .i64 t.dm)).setCell ⟨w.heap.size, 4, none⟩ (.string t.nm)).setCell ⟨w.heap.size, 5, none⟩ (.slice xa t.cnt xc)).cell? ⟨w.heap.size, 1, none⟩ = some (.int .i64 t.va) := by go_simp
  have g2 : ((((((w9.setCell ⟨w.heap.size, 0, none⟩ (.int .i64 t.op)).setCell ⟨w.heap.size, 1, none⟩ (.int .i64 t.va)).setCell ⟨w.heap.size, 2, none⟩ (.int .i64 t.vb)).setCell ⟨w.heap.size, 3, none⟩ (.int .i64 t.dm)).setCell ⟨w.heap.size, 4, none⟩ (.string t.nm)).setCell ⟨w.heap.size, 5, none⟩ (.slice xa t.cnt xc)).cell? ⟨w.heap.size, 2, none⟩ = some (.int .i64 t.vb) := by go_simp
  have g3 : ((((((w9.setCell ⟨w.heap.size, 0, none⟩ (.int .i64 t.op)).setCell ⟨w.heap.size, 1, none⟩ (.int .i64 t.va)).setCell ⟨w.heap.size, 2, none⟩ (.int .i64 t.vb)).setCell ⟨w.heap.size, 3, none⟩ (.int .i64 t.dm)).setCell ⟨w.heap.size, 4, none⟩ (.string t.nm)).setCell ⟨w.heap.size, 5, none⟩ (.slice xa t.cnt xc)).cell? ⟨w.heap.size, 3, none⟩ = some (.int .i64 t.dm) := by go_simp
  have g4 : ((((((w9.setCell ⟨w.heap.size, 0, none⟩ (.int .i64 t.op)).setCell ⟨w.heap.size, 1, none⟩ (.int .i64 t.va)).setCell ⟨w.heap.size, 2, none⟩ (.int .i64 t.vb)).setCell ⟨w.heap.size, 3, none⟩ (.int .i64 t.dm)).setCell ⟨w.heap.size, 4, none⟩ (.string t.nm)).setCell ⟨w.heap.size, 5, none⟩ (.slice xa t.cnt xc)).cell? ⟨w.heap.size, 4, none⟩ = some (.string t.nm) := by go_simp
  have g5 : ((((((w9.setCell ⟨w.heap.size, 0, none⟩ (.int .i64 t.op)).setCell ⟨w.heap.size, 1, none⟩ (.int .i64 t.va)).setCell ⟨w.heap.size, 2, none⟩ (.int .i64 t.vb)).setCell ⟨w.heap.size, 3, none⟩ (.int .i64 t.dm)).setCell ⟨w.heap.size, 4, none⟩ (.string t.nm)).setCell ⟨w.heap.size, 5, none⟩ (.slice xa t.cnt xc)).cell? ⟨w.heap.size, 5, none⟩ = some (.slice xa t.cnt xc) := by go_simp
  refine bodyPost_ret (v := .agg #[.int .i64 t.op, .int .i64 t.va, .int .i64 t.vb, .int .i64 t.dm, .string t.nm, .slice xa t.cnt xc]) ?_ rfl ⟨t, _, _, _, rfl, kidsB_put6 HK.out (fun q hq => by (try simp at hq); exact ⟨by omega, by omega⟩) _ _ _ _ _ _, (by omega), (by omega), hp.1, hp.2, hinf⟩
  simp [results, Tryz.results47, go_sem, g0, g1, g2, g3, g4, g5]
 ·skip
  go_wp2_with fail
  refine (next_any b la ln lc (at' + 1) L 3 _ S1.out (by omega) (by decide) (by decide)).mono ?_
  rintro e w2 ⟨y2, rfl, y20, y21, hS2, h2⟩
  obtain ⟨dd, hdd⟩ : ∃ z, 2 + y2 = z := ⟨_, rfl⟩
  have n2 : IntKind.i64.wrap (2 + y2) = dd := by rw [← hdd]; exact IntWalk.i64_in _ ⟨by omega, by omega⟩
  have bdd0 : 2 ≤ dd := by omega
  have bdd1 : dd ≤ 4 := by omega
  have S2 := Lib.hid hS2
  have R2 := Lib.hid (R1.out.trans h2)
  clear hS2 hdd
  have q := keepr6 h2 (b := w.heap.size) (by first | (simp; done) | (simp; omega) | omega) (by first | (simp; done) | (simp; omega) | omega)
  have kc2_0_0 := q.1
  have kc2_0_1 := q.2.1
  have kc2_0_2 := q.2.2.1
  have kc2_0_3 := q.2.2.2.1
  have kc2_0_4 := q.2.2.2.2.1
  have kc2_0_5 := q.2.2.2.2.2.1
  have kf2_0_0 := q.2.2.2.2.2.2.1
  have kf2_0_1 := q.2.2.2.2.2.2.2.1
  have kf2_0_2 := q.2.2.2.2.2.2.2.2.1
  have kf2_0_3 := q.2.2.2.2.2.2.2.2.2.1
  have kf2_0_4 := q.2.2.2.2.2.2.2.2.2.2.1
  have kf2_0_5 := q.2.2.2.2.2.2.2.2.2.2.2.1
  have kl2_0 := q.2.2.2.2.2.2.2.2.2.2.2.2.1
  have kn2_0 := q.2.2.2.2.2.2.2.2.2.2.2.2.2.1
  have km2_0 := q.2.2.2.2.2.2.2.2.2.2.2.2.2.2
  clear q
  have kz2 := h2.size
  (try simp only [World.size_alloc, World.size_setCell, World.size_drew] at kz2)
  have H2 := Lib.hid h2
  clear h2

  go_wp2_with fail
  refine (next_any b la ln lc (at' + 1 + 1) L 6 _ S2.out (by omega) (by decide) (by decide)).mono ?_
  rintro e w3 ⟨y3, rfl, y30, y31, hS3, h3⟩
  obtain ⟨oo, hoo⟩ : ∃ z, 11 + y3 = z := ⟨_, rfl⟩
  have n3 : IntKind.i64.wrap (11 + y3) = oo := by rw [← hoo]; exact IntWalk.i64_in _ ⟨by omega, by omega⟩
  have boo0 : 11 ≤ oo := by omega
  have boo1 : oo ≤ 16 := by omega
  have S3 := Lib.hid hS3
  have R3 := Lib.hid (R2.out.trans h3)
  clear hS3 hoo
  have q := keepr6 h3 (b := w.heap.size) (by first | (simp; done) | (simp; omega) | omega) (by first | (simp; done) | (simp; omega) | omega)
  have kc3_0_0 := q.1
  have kc3_0_1 := q.2.1
  have kc3_0_2 := q.2.2.1
  have kc3_0_3 := q.2.2.2.1
  have kc3_0_4 := q.2.2.2.2.1
  have kc3_0_5 := q.2.2.2.2.2.1
  have kf3_0_0 := q.2.2.2.2.2.2.1
  have kf3_0_1 := q.2.2.2.2.2.2.2.1
  have kf3_0_2 := q.2.2.2.2.2.2.2.2.1
  have kf3_0_3 := q.2.2.2.2.2.2.2.2.2.1
  have kf3_0_4 := q.2.2.2.2.2.2.2.2.2.2.1
  have kf3_0_5 := q.2.2.2.2.2.2.2.2.2.2.2.1
  have kl3_0 := q.2.2.2.2.2.2.2.2.2.2.2.2.1
  have kn3_0 := q.2.2.2.2.2.2.2.2.2.2.2.2.2.1
  have km3_0 := q.2.2.2.2.2.2.2.2.2.2.2.2.2.2
  clear q
  have kz3 := h3.size
  (try simp only [World.size_alloc, World.size_setCell, World.size_drew] at kz3)
  have H3 := Lib.hid h3
  clear h3

  obtain ⟨hG3, hF5⟩ := HG.out q2
  have IQ := Lib.hid (HI.out q2)
  go_wp2_with fail
  refine (mknode_any b la ln lc oo d 2 (fun i => ([dd, dd] : List Int).getD i 0) G (fun dm' t => t.inf nm dm ke = (dm', 0)) ea ke ecap nm dm (fun i hi at2 left2 w2 hS2 hE2 ha2 => IQ.out _ (ds_bd (l := [dd, dd]) rfl (by first | (simp; done) | (simp; omega)) i hi) at2 left2 w2 hS2 hE2 ha2) (at' + 1 + 1 + 1) L _ (S3.out.rel ((Rel.refl _).alloc _)) (HE.out.ro ((R3.out).alloc _)) w3.heap.size 2 (by simp) (by have := S3.out.lt; (try simp at this); omega) (ds_cells (l := [dd, dd]) rfl rfl) (by decide) (by decide) (by omega) (by omega) (by omega) (by omega) (by omega) (by omega) (by omega)).mono ?_
  unfold MkRes
  rintro e w9 ⟨t, x, at2, left2, rfl, hK, hz, hat, hS9, h9, hPR⟩
  have hinf : t.inf nm dm ke = (1, 0) := node_inf' hPR (by omega) (fun E h => by
   have h0 := h 0 (by decide)
   have h1 := h 1 (by decide)
   simp at h0 h1
   unfold resI
   repeat' split
   all_goals omega) (by omega)

  obtain ⟨xa, xc, rfl⟩ := kids_slice (kidsB_to hK)
  have S9 := Lib.hid hS9
  have R9 := Lib.hid (((R3.out).alloc _).trans h9)
  have HK := Lib.hid hK
  have q := keepr6 h9 (b := w.heap.size) (by first | (simp; done) | (simp; omega) | omega) (by first | (simp; done) | (simp; omega) | omega)
  have kc9_0_0 := q.1
  have kc9_0_1 := q.2.1
  have kc9_0_2 := q.2.2.1
  have kc9_0_3 := q.2.2.2.1
  have kc9_0_4 := q.2.2.2.2.1
  have kc9_0_5 := q.2.2.2.2.2.1
  have kf9_0_0 := q.2.2.2.2.2.2.1
  have kf9_0_1 := q.2.2.2.2.2.2.2.1
  have kf9_0_2 := q.2.2.2.2.2.2.2.2.1
  have kf9_0_3 := q.2.2.2.2.2.2.2.2.2.1
  have kf9_0_4 := q.2.2.2.2.2.2.2.2.2.2.1
  have kf9_0_5 := q.2.2.2.2.2.2.2.2.2.2.2.1
  have kl9_0 := q.2.2.2.2.2.2.2.2.2.2.2.2.1
  have kn9_0 := q.2.2.2.2.2.2.2.2.2.2.2.2.2.1
  have km9_0 := q.2.2.2.2.2.2.2.2.2.2.2.2.2.2
  clear q
  have kz9 := h9.size
  (try simp only [World.size_alloc, World.size_setCell, World.size_drew] at kz9)
  have H9 := Lib.hid h9
  clear h9

  clear hS9 hK
  ((try simp only []); (repeat (first | go_values | go_skip | go_guarded | go_step | go_upon | go_in)))
  have hp := put6 S9.out HS.out.nums R9.out (Nat.le_refl w.heap.size) hbw (.int .i64 t.op) (.int .i64 t.va) (.int .i64 t.vb) (.int .i64 t.dm) (.string t.nm) (.slice xa t.cnt xc)
  have g0 : ((((((w9.setCell ⟨w.heap.size, 0, none⟩ (.int .i64 t.op)).setCell ⟨w.heap.size, 1, none⟩ (.int .i64 t.va)).setCell ⟨w.heap.size, 2, none⟩ (.int .i64 t.vb)).setCell ⟨w.heap.size, 3, none⟩ (.int .i64 t.dm)).setCell ⟨w.heap.size, 4, none⟩ (.string t.nm)).setCell ⟨w.heap.size, 5, none⟩ (.slice xa t.cnt xc)).cell? ⟨w.heap.size, 0, none⟩ = some (.int .i64 t.op) := by go_simp
  have g1 : ((((((w9.setCell ⟨w.heap.size, 0, none⟩ (.int .i64 t.op)).setCell ⟨w.heap.size, 1, none⟩ (.int .i64 t.va)).setCell ⟨w.heap.size, 2, none⟩ (.int .i64 t.vb)).setCell ⟨w.heap.size, 3, none⟩ (.int .i64 t.dm)).setCell ⟨w.heap.size, 4, none⟩ (.string t.nm)).setCell ⟨w.heap.size, 5, none⟩ (.slice xa t.cnt xc)).cell? ⟨w.heap.size, 1, none⟩ = some (.int .i64 t.va) := by go_simp
  have g2 : ((((((w9.setCell ⟨w.heap.size, 0, none⟩ (.int .i64 t.op)).setCell ⟨w.heap.size, 1, none⟩ (.int .i64 t.va)).setCell ⟨w.heap.size, 2, none⟩ (.int .i64 t.vb)).setCell ⟨w.heap.size, 3, none⟩ (.int .i64 t.dm)).setCell ⟨w.heap.size, 4, none⟩ (.string t.nm)).setCell ⟨w.heap.size, 5, none⟩ (.slice xa t.cnt xc)).cell? ⟨w.heap.size, 2, none⟩ = some (.int .i64 t.vb) := by go_simp
  have g3 : ((((((w9.setCell ⟨w.heap.size, 0, none⟩ (.int .i64 t.op)).setCell ⟨w.heap.size, 1, none⟩ (.int .i64 t.va)).setCell ⟨w.heap.size, 2, none⟩ (.int .i64 t.vb)).setCell ⟨w.heap.size, 3, none⟩ (.int .i64 t.dm)).setCell ⟨w.heap.size, 4, none⟩ (.string t.nm)).setCell ⟨w.heap.size, 5, none⟩ (.slice xa t.cnt xc)).cell? ⟨w.heap.size, 3, none⟩ = some (.int .i64 t.dm) := by go_simp
  have g4 : ((((((w9.setCell ⟨w.heap.size, 0, none⟩ (.int .i64 t.op)).setCell ⟨w.heap.size, 1, none⟩ (.int .i64 t.va)).setCell ⟨w.heap.size, 2, none⟩ (.int .i64 t.vb)).setCell ⟨w.heap.size, 3, none⟩ (.int .i64 t.dm)).setCell ⟨w.heap.size, 4, none⟩ (.string t.nm)).setCell ⟨w.heap.size, 5, none⟩ (.slice xa t.cnt xc)).cell? ⟨w.heap.size, 4, none⟩ = some (.string t.nm) := by go_simp
  have g5 : ((((((w9.setCell ⟨w.heap.size, 0, none⟩ (.int .i64 t.op)).setCell ⟨w.heap.size, 1, none⟩ (.int .i64 t.va)).setCell ⟨w.heap.size, 2, none⟩ (.int .i64 t.vb)).setCell ⟨w.heap.size, 3, none⟩ (.int .i64 t.dm)).setCell ⟨w.heap.size, 4, none⟩ (.string t.nm)).setCell ⟨w.heap.size, 5, none⟩ (.slice xa t.cnt xc)).cell? ⟨w.heap.size, 5, none⟩ = some (.slice xa t.cnt xc) := by go_simp
  refine bodyPost_ret (v := .agg #[.int .i64 t.op, .int .i64 t.va, .int .i64 t.vb, .int .i64 t.dm, .string t.nm, .slice xa t.cnt xc]) ?_ rfl ⟨t, _, _, _, rfl, kidsB_put6 HK.out (fun q hq => by (try simp at hq); exact ⟨by omega, by omega⟩) _ _ _ _ _ _, (by omega), (by omega), hp.1, hp.2, hinf⟩
  simp [results, Tryz.results47, go_sem, g0, g1, g2, g3, g4, g5]
 ·skip
  go_wp2_with fail
  refine (next_any b la ln lc (at' + 1) L 3 _ S1.out (by omega) (by decide) (by decide)).mono ?_
  rintro e w2 ⟨y2, rfl, y20, y21, hS2, h2⟩
  obtain ⟨dd, hdd⟩ : ∃ z, 2 + y2 = z := ⟨_, rfl⟩
  have n2 : IntKind.i64.wrap (2 + y2) = dd := by rw [← hdd]; exact IntWalk.i64_in _ ⟨by omega, by omega⟩
  have bdd0 : 2 ≤ dd := by omega
  have bdd1 : dd ≤ 4 := by omega
  have S2 := Lib.hid hS2
  have R2 := Lib.hid (R1.out.trans h2)
  clear hS2 hdd
  have q := keepr6 h2 (b := w.heap.size) (by first | (simp; done) | (simp; omega) | omega) (by first | (simp; done) | (simp; omega) | omega)
  have kc2_0_0 := q.1
  have kc2_0_1 := q.2.1
  have kc2_0_2 := q.2.2.1
  have kc2_0_3 := q.2.2.2.1
  have kc2_0_4 := q.2.2.2.2.1
  have kc2_0_5 := q.2.2.2.2.2.1
  have kf2_0_0 := q.2.2.2.2.2.2.1
  have kf2_0_1 := q.2.2.2.2.2.2.2.1
  have kf2_0_2 := q.2.2.2.2.2.2.2.2.1
  have kf2_0_3 := q.2.2.2.2.2.2.2.2.2.1
  have kf2_0_4 := q.2.2.2.2.2.2.2.2.2.2.1
  have kf2_0_5 := q.2.2.2.2.2.2.2.2.2.2.2.1
  have kl2_0 := q.2.2.2.2.2.2.2.2.2.2.2.2.1
  have kn2_0 := q.2.2.2.2.2.2.2.2.2.2.2.2.2.1
  have km2_0 := q.2.2.2.2.2.2.2.2.2.2.2.2.2.2
  clear q
  have kz2 := h2.size
  (try simp only [World.size_alloc, World.size_setCell, World.size_drew] at kz2)
  have H2 := Lib.hid h2
  clear h2

  go_wp2_with fail
  refine (next_any b la ln lc (at' + 1 + 1) L 6 _ S2.out (by omega) (by decide) (by decide)).mono ?_
  rintro e w3 ⟨y3, rfl, y30, y31, hS3, h3⟩
  obtain ⟨oo, hoo⟩ : ∃ z, 11 + y3 = z := ⟨_, rfl⟩
  have n3 : IntKind.i64.wrap (11 + y3) = oo := by rw [← hoo]; exact IntWalk.i64_in _ ⟨by omega, by omega⟩
  have boo0 : 11 ≤ oo := by omega
  have boo1 : oo ≤ 16 := by omega
  have S3 := Lib.hid hS3
  have R3 := Lib.hid (R2.out.trans h3)
  clear hS3 hoo
  have q := keepr6 h3 (b := w.heap.size) (by first | (simp; done) | (simp; omega) | omega) (by first | (simp; done) | (simp; omega) | omega)
  have kc3_0_0 := q.1
  have kc3_0_1 := q.2.1
  have kc3_0_2 := q.2.2.1
  have kc3_0_3 := q.2.2.2.1
  have kc3_0_4 := q.2.2.2.2.1
  have kc3_0_5 := q.2.2.2.2.2.1
  have kf3_0_0 := q.2.2.2.2.2.2.1
  have kf3_0_1 := q.2.2.2.2.2.2.2.1
  have kf3_0_2 := q.2.2.2.2.2.2.2.2.1
  have kf3_0_3 := q.2.2.2.2.2.2.2.2.2.1
  have kf3_0_4 := q.2.2.2.2.2.2.2.2.2.2.1
  have kf3_0_5 := q.2.2.2.2.2.2.2.2.2.2.2.1
  have kl3_0 := q.2.2.2.2.2.2.2.2.2.2.2.2.1
  have kn3_0 := q.2.2.2.2.2.2.2.2.2.2.2.2.2.1
  have km3_0 := q.2.2.2.2.2.2.2.2.2.2.2.2.2.2
  clear q
  have kz3 := h3.size
  (try simp only [World.size_alloc, World.size_setCell, World.size_drew] at kz3)
  have H3 := Lib.hid h3
  clear h3

  obtain ⟨hG3, hF5⟩ := HG.out q2
  have IQ := Lib.hid (HI.out q2)
  go_wp2_with fail
  refine (mknode_any b la ln lc oo d 2 (fun i => ([dd, dd] : List Int).getD i 0) G (fun dm' t => t.inf nm dm ke = (dm', 0)) ea ke ecap nm dm (fun i hi at2 left2 w2 hS2 hE2 ha2 => IQ.out _ (ds_bd (l := [dd, dd]) rfl (by first | (simp; done) | (simp; omega)) i hi) at2 left2 w2 hS2 hE2 ha2) (at' + 1 + 1 + 1) L _ (S3.out.rel ((Rel.refl _).alloc _)) (HE.out.ro ((R3.out).alloc _)) w3.heap.size 2 (by simp) (by have := S3.out.lt; (try simp at this); omega) (ds_cells (l := [dd, dd]) rfl rfl) (by decide) (by decide) (by omega) (by omega) (by omega) (by omega) (by omega) (by omega) (by omega)).mono ?_
  unfold MkRes
  rintro e w9 ⟨t, x, at2, left2, rfl, hK, hz, hat, hS9, h9, hPR⟩
  have hinf : t.inf nm dm ke = (1, 0) := node_inf' hPR (by omega) (fun E h => by
   have h0 := h 0 (by decide)
   have h1 := h 1 (by decide)
   simp at h0 h1
   unfold resI
   repeat' split
   all_goals omega) (by omega)

  obtain ⟨xa, xc, rfl⟩ := kids_slice (kidsB_to hK)
  have S9 := Lib.hid hS9
  have R9 := Lib.hid (((R3.out).alloc _).trans h9)
  have HK := Lib.hid hK
  have q := keepr6 h9 (b := w.heap.size) (by first | (simp; done) | (simp; omega) | omega) (by first | (simp; done) | (simp; omega) | omega)
  have kc9_0_0 := q.1
  have kc9_0_1 := q.2.1
  have kc9_0_2 := q.2.2.1
  have kc9_0_3 := q.2.2.2.1
  have kc9_0_4 := q.2.2.2.2.1
  have kc9_0_5 := q.2.2.2.2.2.1
  have kf9_0_0 := q.2.2.2.2.2.2.1
  have kf9_0_1 := q.2.2.2.2.2.2.2.1
  have kf9_0_2 := q.2.2.2.2.2.2.2.2.1
  have kf9_0_3 := q.2.2.2.2.2.2.2.2.2.1
  have kf9_0_4 := q.2.2.2.2.2.2.2.2.2.2.1
  have kf9_0_5 := q.2.2.2.2.2.2.2.2.2.2.2.1
  have kl9_0 := q.2.2.2.2.2.2.2.2.2.2.2.2.1
  have kn9_0 := q.2.2.2.2.2.2.2.2.2.2.2.2.2.1
  have km9_0 := q.2.2.2.2.2.2.2.2.2.2.2.2.2.2
  clear q
  have kz9 := h9.size
  (try simp only [World.size_alloc, World.size_setCell, World.size_drew] at kz9)
  have H9 := Lib.hid h9
  clear h9

  clear hS9 hK
  ((try simp only []); (repeat (first | go_values | go_skip | go_guarded | go_step | go_upon | go_in)))
  have hp := put6 S9.out HS.out.nums R9.out (Nat.le_refl w.heap.size) hbw (.int .i64 t.op) (.int .i64 t.va) (.int .i64 t.vb) (.int .i64 t.dm) (.string t.nm) (.slice xa t.cnt xc)
  have g0 : ((((((w9.setCell ⟨w.heap.size, 0, none⟩ (.int .i64 t.op)).setCell ⟨w.heap.size, 1, none⟩ (.int .i64 t.va)).setCell ⟨w.heap.size, 2, none⟩ (.int .i64 t.vb)).setCell ⟨w.heap.size, 3, none⟩ (.int .i64 t.dm)).setCell ⟨w.heap.size, 4, none⟩ (.string t.nm)).setCell ⟨w.heap.size, 5, none⟩ (.slice xa t.cnt xc)).cell? ⟨w.heap.size, 0, none⟩ = some (.int .i64 t.op) := by go_simp
  have g1 : ((((((w9.setCell ⟨w.heap.size, 0, none⟩ (.int .i64 t.op)).setCell ⟨w.heap.size, 1, none⟩ (.int .i64 t.va)).setCell ⟨w.heap.size, 2, none⟩ (.int .i64 t.vb)).setCell ⟨w.heap.size, 3, none⟩ (.int .i64 t.dm)).setCell ⟨w.heap.size, 4, none⟩ (.string t.nm)).setCell ⟨w.heap.size, 5, none⟩ (.slice xa t.cnt xc)).cell? ⟨w.heap.size, 1, none⟩ = some (.int .i64 t.va) := by go_simp
  have g2 : ((((((w9.setCell ⟨w.heap.size, 0, none⟩ (.int .i64 t.op)).setCell ⟨w.heap.size, 1, none⟩ (.int .i64 t.va)).setCell ⟨w.heap.size, 2, none⟩ (.int .i64 t.vb)).setCell ⟨w.heap.size, 3, none⟩ (.int .i64 t.dm)).setCell ⟨w.heap.size, 4, none⟩ (.string t.nm)).setCell ⟨w.heap.size, 5, none⟩ (.slice xa t.cnt xc)).cell? ⟨w.heap.size, 2, none⟩ = some (.int .i64 t.vb) := by go_simp
  have g3 : ((((((w9.setCell ⟨w.heap.size, 0, none⟩ (.int .i64 t.op)).setCell ⟨w.heap.size, 1, none⟩ (.int .i64 t.va)).setCell ⟨w.heap.size, 2, none⟩ (.int .i64 t.vb)).setCell ⟨w.heap.size, 3, none⟩ (.int .i64 t.dm)).setCell ⟨w.heap.size, 4, none⟩ (.string t.nm)).setCell ⟨w.heap.size, 5, none⟩ (.slice xa t.cnt xc)).cell? ⟨w.heap.size, 3, none⟩ = some (.int .i64 t.dm) := by go_simp
  have g4 : ((((((w9.setCell ⟨w.heap.size, 0, none⟩ (.int .i64 t.op)).setCell ⟨w.heap.size, 1, none⟩ (.int .i64 t.va)).setCell ⟨w.heap.size, 2, none⟩ (.int .i64 t.vb)).setCell ⟨w.heap.size, 3, none⟩ (.int .i64 t.dm)).setCell ⟨w.heap.size, 4, none⟩ (.string t.nm)).setCell ⟨w.heap.size, 5, none⟩ (.slice xa t.cnt xc)).cell? ⟨w.heap.size, 4, none⟩ = some (.string t.nm) := by go_simp
  have g5 : ((((((w9.setCell ⟨w.heap.size, 0, none⟩ (.int .i64 t.op)).setCell ⟨w.heap.size, 1, none⟩ (.int .i64 t.va)).setCell ⟨w.heap.size, 2, none⟩ (.int .i64 t.vb)).setCell ⟨w.heap.size, 3, none⟩ (.int .i64 t.dm)).setCell ⟨w.heap.size, 4, none⟩ (.string t.nm)).setCell ⟨w.heap.size, 5, none⟩ (.slice xa t.cnt xc)).cell? ⟨w.heap.size, 5, none⟩ = some (.slice xa t.cnt xc) := by go_simp
  refine bodyPost_ret (v := .agg #[.int .i64 t.op, .int .i64 t.va, .int .i64 t.vb, .int .i64 t.dm, .string t.nm, .slice xa t.cnt xc]) ?_ rfl ⟨t, _, _, _, rfl, kidsB_put6 HK.out (fun q hq => by (try simp at hq); exact ⟨by omega, by omega⟩) _ _ _ _ _ _, (by omega), (by omega), hp.1, hp.2, hinf⟩
  simp [results, Tryz.results47, go_sem, g0, g1, g2, g3, g4, g5]
 ·skip
  go_wp2_with fail
  refine (leaf_any b la ln lc (at' + 1) L 1 ea ke ecap nm dm _ hN S1.out (HE.out.ro R1.out) (by omega) (by omega)).mono ?_
  unfold MkRes
  rintro e w9 ⟨t, x, at2, left2, rfl, hK, hz, hat, hS9, h9, hPR⟩
  have hinf := hPR.2

  obtain ⟨xa, xc, rfl⟩ := kids_slice (kidsB_to hK)
  have S9 := Lib.hid hS9
  have R9 := Lib.hid ((R1.out).trans h9)
  have HK := Lib.hid hK
  have q := keepr6 h9 (b := w.heap.size) (by first | (simp; done) | (simp; omega) | omega) (by first | (simp; done) | (simp; omega) | omega)
  have kc9_0_0 := q.1
  have kc9_0_1 := q.2.1
  have kc9_0_2 := q.2.2.1
  have kc9_0_3 := q.2.2.2.1
  have kc9_0_4 := q.2.2.2.2.1
  have kc9_0_5 := q.2.2.2.2.2.1
  have kf9_0_0 := q.2.2.2.2.2.2.1
  have kf9_0_1 := q.2.2.2.2.2.2.2.1
  have kf9_0_2 := q.2.2.2.2.2.2.2.2.1
  have kf9_0_3 := q.2.2.2.2.2.2.2.2.2.1
  have kf9_0_4 := q.2.2.2.2.2.2.2.2.2.2.1
  have kf9_0_5 := q.2.2.2.2.2.2.2.2.2.2.2.1
  have kl9_0 := q.2.2.2.2.2.2.2.2.2.2.2.2.1
  have kn9_0 := q.2.2.2.2.2.2.2.2.2.2.2.2.2.1
  have km9_0 := q.2.2.2.2.2.2.2.2.2.2.2.2.2.2
  clear q
  have kz9 := h9.size
  (try simp only [World.size_alloc, World.size_setCell, World.size_drew] at kz9)
  have H9 := Lib.hid h9
  clear h9

  clear hS9 hK
  ((try simp only []); (repeat (first | go_values | go_skip | go_guarded | go_step | go_upon | go_in)))
  have hp := put6 S9.out HS.out.nums R9.out (Nat.le_refl w.heap.size) hbw (.int .i64 t.op) (.int .i64 t.va) (.int .i64 t.vb) (.int .i64 t.dm) (.string t.nm) (.slice xa t.cnt xc)
  have g0 : ((((((w9.setCell ⟨w.heap.size, 0, none⟩ (.int .i64 t.op)).setCell ⟨w.heap.size, 1, none⟩ (.int .i64 t.va)).setCell ⟨w.heap.size, 2, none⟩ (.int .i64 t.vb)).setCell ⟨w.heap.size, 3, none⟩ (.int .i64 t.dm)).setCell ⟨w.heap.size, 4, none⟩ (.string t.nm)).setCell ⟨w.heap.size, 5, none⟩ (.slice xa t.cnt xc)).cell? ⟨w.heap.size, 0, none⟩ = some (.int .i64 t.op) := by go_simp
  have g1 : ((((((w9.setCell ⟨w.heap.size, 0, none⟩ (.int .i64 t.op)).setCell ⟨w.heap.size, 1, none⟩ (.int .i64 t.va)).setCell ⟨w.heap.size, 2, none⟩ (.int .i64 t.vb)).setCell ⟨w.heap.size, 3, none⟩ (.int .i64 t.dm)).setCell ⟨w.heap.size, 4, none⟩ (.string t.nm)).setCell ⟨w.heap.size, 5, none⟩ (.slice xa t.cnt xc)).cell? ⟨w.heap.size, 1, none⟩ = some (.int .i64 t.va) := by go_simp
  have g2 : ((((((w9.setCell ⟨w.heap.size, 0, none⟩ (.int .i64 t.op)).setCell ⟨w.heap.size, 1, none⟩ (.int .i64 t.va)).setCell ⟨w.heap.size, 2, none⟩ (.int .i64 t.vb)).setCell ⟨w.heap.size, 3, none⟩ (.int .i64 t.dm)).setCell ⟨w.heap.size, 4, none⟩ (.string t.nm)).setCell ⟨w.heap.size, 5, none⟩ (.slice xa t.cnt xc)).cell? ⟨w.heap.size, 2, none⟩ = some (.int .i64 t.vb) := by go_simp
  have g3 : ((((((w9.setCell ⟨w.heap.size, 0, none⟩ (.int .i64 t.op)).setCell ⟨w.heap.size, 1, none⟩ (.int .i64 t.va)).setCell ⟨w.heap.size, 2, none⟩ (.int .i64 t.vb)).setCell ⟨w.heap.size, 3, none⟩ (.int .i64 t.dm)).setCell ⟨w.heap.size, 4, none⟩ (.string t.nm)).setCell ⟨w.heap.size, 5, none⟩ (.slice xa t.cnt xc)).cell? ⟨w.heap.size, 3, none⟩ = some (.int .i64 t.dm) := by go_simp
  have g4 : ((((((w9.setCell ⟨w.heap.size, 0, none⟩ (.int .i64 t.op)).setCell ⟨w.heap.size, 1, none⟩ (.int .i64 t.va)).setCell ⟨w.heap.size, 2, none⟩ (.int .i64 t.vb)).setCell ⟨w.heap.size, 3, none⟩ (.int .i64 t.dm)).setCell ⟨w.heap.size, 4, none⟩ (.string t.nm)).setCell ⟨w.heap.size, 5, none⟩ (.slice xa t.cnt xc)).cell? ⟨w.heap.size, 4, none⟩ = some (.string t.nm) := by go_simp
  have g5 : ((((((w9.setCell ⟨w.heap.size, 0, none⟩ (.int .i64 t.op)).setCell ⟨w.heap.size, 1, none⟩ (.int .i64 t.va)).setCell ⟨w.heap.size, 2, none⟩ (.int .i64 t.vb)).setCell ⟨w.heap.size, 3, none⟩ (.int .i64 t.dm)).setCell ⟨w.heap.size, 4, none⟩ (.string t.nm)).setCell ⟨w.heap.size, 5, none⟩ (.slice xa t.cnt xc)).cell? ⟨w.heap.size, 5, none⟩ = some (.slice xa t.cnt xc) := by go_simp
  refine bodyPost_ret (v := .agg #[.int .i64 t.op, .int .i64 t.va, .int .i64 t.vb, .int .i64 t.dm, .string t.nm, .slice xa t.cnt xc]) ?_ rfl ⟨t, _, _, _, rfl, kidsB_put6 HK.out (fun q hq => by (try simp at hq); exact ⟨by omega, by omega⟩) _ _ _ _ _ _, (by omega), (by omega), hp.1, hp.2, hinf⟩
  simp [results, Tryz.results47, go_sem, g0, g1, g2, g3, g4, g5]
 ·skip
  go_wp2_with fail
  refine (leaf_any b la ln lc (at' + 1) L 1 ea ke ecap nm dm _ hN S1.out (HE.out.ro R1.out) (by omega) (by omega)).mono ?_
  unfold MkRes
  rintro e w9 ⟨t, x, at2, left2, rfl, hK, hz, hat, hS9, h9, hPR⟩
  have hinf := hPR.2

  obtain ⟨xa, xc, rfl⟩ := kids_slice (kidsB_to hK)
  have S9 := Lib.hid hS9
  have R9 := Lib.hid ((R1.out).trans h9)
  have HK := Lib.hid hK
  have q := keepr6 h9 (b := w.heap.size) (by first | (simp; done) | (simp; omega) | omega) (by first | (simp; done) | (simp; omega) | omega)
  have kc9_0_0 := q.1
  have kc9_0_1 := q.2.1
  have kc9_0_2 := q.2.2.1
  have kc9_0_3 := q.2.2.2.1
  have kc9_0_4 := q.2.2.2.2.1
  have kc9_0_5 := q.2.2.2.2.2.1
  have kf9_0_0 := q.2.2.2.2.2.2.1
  have kf9_0_1 := q.2.2.2.2.2.2.2.1
  have kf9_0_2 := q.2.2.2.2.2.2.2.2.1
  have kf9_0_3 := q.2.2.2.2.2.2.2.2.2.1
  have kf9_0_4 := q.2.2.2.2.2.2.2.2.2.2.1
  have kf9_0_5 := q.2.2.2.2.2.2.2.2.2.2.2.1
  have kl9_0 := q.2.2.2.2.2.2.2.2.2.2.2.2.1
  have kn9_0 := q.2.2.2.2.2.2.2.2.2.2.2.2.2.1
  have km9_0 := q.2.2.2.2.2.2.2.2.2.2.2.2.2.2
  clear q
  have kz9 := h9.size
  (try simp only [World.size_alloc, World.size_setCell, World.size_drew] at kz9)
  have H9 := Lib.hid h9
  clear h9

  clear hS9 hK
  ((try simp only []); (repeat (first | go_values | go_skip | go_guarded | go_step | go_upon | go_in)))
  have hp := put6 S9.out HS.out.nums R9.out (Nat.le_refl w.heap.size) hbw (.int .i64 t.op) (.int .i64 t.va) (.int .i64 t.vb) (.int .i64 t.dm) (.string t.nm) (.slice xa t.cnt xc)
  have g0 : ((((((w9.setCell ⟨w.heap.size, 0, none⟩ (.int .i64 t.op)).setCell ⟨w.heap.size, 1, none⟩ (.int .i64 t.va)).setCell ⟨w.heap.size, 2, none⟩ (.int .i64 t.vb)).setCell ⟨w.heap.size, 3, none⟩ (.int .i64 t.dm)).setCell ⟨w.heap.size, 4, none⟩ (.string t.nm)).setCell ⟨w.heap.size, 5, none⟩ (.slice xa t.cnt xc)).cell? ⟨w.heap.size, 0, none⟩ = some (.int .i64 t.op) := by go_simp
  have g1 : ((((((w9.setCell ⟨w.heap.size, 0, none⟩ (.int .i64 t.op)).setCell ⟨w.heap.size, 1, none⟩ (.int .i64 t.va)).setCell ⟨w.heap.size, 2, none⟩ (.int .i64 t.vb)).setCell ⟨w.heap.size, 3, none⟩ (.int .i64 t.dm)).setCell ⟨w.heap.size, 4, none⟩ (.string t.nm)).setCell ⟨w.heap.size, 5, none⟩ (.slice xa t.cnt xc)).cell? ⟨w.heap.size, 1, none⟩ = some (.int .i64 t.va) := by go_simp
  have g2 : ((((((w9.setCell ⟨w.heap.size, 0, none⟩ (.int .i64 t.op)).setCell ⟨w.heap.size, 1, none⟩ (.int .i64 t.va)).setCell ⟨w.heap.size, 2, none⟩ (.int .i64 t.vb)).setCell ⟨w.heap.size, 3, none⟩ (.int .i64 t.dm)).setCell ⟨w.heap.size, 4, none⟩ (.string t.nm)).setCell ⟨w.heap.size, 5, none⟩ (.slice xa t.cnt xc)).cell? ⟨w.heap.size, 2, none⟩ = some (.int .i64 t.vb) := by go_simp
  have g3 : ((((((w9.setCell ⟨w.heap.size, 0, none⟩ (.int .i64 t.op)).setCell ⟨w.heap.size, 1, none⟩ (.int .i64 t.va)).setCell ⟨w.heap.size, 2, none⟩ (.int .i64 t.vb)).setCell ⟨w.heap.size, 3, none⟩ (.int .i64 t.dm)).setCell ⟨w.heap.size, 4, none⟩ (.string t.nm)).setCell ⟨w.heap.size, 5, none⟩ (.slice xa t.cnt xc)).cell? ⟨w.heap.size, 3, none⟩ = some (.int .i64 t.dm) := by go_simp
  have g4 : ((((((w9.setCell ⟨w.heap.size, 0, none⟩ (.int .i64 t.op)).setCell ⟨w.heap.size, 1, none⟩ (.int .i64 t.va)).setCell ⟨w.heap.size, 2, none⟩ (.int .i64 t.vb)).setCell ⟨w.heap.size, 3, none⟩ (.int .i64 t.dm)).setCell ⟨w.heap.size, 4, none⟩ (.string t.nm)).setCell ⟨w.heap.size, 5, none⟩ (.slice xa t.cnt xc)).cell? ⟨w.heap.size, 4, none⟩ = some (.string t.nm) := by go_simp
  have g5 : ((((((w9.setCell ⟨w.heap.size, 0, none⟩ (.int .i64 t.op)).setCell ⟨w.heap.size, 1, none⟩ (.int .i64 t.va)).setCell ⟨w.heap.size, 2, none⟩ (.int .i64 t.vb)).setCell ⟨w.heap.size, 3, none⟩ (.int .i64 t.dm)).setCell ⟨w.heap.size, 4, none⟩ (.string t.nm)).setCell ⟨w.heap.size, 5, none⟩ (.slice xa t.cnt xc)).cell? ⟨w.heap.size, 5, none⟩ = some (.slice xa t.cnt xc) := by go_simp
  refine bodyPost_ret (v := .agg #[.int .i64 t.op, .int .i64 t.va, .int .i64 t.vb, .int .i64 t.dm, .string t.nm, .slice xa t.cnt xc]) ?_ rfl ⟨t, _, _, _, rfl, kidsB_put6 HK.out (fun q hq => by (try simp at hq); exact ⟨by omega, by omega⟩) _ _ _ _ _ _, (by omega), (by omega), hp.1, hp.2, hinf⟩
  simp [results, Tryz.results47, go_sem, g0, g1, g2, g3, g4, g5]
 ·skip
  go_wp2_with fail
  refine (leaf_any b la ln lc (at' + 1) L 1 ea ke ecap nm dm _ hN S1.out (HE.out.ro R1.out) (by omega) (by omega)).mono ?_
  unfold MkRes
  rintro e w9 ⟨t, x, at2, left2, rfl, hK, hz, hat, hS9, h9, hPR⟩
  have hinf := hPR.2

  obtain ⟨xa, xc, rfl⟩ := kids_slice (kidsB_to hK)
  have S9 := Lib.hid hS9
  have R9 := Lib.hid ((R1.out).trans h9)
  have HK := Lib.hid hK
  have q := keepr6 h9 (b := w.heap.size) (by first | (simp; done) | (simp; omega) | omega) (by first | (simp; done) | (simp; omega) | omega)
  have kc9_0_0 := q.1
  have kc9_0_1 := q.2.1
  have kc9_0_2 := q.2.2.1
  have kc9_0_3 := q.2.2.2.1
  have kc9_0_4 := q.2.2.2.2.1
  have kc9_0_5 := q.2.2.2.2.2.1
  have kf9_0_0 := q.2.2.2.2.2.2.1
  have kf9_0_1 := q.2.2.2.2.2.2.2.1
  have kf9_0_2 := q.2.2.2.2.2.2.2.2.1
  have kf9_0_3 := q.2.2.2.2.2.2.2.2.2.1
  have kf9_0_4 := q.2.2.2.2.2.2.2.2.2.2.1
  have kf9_0_5 := q.2.2.2.2.2.2.2.2.2.2.2.1
  have kl9_0 := q.2.2.2.2.2.2.2.2.2.2.2.2.1
  have kn9_0 := q.2.2.2.2.2.2.2.2.2.2.2.2.2.1
  have km9_0 := q.2.2.2.2.2.2.2.2.2.2.2.2.2.2
  clear q
  have kz9 := h9.size
  (try simp only [World.size_alloc, World.size_setCell, World.size_drew] at kz9)
  have H9 := Lib.hid h9
  clear h9

  clear hS9 hK
  ((try simp only []); (repeat (first | go_values | go_skip | go_guarded | go_step | go_upon | go_in)))
  have hp := put6 S9.out HS.out.nums R9.out (Nat.le_refl w.heap.size) hbw (.int .i64 t.op) (.int .i64 t.va) (.int .i64 t.vb) (.int .i64 t.dm) (.string t.nm) (.slice xa t.cnt xc)
  have g0 : ((((((w9.setCell ⟨w.heap.size, 0, none⟩ (.int .i64 t.op)).setCell ⟨w.heap.size, 1, none⟩ (.int .i64 t.va)).setCell ⟨w.heap.size, 2, none⟩ (.int .i64 t.vb)).setCell ⟨w.heap.size, 3, none⟩ (.int .i64 t.dm)).setCell ⟨w.heap.size, 4, none⟩ (.string t.nm)).setCell ⟨w.heap.size, 5, none⟩ (.slice xa t.cnt xc)).cell? ⟨w.heap.size, 0, none⟩ = some (.int .i64 t.op) := by go_simp
  have g1 : ((((((w9.setCell ⟨w.heap.size, 0, none⟩ (.int .i64 t.op)).setCell ⟨w.heap.size, 1, none⟩ (.int .i64 t.va)).setCell ⟨w.heap.size, 2, none⟩ (.int .i64 t.vb)).setCell ⟨w.heap.size, 3, none⟩ (.int .i64 t.dm)).setCell ⟨w.heap.size, 4, none⟩ (.string t.nm)).setCell ⟨w.heap.size, 5, none⟩ (.slice xa t.cnt xc)).cell? ⟨w.heap.size, 1, none⟩ = some (.int .i64 t.va) := by go_simp
  have g2 : ((((((w9.setCell ⟨w.heap.size, 0, none⟩ (.int .i64 t.op)).setCell ⟨w.heap.size, 1, none⟩ (.int .i64 t.va)).setCell ⟨w.heap.size, 2, none⟩ (.int .i64 t.vb)).setCell ⟨w.heap.size, 3, none⟩ (.int .i64 t.dm)).setCell ⟨w.heap.size, 4, none⟩ (.string t.nm)).setCell ⟨w.heap.size, 5, none⟩ (.slice xa t.cnt xc)).cell? ⟨w.heap.size, 2, none⟩ = some (.int .i64 t.vb) := by go_simp
  have g3 : ((((((w9.setCell ⟨w.heap.size, 0, none⟩ (.int .i64 t.op)).setCell ⟨w.heap.size, 1, none⟩ (.int .i64 t.va)).setCell ⟨w.heap.size, 2, none⟩ (.int .i64 t.vb)).setCell ⟨w.heap.size, 3, none⟩ (.int .i64 t.dm)).setCell ⟨w.heap.size, 4, none⟩ (.string t.nm)).setCell ⟨w.heap.size, 5, none⟩ (.slice xa t.cnt xc)).cell? ⟨w.heap.size, 3, none⟩ = some (.int .i64 t.dm) := by go_simp
  have g4 : ((((((w9.setCell ⟨w.heap.size, 0, none⟩ (.int .i64 t.op)).setCell ⟨w.heap.size, 1, none⟩ (.int .i64 t.va)).setCell ⟨w.heap.size, 2, none⟩ (.int .i64 t.vb)).setCell ⟨w.heap.size, 3, none⟩ (.int .i64 t.dm)).setCell ⟨w.heap.size, 4, none⟩ (.string t.nm)).setCell ⟨w.heap.size, 5, none⟩ (.slice xa t.cnt xc)).cell? ⟨w.heap.size, 4, none⟩ = some (.string t.nm) := by go_simp
  have g5 : ((((((w9.setCell ⟨w.heap.size, 0, none⟩ (.int .i64 t.op)).setCell ⟨w.heap.size, 1, none⟩ (.int .i64 t.va)).setCell ⟨w.heap.size, 2, none⟩ (.int .i64 t.vb)).setCell ⟨w.heap.size, 3, none⟩ (.int .i64 t.dm)).setCell ⟨w.heap.size, 4, none⟩ (.string t.nm)).setCell ⟨w.heap.size, 5, none⟩ (.slice xa t.cnt xc)).cell? ⟨w.heap.size, 5, none⟩ = some (.slice xa t.cnt xc) := by go_simp
  refine bodyPost_ret (v := .agg #[.int .i64 t.op, .int .i64 t.va, .int .i64 t.vb, .int .i64 t.dm, .string t.nm, .slice xa t.cnt xc]) ?_ rfl ⟨t, _, _, _, rfl, kidsB_put6 HK.out (fun q hq => by (try simp at hq); exact ⟨by omega, by omega⟩) _ _ _ _ _ _, (by omega), (by omega), hp.1, hp.2, hinf⟩
  simp [results, Tryz.results47, go_sem, g0, g1, g2, g3, g4, g5]
 ·skip
  go_wp2_with fail
  refine (leaf_any b la ln lc (at' + 1) L 1 ea ke ecap nm dm _ hN S1.out (HE.out.ro R1.out) (by omega) (by omega)).mono ?_
  unfold MkRes
  rintro e w9 ⟨t, x, at2, left2, rfl, hK, hz, hat, hS9, h9, hPR⟩
  have hinf := hPR.2

  obtain ⟨xa, xc, rfl⟩ := kids_slice (kidsB_to hK)
  have S9 := Lib.hid hS9
  have R9 := Lib.hid ((R1.out).trans h9)
  have HK := Lib.hid hK
  have q := keepr6 h9 (b := w.heap.size) (by first | (simp; done) | (simp; omega) | omega) (by first | (simp; done) | (simp; omega) | omega)
  have kc9_0_0 := q.1
  have kc9_0_1 := q.2.1
  have kc9_0_2 := q.2.2.1
  have kc9_0_3 := q.2.2.2.1
  have kc9_0_4 := q.2.2.2.2.1
  have kc9_0_5 := q.2.2.2.2.2.1
  have kf9_0_0 := q.2.2.2.2.2.2.1
  have kf9_0_1 := q.2.2.2.2.2.2.2.1
  have kf9_0_2 := q.2.2.2.2.2.2.2.2.1
  have kf9_0_3 := q.2.2.2.2.2.2.2.2.2.1
  have kf9_0_4 := q.2.2.2.2.2.2.2.2.2.2.1
  have kf9_0_5 := q.2.2.2.2.2.2.2.2.2.2.2.1
  have kl9_0 := q.2.2.2.2.2.2.2.2.2.2.2.2.1
  have kn9_0 := q.2.2.2.2.2.2.2.2.2.2.2.2.2.1
  have km9_0 := q.2.2.2.2.2.2.2.2.2.2.2.2.2.2
  clear q
  have kz9 := h9.size
  (try simp only [World.size_alloc, World.size_setCell, World.size_drew] at kz9)
  have H9 := Lib.hid h9
  clear h9

  clear hS9 hK
  ((try simp only []); (repeat (first | go_values | go_skip | go_guarded | go_step | go_upon | go_in)))
  have hp := put6 S9.out HS.out.nums R9.out (Nat.le_refl w.heap.size) hbw (.int .i64 t.op) (.int .i64 t.va) (.int .i64 t.vb) (.int .i64 t.dm) (.string t.nm) (.slice xa t.cnt xc)
  have g0 : ((((((w9.setCell ⟨w.heap.size, 0, none⟩ (.int .i64 t.op)).setCell ⟨w.heap.size, 1, none⟩ (.int .i64 t.va)).setCell ⟨w.heap.size, 2, none⟩ (.int .i64 t.vb)).setCell ⟨w.heap.size, 3, none⟩ (.int .i64 t.dm)).setCell ⟨w.heap.size, 4, none⟩ (.string t.nm)).setCell ⟨w.heap.size, 5, none⟩ (.slice xa t.cnt xc)).cell? ⟨w.heap.size, 0, none⟩ = some (.int .i64 t.op) := by go_simp
  have g1 : ((((((w9.setCell ⟨w.heap.size, 0, none⟩ (.int .i64 t.op)).setCell ⟨w.heap.size, 1, none⟩ (.int .i64 t.va)).setCell ⟨w.heap.size, 2, none⟩ (.int .i64 t.vb)).setCell ⟨w.heap.size, 3, none⟩ (.int .i64 t.dm)).setCell ⟨w.heap.size, 4, none⟩ (.string t.nm)).setCell ⟨w.heap.size, 5, none⟩ (.slice xa t.cnt xc)).cell? ⟨w.heap.size, 1, none⟩ = some (.int .i64 t.va) := by go_simp
  have g2 : ((((((w9.setCell ⟨w.heap.size, 0, none⟩ (.int .i64 t.op)).setCell ⟨w.heap.size, 1, none⟩ (.int .i64 t.va)).setCell ⟨w.heap.size, 2, none⟩ (.int .i64 t.vb)).setCell ⟨w.heap.size, 3, none⟩ (.int .i64 t.dm)).setCell ⟨w.heap.size, 4, none⟩ (.string t.nm)).setCell ⟨w.heap.size, 5, none⟩ (.slice xa t.cnt xc)).cell? ⟨w.heap.size, 2, none⟩ = some (.int .i64 t.vb) := by go_simp
  have g3 : ((((((w9.setCell ⟨w.heap.size, 0, none⟩ (.int .i64 t.op)).setCell ⟨w.heap.size, 1, none⟩ (.int .i64 t.va)).setCell ⟨w.heap.size, 2, none⟩ (.int .i64 t.vb)).setCell ⟨w.heap.size, 3, none⟩ (.int .i64 t.dm)).setCell ⟨w.heap.size, 4, none⟩ (.string t.nm)).setCell ⟨w.heap.size, 5, none⟩ (.slice xa t.cnt xc)).cell? ⟨w.heap.size, 3, none⟩ = some (.int .i64 t.dm) := by go_simp
  have g4 : ((((((w9.setCell ⟨w.heap.size, 0, none⟩ (.int .i64 t.op)).setCell ⟨w.heap.size, 1, none⟩ (.int .i64 t.va)).setCell ⟨w.heap.size, 2, none⟩ (.int .i64 t.vb)).setCell ⟨w.heap.size, 3, none⟩ (.int .i64 t.dm)).setCell ⟨w.heap.size, 4, none⟩ (.string t.nm)).setCell ⟨w.heap.size, 5, none⟩ (.slice xa t.cnt xc)).cell? ⟨w.heap.size, 4, none⟩ = some (.string t.nm) := by go_simp
  have g5 : ((((((w9.setCell ⟨w.heap.size, 0, none⟩ (.int .i64 t.op)).setCell ⟨w.heap.size, 1, none⟩ (.int .i64 t.va)).setCell ⟨w.heap.size, 2, none⟩ (.int .i64 t.vb)).setCell ⟨w.heap.size, 3, none⟩ (.int .i64 t.dm)).setCell ⟨w.heap.size, 4, none⟩ (.string t.nm)).setCell ⟨w.heap.size, 5, none⟩ (.slice xa t.cnt xc)).cell? ⟨w.heap.size, 5, none⟩ = some (.slice xa t.cnt xc) := by go_simp
  refine bodyPost_ret (v := .agg #[.int .i64 t.op, .int .i64 t.va, .int .i64 t.vb, .int .i64 t.dm, .string t.nm, .slice xa t.cnt xc]) ?_ rfl ⟨t, _, _, _, rfl, kidsB_put6 HK.out (fun q hq => by (try simp at hq); exact ⟨by omega, by omega⟩) _ _ _ _ _ _, (by omega), (by omega), hp.1, hp.2, hinf⟩
  simp [results, Tryz.results47, go_sem, g0, g1, g2, g3, g4, g5]
 ·skip
  go_wp2_with fail
  refine (leaf_any b la ln lc (at' + 1) L 1 ea ke ecap nm dm _ hN S1.out (HE.out.ro R1.out) (by omega) (by omega)).mono ?_
  unfold MkRes
  rintro e w9 ⟨t, x, at2, left2, rfl, hK, hz, hat, hS9, h9, hPR⟩
  have hinf := hPR.2

  obtain ⟨xa, xc, rfl⟩ := kids_slice (kidsB_to hK)
  have S9 := Lib.hid hS9
  have R9 := Lib.hid ((R1.out).trans h9)
  have HK := Lib.hid hK
  have q := keepr6 h9 (b := w.heap.size) (by first | (simp; done) | (simp; omega) | omega) (by first | (simp; done) | (simp; omega) | omega)
  have kc9_0_0 := q.1
  have kc9_0_1 := q.2.1
  have kc9_0_2 := q.2.2.1
  have kc9_0_3 := q.2.2.2.1
  have kc9_0_4 := q.2.2.2.2.1
  have kc9_0_5 := q.2.2.2.2.2.1
  have kf9_0_0 := q.2.2.2.2.2.2.1
  have kf9_0_1 := q.2.2.2.2.2.2.2.1
  have kf9_0_2 := q.2.2.2.2.2.2.2.2.1
  have kf9_0_3 := q.2.2.2.2.2.2.2.2.2.1
  have kf9_0_4 := q.2.2.2.2.2.2.2.2.2.2.1
  have kf9_0_5 := q.2.2.2.2.2.2.2.2.2.2.2.1
  have kl9_0 := q.2.2.2.2.2.2.2.2.2.2.2.2.1
  have kn9_0 := q.2.2.2.2.2.2.2.2.2.2.2.2.2.1
  have km9_0 := q.2.2.2.2.2.2.2.2.2.2.2.2.2.2
  clear q
  have kz9 := h9.size
  (try simp only [World.size_alloc, World.size_setCell, World.size_drew] at kz9)
  have H9 := Lib.hid h9
  clear h9

  clear hS9 hK
  ((try simp only []); (repeat (first | go_values | go_skip | go_guarded | go_step | go_upon | go_in)))
  have hp := put6 S9.out HS.out.nums R9.out (Nat.le_refl w.heap.size) hbw (.int .i64 t.op) (.int .i64 t.va) (.int .i64 t.vb) (.int .i64 t.dm) (.string t.nm) (.slice xa t.cnt xc)
  have g0 : ((((((w9.setCell ⟨w.heap.size, 0, none⟩ (.int .i64 t.op)).setCell ⟨w.heap.size, 1, none⟩ (.int .i64 t.va)).setCell ⟨w.heap.size, 2, none⟩ (.int .i64 t.vb)).setCell ⟨w.heap.size, 3, none⟩ (.int .i64 t.dm)).setCell ⟨w.heap.size, 4, none⟩ (.string t.nm)).setCell ⟨w.heap.size, 5, none⟩ (.slice xa t.cnt xc)).cell? ⟨w.heap.size, 0, none⟩ = some (.int .i64 t.op) := by go_simp
  have g1 : ((((((w9.setCell ⟨w.heap.size, 0, none⟩ (.int .i64 t.op)).setCell ⟨w.heap.size, 1, none⟩ (.int .i64 t.va)).setCell ⟨w.heap.size, 2, none⟩ (.int .i64 t.vb)).setCell ⟨w.heap.size, 3, none⟩ (.int .i64 t.dm)).setCell ⟨w.heap.size, 4, none⟩ (.string t.nm)).setCell ⟨w.heap.size, 5, none⟩ (.slice xa t.cnt xc)).cell? ⟨w.heap.size, 1, none⟩ = some (.int .i64 t.va) := by go_simp
  have g2 : ((((((w9.setCell ⟨w.heap.size, 0, none⟩ (.int .i64 t.op)).setCell ⟨w.heap.size, 1, none⟩ (.int .i64 t.va)).setCell ⟨w.heap.size, 2, none⟩ (.int .i64 t.vb)).setCell ⟨w.heap.size, 3, none⟩ (.int .i64 t.dm)).setCell ⟨w.heap.size, 4, none⟩ (.string t.nm)).setCell ⟨w.heap.size, 5, none⟩ (.slice xa t.cnt xc)).cell? ⟨w.heap.size, 2, none⟩ = some (.int .i64 t.vb) := by go_simp
  have g3 : ((((((w9.setCell ⟨w.heap.size, 0, none⟩ (.int .i64 t.op)).setCell ⟨w.heap.size, 1, none⟩ (.int .i64 t.va)).setCell ⟨w.heap.size, 2, none⟩ (.int .i64 t.vb)).setCell ⟨w.heap.size, 3, none⟩ (.int .i64 t.dm)).setCell ⟨w.heap.size, 4, none⟩ (.string t.nm)).setCell ⟨w.heap.size, 5, none⟩ (.slice xa t.cnt xc)).cell? ⟨w.heap.size, 3, none⟩ = some (.int .i64 t.dm) := by go_simp
  have g4 : ((((((w9.setCell ⟨w.heap.size, 0, none⟩ (.int .i64 t.op)).setCell ⟨w.heap.size, 1, none⟩ (.int .i64 t.va)).setCell ⟨w.heap.size, 2, none⟩ (.int .i64 t.vb)).setCell ⟨w.heap.size, 3, none⟩ (.int .i64 t.dm)).setCell ⟨w.heap.size, 4, none⟩ (.string t.nm)).setCell ⟨w.heap.size, 5, none⟩ (.slice xa t.cnt xc)).cell? ⟨w.heap.size, 4, none⟩ = some (.string t.nm) := by go_simp
  have g5 : ((((((w9.setCell ⟨w.heap.size, 0, none⟩ (.int .i64 t.op)).setCell ⟨w.heap.size, 1, none⟩ (.int .i64 t.va)).setCell ⟨w.heap.size, 2, none⟩ (.int .i64 t.vb)).setCell ⟨w.heap.size, 3, none⟩ (.int .i64 t.dm)).setCell ⟨w.heap.size, 4, none⟩ (.string t.nm)).setCell ⟨w.heap.size, 5, none⟩ (.slice xa t.cnt xc)).cell? ⟨w.heap.size, 5, none⟩ = some (.slice xa t.cnt xc) := by go_simp
  refine bodyPost_ret (v := .agg #[.int .i64 t.op, .int .i64 t.va, .int .i64 t.vb, .int .i64 t.dm, .string t.nm, .slice xa t.cnt xc]) ?_ rfl ⟨t, _, _, _, rfl, kidsB_put6 HK.out (fun q hq => by (try simp at hq); exact ⟨by omega, by omega⟩) _ _ _ _ _ _, (by omega), (by omega), hp.1, hp.2, hinf⟩
  simp [results, Tryz.results47, go_sem, g0, g1, g2, g3, g4, g5]
end Go.Proofs.YtkghmghjgikihaaGreatDoor

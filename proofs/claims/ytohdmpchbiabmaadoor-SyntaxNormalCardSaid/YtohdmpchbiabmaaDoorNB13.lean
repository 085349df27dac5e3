/- Bundle of texts: each says at its head what it proves; no conditions but those printed. -/
import Derived.Test.YtohdmpchbiabmaaDoorNB11
import Derived.Test.YtohdmpchbiabmaaDoorNB3
/- The parser's factor, by fuel. No conditions but those printed. -/
namespace Go.Proofs.YtohdmpchbiabmaaDoor
open Go.RowKit Cal Str Tok Frac Txt Tree
attribute [local go_sem] calmUpon
set_option linter.unusedVariables false
set_option linter.unusedSimpArgs false
theorem numT_bd (tk : List Tk) (s : Pt) : 0 ≤ numT tk 1 45 s ∧ numT tk 1 45 s ≤ 45 := by
 unfold numT
 split
 ·rename_i h
  unfold numO pkT at *
  split at h
  ·rename_i t ht
   simp only [Bool.and_eq_true, decide_eq_true_eq] at h
   omega
  ·cases h
 ·omega
theorem decX_bd (s : ByteArray) : 0 ≤ decX s ∧ decX s ≤ 4 := by
 cases hB : decB s
 ·obtain ⟨-, -, e⟩ := dec_no hB
  rw [e]; omega
 ·have := fdB_iff.1 (dec_only hB rfl rfl rfl)
  omega
theorem namT_size {tk : List Tk} (h : TksOk tk) (s : Pt) : (namT tk s).size ≤ 140737488355328 := by
 unfold namT
 split
 ·exact pkT_size h s
 ·decide
theorem mm_ents (W : World) (T : TypeId) {g : Nat} (hg : g = W.heap.size) : ∀ (i : Nat) p, mmL[i]? = some p → (W.alloc (.cells #[.string ⟨#[109, 105, 110]⟩, .int .i64 19, .string ⟨#[109, 97, 120]⟩, .int .i64 20] T)).cell? ⟨g, i * 2, none⟩ = some (.string ⟨p.1.toArray⟩) ∧ (W.alloc (.cells #[.string ⟨#[109, 105, 110]⟩, .int .i64 19, .string ⟨#[109, 97, 120]⟩, .int .i64 20] T)).cell? ⟨g, i * 2 + 1, none⟩ = some (.int .i64 p.2) := by
 subst hg
 intro i p hp
 rcases (show i = 0 ∨ i = 1 ∨ 2 ≤ i by omega) with rfl | rfl | h
 ·cases hp; exact ⟨by simp, by simp⟩
 ·cases hp; exact ⟨by simp, by simp⟩
 ·rw [show mmL[i]? = none from List.getElem?_eq_none h] at hp; cases hp
set_option maxRecDepth 20000 in
set_option maxHeartbeats 8000000 in
theorem pfactor_step (b G : Nat) (tk : List Tk) (E : Int) (hT : TksOk tk) (f : Nat) (H0 : ∀ g, g ≤ f → PC b G tk E 32 0 g) (H7 : ∀ g, g ≤ f → PC b G tk E 160 7 g) : PC b G tk E 160 7 (f + 1) := by
 intro w s hP hf
 have hf' : 10 * rem tk s + 1 ≤ f + 1 := hf
 have HP := Lib.hid hP
 have hlt := hP.lt
 have hbw : w.heap.size ≠ b := by omega
 have HH0 := Lib.hid H0
 have HH7 := Lib.hid H7
 clear hP hf H0 H7
 rw [pe_7]

 have BR0 := Lib.hid (BoxAt.new (w := w) (g := w.heap.size) rfl (.int .i64 0) (.int .i64 0) (.int .i64 0) (.int .i64 0) (.string ⟨#[]⟩) (.slice none 0 0) 42)
 have P0 := Lib.hid (HP.out.rel ((Rel.refl _).alloc (.cells #[.int .i64 0, .int .i64 0, .int .i64 0, .int .i64 0, .string ⟨#[]⟩, .slice none 0 0] 42)))
 have R0 := Lib.hid ((Ro.refl b w).alloc (.cells #[.int .i64 0, .int .i64 0, .int .i64 0, .int .i64 0, .string ⟨#[]⟩, .slice none 0 0] 42))
 have z0 : w.heap.size + 1 ≤ (w.alloc (.cells #[.int .i64 0, .int .i64 0, .int .i64 0, .int .i64 0, .string ⟨#[]⟩, .slice none 0 0] 42)).heap.size := by simp
 obtain ⟨k1, h1⟩ : ∃ k, accB tk kNeg s = k := ⟨_, rfl⟩
 rw [h1]
 cases k1
 rotate_left
 ·skip
  rw [if_pos rfl]
  obtain ⟨-, hrem⟩ := acc_beh h1

  obtain ⟨t9, ht9⟩ : ∃ t, (pe tk f 7 .no s.adv).1 = t := ⟨_, rfl⟩
  obtain ⟨s9, hs9⟩ : ∃ t, (pe tk f 7 .no s.adv).2 = t := ⟨_, rfl⟩
  (try rw [ht9])
  (try rw [hs9])
  have b9 := (pe_beh tk f 7 .no s.adv (by unfold md; decide)).rem
  rw [hs9] at b9
  have Ht9 := Lib.hid ht9
  have Hs9 := Lib.hid hs9
  clear ht9 hs9
  unfold PeRes
  go_enter Tryd.func160, Tryd.ntmps160
  go_wp2_with fail

  have A := Lib.hid (accept_any b G tk E s ⟨#[45]⟩ _ P0.out)
  unfold AccRes accP at A
  have eK : (⟨#[45]⟩ : ByteArray).data.toList = kNeg := rfl
  rw [eK] at A
  clear eK
  rw [h1, if_pos rfl] at A

  go_wp2_with fail
  refine A.out.mono ?_
  rintro e w1 ⟨rfl, hP1, h1⟩
  clear A
  have P1 := Lib.hid (hP1)
  have R1 := Lib.hid (R0.out.trans h1)
  have BR1 := Lib.hid (BR0.out.ro h1 hbw)
  have y1 : w.heap.size + 1 ≤ w1.heap.size := Nat.le_trans z0 h1.size
  have z1 := y1
  clear hP1 h1
  have C := Lib.hid (HH7.out f (Nat.le_refl _) _ s.adv P1.out (show 10 * rem tk s.adv + 1 ≤ f by omega))
  unfold PeRes at C
  rw [Ht9.out, Hs9.out] at C
  go_wp2_with fail
  refine C.out.mono ?_
  rintro e w9 ⟨x9, rfl, hK9, hP9, h9⟩
  obtain ⟨xa9, xc9, rfl⟩ := kids_slice (kidsB_to hK9)
  clear C
  have P9 := Lib.hid (hP9)
  have R9 := Lib.hid (R1.out.trans h9)
  have BR9 := Lib.hid (BR1.out.ro h9 hbw)
  have K9_9 := Lib.hid (kidsB_mono (Q := fun q => w.heap.size < q) hK9 (fun q hq hp => by omega))
  have y9 : w.heap.size + 1 ≤ w9.heap.size := Nat.le_trans z1 h9.size
  have z9 := y9
  clear hP9 h9 hK9
  obtain ⟨rl, rc0, rc1, rc2, rc3, rc4, rc5, rf0, rf1, rf2, rf3, rf4, rf5⟩ := BR9.out
  ((try simp only []); (repeat (first | go_values | go_skip | go_guarded | go_step | go_upon | go_in)))
  have hp := prs_put6 P9.out HP.out.toks R9.out (Nat.le_refl w.heap.size) hbw (.int .i64 4) (.int .i64 0) (.int .i64 0) (.int .i64 0) (.string ⟨#[]⟩) (.slice (some ⟨w9.heap.size, 0, none⟩) 1 1)
  have g0 : (((((((w9.setCell ⟨w.heap.size, 0, none⟩ (.int .i64 4)).setCell ⟨w.heap.size, 1, none⟩ (.int .i64 0)).setCell ⟨w.heap.size, 2, none⟩ (.int .i64 0)).setCell ⟨w.heap.size, 3, none⟩ (.int .i64 0)).setCell ⟨w.heap.size, 4, none⟩ (.string ⟨#[]⟩)).setCell ⟨w.heap.size, 5, none⟩ (.slice (some ⟨w9.heap.size, 0, none⟩) 1 1)).alloc (.cells #[.int .i64 t9.op, .int .i64 t9.va, .int .i64 t9.vb, .int .i64 t9.dm, .string t9.nm, .slice xa9 t9.cnt xc9] 42)).cell? ⟨w.heap.size, 0, none⟩ = some (.int .i64 4) := by go_simp
  have g1 : (((((((w9.setCell ⟨w.heap.size, 0, none⟩ (.int .i64 4)).setCell ⟨w.heap.size, 1, none⟩ (.int .i64 0)).setCell ⟨w.heap.size, 2, none⟩ (.int .i64 0)).setCell ⟨w.heap.size, 3, none⟩ (.int .i64 0)).setCell ⟨w.heap.size, 4, none⟩ (.string ⟨#[]⟩)).setCell ⟨w.heap.size, 5, none⟩ (.slice (some ⟨w9.heap.size, 0, none⟩) 1 1)).alloc (.cells #[.int .i64 t9.op, .int .i64 t9.va, .int .i64 t9.vb, .int .i64 t9.dm, .string t9.nm, .slice xa9 t9.cnt xc9] 42)).cell? ⟨w.heap.size, 1, none⟩ = some (.int .i64 0) := by go_simp
  have g2 : (((((((w9.setCell ⟨w.heap.size, 0, none⟩ (.int .i64 4)).setCell ⟨w.heap.size, 1, none⟩ (.int .i64 0)).setCell ⟨w.heap.size, 2, none⟩ (.int .i64 0)).setCell ⟨w.heap.size, 3, none⟩ (.int .i64 0)).setCell ⟨w.heap.size, 4, none⟩ (.string ⟨#[]⟩)).setCell ⟨w.heap.size, 5, none⟩ (.slice (some ⟨w9.heap.size, 0, none⟩) 1 1)).alloc (.cells #[.int .i64 t9.op, .int .i64 t9.va, .int .i64 t9.vb, .int .i64 t9.dm, .string t9.nm, .slice xa9 t9.cnt xc9] 42)).cell? ⟨w.heap.size, 2, none⟩ = some (.int .i64 0) := by go_simp
  have g3 : (((((((w9.setCell ⟨w.heap.size, 0, none⟩ (.int .i64 4)).setCell ⟨w.heap.size, 1, none⟩ (.int .i64 0)).setCell ⟨w.heap.size, 2, none⟩ (.int .i64 0)).setCell ⟨w.heap.size, 3, none⟩ (.int .i64 0)).setCell ⟨w.heap.size, 4, none⟩ (.string ⟨#[]⟩)).setCell ⟨w.heap.size, 5, none⟩ (.slice (some ⟨w9.heap.size, 0, none⟩) 1 1)).alloc (.cells #[.int .i64 t9.op, .int .i64 t9.va, .int .i64 t9.vb, .int .i64 t9.dm, .string t9.nm, .slice xa9 t9.cnt xc9] 42)).cell? ⟨w.heap.size, 3, none⟩ = some (.int .i64 0) := by go_simp
  have g4 : (((((((w9.setCell ⟨w.heap.size, 0, none⟩ (.int .i64 4)).setCell ⟨w.heap.size, 1, none⟩ (.int .i64 0)).setCell ⟨w.heap.size, 2, none⟩ (.int .i64 0)).setCell ⟨w.heap.size, 3, none⟩ (.int .i64 0)).setCell ⟨w.heap.size, 4, none⟩ (.string ⟨#[]⟩)).setCell ⟨w.heap.size, 5, none⟩ (.slice (some ⟨w9.heap.size, 0, none⟩) 1 1)).alloc (.cells #[.int .i64 t9.op, .int .i64 t9.va, .int .i64 t9.vb, .int .i64 t9.dm, .string t9.nm, .slice xa9 t9.cnt xc9] 42)).cell? ⟨w.heap.size, 4, none⟩ = some (.string ⟨#[]⟩) := by go_simp
  have g5 : (((((((w9.setCell ⟨w.heap.size, 0, none⟩ (.int .i64 4)).setCell ⟨w.heap.size, 1, none⟩ (.int .i64 0)).setCell ⟨w.heap.size, 2, none⟩ (.int .i64 0)).setCell ⟨w.heap.size, 3, none⟩ (.int .i64 0)).setCell ⟨w.heap.size, 4, none⟩ (.string ⟨#[]⟩)).setCell ⟨w.heap.size, 5, none⟩ (.slice (some ⟨w9.heap.size, 0, none⟩) 1 1)).alloc (.cells #[.int .i64 t9.op, .int .i64 t9.va, .int .i64 t9.vb, .int .i64 t9.dm, .string t9.nm, .slice xa9 t9.cnt xc9] 42)).cell? ⟨w.heap.size, 5, none⟩ = some (.slice (some ⟨w9.heap.size, 0, none⟩) 1 1) := by go_simp
  refine bodyPost_ret (v := .agg #[.int .i64 4, .int .i64 0, .int .i64 0, .int .i64 0, .string ⟨#[]⟩, .slice (some ⟨w9.heap.size, 0, none⟩) 1 1]) ?_ rfl ⟨_, rfl, one_tree (op := 4) (by simp [World.setCell]) (by omega) ⟨by decide, by decide⟩ (kidsB_p6 K9_9.out (g := w.heap.size) (Q := fun q => w.heap.size ≤ q) (fun q _ hq => ⟨by omega, by omega⟩) _ _ _ _ _ _), hp.1.rel ((Rel.refl _).alloc _), hp.2.alloc _⟩
  simp [results, Tryd.results160, go_sem, g0, g1, g2, g3, g4, g5]
 rw [if_neg (by simp)]
 obtain ⟨k2, h2⟩ : ∃ k, accB tk kOpen s = k := ⟨_, rfl⟩
 rw [h2]
 cases k2
 rotate_left
 ·skip
  rw [if_pos rfl]
  obtain ⟨-, hrem⟩ := acc_beh h2

  obtain ⟨t9, ht9⟩ : ∃ t, (pe tk f 0 .no s.adv).1 = t := ⟨_, rfl⟩
  obtain ⟨s9, hs9⟩ : ∃ t, (pe tk f 0 .no s.adv).2 = t := ⟨_, rfl⟩
  (try rw [ht9])
  (try rw [hs9])
  have b9 := (pe_beh tk f 0 .no s.adv (by unfold md; decide)).rem
  rw [hs9] at b9
  have Ht9 := Lib.hid ht9
  have Hs9 := Lib.hid hs9
  clear ht9 hs9
  have e9 := (exp_beh tk kShut s9).rem
  unfold PeRes
  go_enter Tryd.func160, Tryd.ntmps160
  go_wp2_with fail

  have A := Lib.hid (accept_any b G tk E s ⟨#[45]⟩ _ P0.out)
  unfold AccRes accP at A
  have eK : (⟨#[45]⟩ : ByteArray).data.toList = kNeg := rfl
  rw [eK] at A
  clear eK
  rw [h1, if_neg (by simp)] at A

  go_wp2_with fail
  refine A.out.mono ?_
  rintro e w1 ⟨rfl, hP1, h1⟩
  clear A
  have P1 := Lib.hid (hP1)
  have R1 := Lib.hid (R0.out.trans h1)
  have BR1 := Lib.hid (BR0.out.ro h1 hbw)
  have y1 : w.heap.size + 1 ≤ w1.heap.size := Nat.le_trans z0 h1.size
  have z1 := y1
  clear hP1 h1
  have A := Lib.hid (accept_any b G tk E s ⟨#[40]⟩ _ P1.out)
  unfold AccRes accP at A
  have eK : (⟨#[40]⟩ : ByteArray).data.toList = kOpen := rfl
  rw [eK] at A
  clear eK
  rw [h2, if_pos rfl] at A

  go_wp2_with fail
  refine A.out.mono ?_
  rintro e w2 ⟨rfl, hP2, h2⟩
  clear A
  have P2 := Lib.hid (hP2)
  have R2 := Lib.hid (R1.out.trans h2)
  have BR2 := Lib.hid (BR1.out.ro h2 hbw)
  have y2 : w.heap.size + 1 ≤ w2.heap.size := Nat.le_trans z1 h2.size
  have z2 := y2
  clear hP2 h2
  have C := Lib.hid (HH0.out f (Nat.le_refl _) _ s.adv P2.out (show 10 * rem tk s.adv + 8 ≤ f by omega))
  unfold PeRes at C
  rw [Ht9.out, Hs9.out] at C
  go_wp2_with fail
  refine C.out.mono ?_
  rintro e w9 ⟨x9, rfl, hK9, hP9, h9⟩
  obtain ⟨xa9, xc9, rfl⟩ := kids_slice (kidsB_to hK9)
  clear C
  have P9 := Lib.hid ((hP9).rel ((Rel.refl _).alloc (.cells #[.int .i64 t9.op, .int .i64 t9.va, .int .i64 t9.vb, .int .i64 t9.dm, .string t9.nm, .slice xa9 t9.cnt xc9] 42)))
  have R9 := Lib.hid ((R2.out.trans h9).alloc (.cells #[.int .i64 t9.op, .int .i64 t9.va, .int .i64 t9.vb, .int .i64 t9.dm, .string t9.nm, .slice xa9 t9.cnt xc9] 42))
  have BR9 := Lib.hid ((BR2.out.ro h9 hbw).rel ((Rel.refl _).alloc (.cells #[.int .i64 t9.op, .int .i64 t9.va, .int .i64 t9.vb, .int .i64 t9.dm, .string t9.nm, .slice xa9 t9.cnt xc9] 42)))
  have K9_9 := Lib.hid (kidsB_rl (kidsB_mono (Q := fun q => w.heap.size < q) hK9 (fun q hq hp => by omega)) ((Rel.refl _).alloc (.cells #[.int .i64 t9.op, .int .i64 t9.va, .int .i64 t9.vb, .int .i64 t9.dm, .string t9.nm, .slice xa9 t9.cnt xc9] 42)))
  have y9 : w.heap.size + 1 ≤ w9.heap.size := Nat.le_trans z2 h9.size
  have z9 : w.heap.size + 1 ≤ (w9.alloc (.cells #[.int .i64 t9.op, .int .i64 t9.va, .int .i64 t9.vb, .int .i64 t9.dm, .string t9.nm, .slice xa9 t9.cnt xc9] 42)).heap.size := by simp; omega
  have E9_9 := Lib.hid (BoxAt.new (w := w9) (g := w9.heap.size) rfl (.int .i64 t9.op) (.int .i64 t9.va) (.int .i64 t9.vb) (.int .i64 t9.dm) (.string t9.nm) (.slice xa9 t9.cnt xc9) 42)
  clear hP9 h9 hK9
  have X := Lib.hid (expect_any b G tk E s9 ⟨#[41]⟩ _ P9.out)
  have eK : (⟨#[41]⟩ : ByteArray).data.toList = kShut := rfl
  rw [eK] at X
  clear eK
  go_wp2_with fail
  refine X.out.mono ?_
  unfold UnRes
  rintro e w10 ⟨⟨v10, rfl⟩, hP10, h10⟩
  clear X
  have P10 := Lib.hid (hP10)
  have R10 := Lib.hid (R9.out.trans h10)
  have BR10 := Lib.hid (BR9.out.ro h10 hbw)
  have E9_10 := Lib.hid (E9_9.out.ro h10 (by omega))
  have K9_10 := Lib.hid (kidsB_ro K9_9.out h10 (fun q hq => by omega))
  have y10 : w.heap.size + 1 ≤ w10.heap.size := Nat.le_trans z9 h10.size
  have z10 := y10
  clear hP10 h10
  obtain ⟨rl, rc0, rc1, rc2, rc3, rc4, rc5, rf0, rf1, rf2, rf3, rf4, rf5⟩ := BR10.out
  obtain ⟨l9, c90, c91, c92, c93, c94, c95, q90, q91, q92, q93, q94, q95⟩ := E9_10.out
  ((try simp only []); (repeat (first | go_values | go_skip | go_guarded | go_step | go_upon | go_in)))
  have hp := prs_put6 P10.out HP.out.toks R10.out (Nat.le_refl w.heap.size) hbw (.int .i64 t9.op) (.int .i64 t9.va) (.int .i64 t9.vb) (.int .i64 t9.dm) (.string t9.nm) (.slice xa9 t9.cnt xc9)
  have g0 : ((((((w10.setCell ⟨w.heap.size, 0, none⟩ (.int .i64 t9.op)).setCell ⟨w.heap.size, 1, none⟩ (.int .i64 t9.va)).setCell ⟨w.heap.size, 2, none⟩ (.int .i64 t9.vb)).setCell ⟨w.heap.size, 3, none⟩ (.int .i64 t9.dm)).setCell ⟨w.heap.size, 4, none⟩ (.string t9.nm)).setCell ⟨w.heap.size, 5, none⟩ (.slice xa9 t9.cnt xc9)).cell? ⟨w.heap.size, 0, none⟩ = some (.int .i64 t9.op) := by go_simp
  have g1 : ((((((w10.setCell ⟨w.heap.size, 0, none⟩ (.int .i64 t9.op)).setCell ⟨w.heap.size, 1, none⟩ (.int .i64 t9.va)).setCell ⟨w.heap.size, 2, none⟩ (.int .i64 t9.vb)).setCell ⟨w.heap.size, 3, none⟩ (.int .i64 t9.dm)).setCell ⟨w.heap.size, 4, none⟩ (.string t9.nm)).setCell ⟨w.heap.size, 5, none⟩ (.slice xa9 t9.cnt xc9)).cell? ⟨w.heap.size, 1, none⟩ = some (.int .i64 t9.va) := by go_simp
  have g2 : ((((((w10.setCell ⟨w.heap.size, 0, none⟩ (.int .i64 t9.op)).setCell ⟨w.heap.size, 1, none⟩ (.int .i64 t9.va)).setCell ⟨w.heap.size, 2, none⟩ (.int .i64 t9.vb)).setCell ⟨w.heap.size, 3, none⟩ (.int .i64 t9.dm)).setCell ⟨w.heap.size, 4, none⟩ (.string t9.nm)).setCell ⟨w.heap.size, 5, none⟩ (.slice xa9 t9.cnt xc9)).cell? ⟨w.heap.size, 2, none⟩ = some (.int .i64 t9.vb) := by go_simp
  have g3 : ((((((w10.setCell ⟨w.heap.size, 0, none⟩ (.int .i64 t9.op)).setCell ⟨w.heap.size, 1, none⟩ (.int .i64 t9.va)).setCell ⟨w.heap.size, 2, none⟩ (.int .i64 t9.vb)).setCell ⟨w.heap.size, 3, none⟩ (.int .i64 t9.dm)).setCell ⟨w.heap.size, 4, none⟩ (.string t9.nm)).setCell ⟨w.heap.size, 5, none⟩ (.slice xa9 t9.cnt xc9)).cell? ⟨w.heap.size, 3, none⟩ = some (.int .i64 t9.dm) := by go_simp
  have g4 : ((((((w10.setCell ⟨w.heap.size, 0, none⟩ (.int .i64 t9.op)).setCell ⟨w.heap.size, 1, none⟩ (.int .i64 t9.va)).setCell ⟨w.heap.size, 2, none⟩ (.int .i64 t9.vb)).setCell ⟨w.heap.size, 3, none⟩ (.int .i64 t9.dm)).setCell ⟨w.heap.size, 4, none⟩ (.string t9.nm)).setCell ⟨w.heap.size, 5, none⟩ (.slice xa9 t9.cnt xc9)).cell? ⟨w.heap.size, 4, none⟩ = some (.string t9.nm) := by go_simp
  have g5 : ((((((w10.setCell ⟨w.heap.size, 0, none⟩ (.int .i64 t9.op)).setCell ⟨w.heap.size, 1, none⟩ (.int .i64 t9.va)).setCell ⟨w.heap.size, 2, none⟩ (.int .i64 t9.vb)).setCell ⟨w.heap.size, 3, none⟩ (.int .i64 t9.dm)).setCell ⟨w.heap.size, 4, none⟩ (.string t9.nm)).setCell ⟨w.heap.size, 5, none⟩ (.slice xa9 t9.cnt xc9)).cell? ⟨w.heap.size, 5, none⟩ = some (.slice xa9 t9.cnt xc9) := by go_simp
  refine bodyPost_ret (v := .agg #[.int .i64 t9.op, .int .i64 t9.va, .int .i64 t9.vb, .int .i64 t9.dm, .string t9.nm, .slice xa9 t9.cnt xc9]) ?_ rfl ⟨_, rfl, kidsB_p6 K9_10.out (g := w.heap.size) (Q := fun q => w.heap.size ≤ q) (fun q _ hq => ⟨by omega, by omega⟩) _ _ _ _ _ _, hp.1, hp.2⟩
  simp [results, Tryd.results160, go_sem, g0, g1, g2, g3, g4, g5]
 rw [if_neg (by simp)]
 obtain ⟨k3, h3⟩ : ∃ k, accB tk kBest s = k := ⟨_, rfl⟩
 rw [h3]
 cases k3
 rotate_left
 ·skip
  rw [if_pos rfl]
  obtain ⟨-, hrem⟩ := acc_beh h3
  have e8 := (exp_beh tk kOpen s.adv).rem
  have nb := numT_bd tk (expP tk kOpen s.adv)
  obtain ⟨n, hn⟩ : ∃ n, numT tk 1 45 (expP tk kOpen s.adv) = n := ⟨_, rfl⟩
  rw [hn] at nb ⊢
  have HNn := Lib.hid hn
  clear hn
  unfold PeRes
  go_enter Tryd.func160, Tryd.ntmps160
  go_wp2_with fail

  have A := Lib.hid (accept_any b G tk E s ⟨#[45]⟩ _ P0.out)
  unfold AccRes accP at A
  have eK : (⟨#[45]⟩ : ByteArray).data.toList = kNeg := rfl
  rw [eK] at A
  clear eK
  rw [h1, if_neg (by simp)] at A

  go_wp2_with fail
  refine A.out.mono ?_
  rintro e w1 ⟨rfl, hP1, h1⟩
  clear A
  have P1 := Lib.hid (hP1)
  have R1 := Lib.hid (R0.out.trans h1)
  have BR1 := Lib.hid (BR0.out.ro h1 hbw)
  have y1 : w.heap.size + 1 ≤ w1.heap.size := Nat.le_trans z0 h1.size
  have z1 := y1
  clear hP1 h1
  have A := Lib.hid (accept_any b G tk E s ⟨#[40]⟩ _ P1.out)
  unfold AccRes accP at A
  have eK : (⟨#[40]⟩ : ByteArray).data.toList = kOpen := rfl
  rw [eK] at A
  clear eK
  rw [h2, if_neg (by simp)] at A

  go_wp2_with fail
  refine A.out.mono ?_
  rintro e w2 ⟨rfl, hP2, h2⟩
  clear A
  have P2 := Lib.hid (hP2)
  have R2 := Lib.hid (R1.out.trans h2)
  have BR2 := Lib.hid (BR1.out.ro h2 hbw)
  have y2 : w.heap.size + 1 ≤ w2.heap.size := Nat.le_trans z1 h2.size
  have z2 := y2
  clear hP2 h2
  have A := Lib.hid (accept_any b G tk E s ⟨#[98, 101, 115, 116]⟩ _ P2.out)
  unfold AccRes accP at A
  have eK : (⟨#[98, 101, 115, 116]⟩ : ByteArray).data.toList = kBest := rfl
  rw [eK] at A
  clear eK
  rw [h3, if_pos rfl] at A

  go_wp2_with fail
  refine A.out.mono ?_
  rintro e w3 ⟨rfl, hP3, h3⟩
  clear A
  have P3 := Lib.hid (hP3)
  have R3 := Lib.hid (R2.out.trans h3)
  have BR3 := Lib.hid (BR2.out.ro h3 hbw)
  have y3 : w.heap.size + 1 ≤ w3.heap.size := Nat.le_trans z2 h3.size
  have z3 := y3
  clear hP3 h3
  have X := Lib.hid (expect_any b G tk E s.adv ⟨#[40]⟩ _ P3.out)
  have eK : (⟨#[40]⟩ : ByteArray).data.toList = kOpen := rfl
  rw [eK] at X
  clear eK
  go_wp2_with fail
  refine X.out.mono ?_
  unfold UnRes
  rintro e w4 ⟨⟨v4, rfl⟩, hP4, h4⟩
  clear X
  have P4 := Lib.hid (hP4)
  have R4 := Lib.hid (R3.out.trans h4)
  have BR4 := Lib.hid (BR3.out.ro h4 hbw)
  have y4 : w.heap.size + 1 ≤ w4.heap.size := Nat.le_trans z3 h4.size
  have z4 := y4
  clear hP4 h4
  have N := Lib.hid (pnumber_any b G tk E 1 45 (expP tk kOpen s.adv) _ P4.out hT)
  unfold NumRes' at N
  rw [HNn.out] at N
  go_wp2_with fail
  refine N.out.mono ?_
  rintro e w5 ⟨rfl, hP5, h5⟩
  clear N
  have P5 := Lib.hid (hP5)
  have R5 := Lib.hid (R4.out.trans h5)
  have BR5 := Lib.hid (BR4.out.ro h5 hbw)
  have y5 : w.heap.size + 1 ≤ w5.heap.size := Nat.le_trans z4 h5.size
  have z5 := y5
  clear hP5 h5
  have X := Lib.hid (expect_any b G tk E (numP tk 1 45 (expP tk kOpen s.adv)) ⟨#[41]⟩ _ P5.out)
  have eK : (⟨#[41]⟩ : ByteArray).data.toList = kShut := rfl
  rw [eK] at X
  clear eK
  go_wp2_with fail
  refine X.out.mono ?_
  unfold UnRes
  rintro e w6 ⟨⟨v6, rfl⟩, hP6, h6⟩
  clear X
  have P6 := Lib.hid (hP6)
  have R6 := Lib.hid (R5.out.trans h6)
  have BR6 := Lib.hid (BR5.out.ro h6 hbw)
  have y6 : w.heap.size + 1 ≤ w6.heap.size := Nat.le_trans z5 h6.size
  have z6 := y6
  clear hP6 h6
  obtain ⟨rl, rc0, rc1, rc2, rc3, rc4, rc5, rf0, rf1, rf2, rf3, rf4, rf5⟩ := BR6.out
  ((try simp only []); (repeat (first | go_values | go_skip | go_guarded | go_step | go_upon | go_in)))
  have hp := prs_put6 P6.out HP.out.toks R6.out (Nat.le_refl w.heap.size) hbw (.int .i64 3) (.int .i64 n) (.int .i64 1) (.int .i64 0) (.string ⟨#[]⟩) (.slice none 0 0)
  have g0 : ((((((w6.setCell ⟨w.heap.size, 0, none⟩ (.int .i64 3)).setCell ⟨w.heap.size, 1, none⟩ (.int .i64 n)).setCell ⟨w.heap.size, 2, none⟩ (.int .i64 1)).setCell ⟨w.heap.size, 3, none⟩ (.int .i64 0)).setCell ⟨w.heap.size, 4, none⟩ (.string ⟨#[]⟩)).setCell ⟨w.heap.size, 5, none⟩ (.slice none 0 0)).cell? ⟨w.heap.size, 0, none⟩ = some (.int .i64 3) := by go_simp
  have g1 : ((((((w6.setCell ⟨w.heap.size, 0, none⟩ (.int .i64 3)).setCell ⟨w.heap.size, 1, none⟩ (.int .i64 n)).setCell ⟨w.heap.size, 2, none⟩ (.int .i64 1)).setCell ⟨w.heap.size, 3, none⟩ (.int .i64 0)).setCell ⟨w.heap.size, 4, none⟩ (.string ⟨#[]⟩)).setCell ⟨w.heap.size, 5, none⟩ (.slice none 0 0)).cell? ⟨w.heap.size, 1, none⟩ = some (.int .i64 n) := by go_simp
  have g2 : ((((((w6.setCell ⟨w.heap.size, 0, none⟩ (.int .i64 3)).setCell ⟨w.heap.size, 1, none⟩ (.int .i64 n)).setCell ⟨w.heap.size, 2, none⟩ (.int .i64 1)).setCell ⟨w.heap.size, 3, none⟩ (.int .i64 0)).setCell ⟨w.heap.size, 4, none⟩ (.string ⟨#[]⟩)).setCell ⟨w.heap.size, 5, none⟩ (.slice none 0 0)).cell? ⟨w.heap.size, 2, none⟩ = some (.int .i64 1) := by go_simp
  have g3 : ((((((w6.setCell ⟨w.heap.size, 0, none⟩ (.int .i64 3)).setCell ⟨w.heap.size, 1, none⟩ (.int .i64 n)).setCell ⟨w.heap.size, 2, none⟩ (.int .i64 1)).setCell ⟨w.heap.size, 3, none⟩ (.int .i64 0)).setCell ⟨w.heap.size, 4, none⟩ (.string ⟨#[]⟩)).setCell ⟨w.heap.size, 5, none⟩ (.slice none 0 0)).cell? ⟨w.heap.size, 3, none⟩ = some (.int .i64 0) := by go_simp
  have g4 : ((((((w6.setCell ⟨w.heap.size, 0, none⟩ (.int .i64 3)).setCell ⟨w.heap.size, 1, none⟩ (.int .i64 n)).setCell ⟨w.heap.size, 2, none⟩ (.int .i64 1)).setCell ⟨w.heap.size, 3, none⟩ (.int .i64 0)).setCell ⟨w.heap.size, 4, none⟩ (.string ⟨#[]⟩)).setCell ⟨w.heap.size, 5, none⟩ (.slice none 0 0)).cell? ⟨w.heap.size, 4, none⟩ = some (.string ⟨#[]⟩) := by go_simp
  have g5 : ((((((w6.setCell ⟨w.heap.size, 0, none⟩ (.int .i64 3)).setCell ⟨w.heap.size, 1, none⟩ (.int .i64 n)).setCell ⟨w.heap.size, 2, none⟩ (.int .i64 1)).setCell ⟨w.heap.size, 3, none⟩ (.int .i64 0)).setCell ⟨w.heap.size, 4, none⟩ (.string ⟨#[]⟩)).setCell ⟨w.heap.size, 5, none⟩ (.slice none 0 0)).cell? ⟨w.heap.size, 5, none⟩ = some (.slice none 0 0) := by go_simp
  refine bodyPost_ret (v := .agg #[.int .i64 3, .int .i64 n, .int .i64 1, .int .i64 0, .string ⟨#[]⟩, .slice none 0 0]) ?_ rfl ⟨_, rfl, leaf_tree ⟨by decide, by decide, by omega, by omega, by decide, by decide, by decide, by decide, by decide⟩, hp.1, hp.2⟩
  simp [results, Tryd.results160, go_sem, g0, g1, g2, g3, g4, g5]
 rw [if_neg (by simp)]
 obtain ⟨k4, h4⟩ : ∃ k, accB tk kFloor s = k := ⟨_, rfl⟩
 rw [h4]
 cases k4
 rotate_left
 ·skip
  rw [if_pos rfl]
  obtain ⟨-, hrem⟩ := acc_beh h4
  have e8 := (exp_beh tk kOpen s.adv).rem

  obtain ⟨t9, ht9⟩ : ∃ t, (pe tk f 0 .no (expP tk kOpen s.adv)).1 = t := ⟨_, rfl⟩
  obtain ⟨s9, hs9⟩ : ∃ t, (pe tk f 0 .no (expP tk kOpen s.adv)).2 = t := ⟨_, rfl⟩
  (try rw [ht9])
  (try rw [hs9])
  have b9 := (pe_beh tk f 0 .no (expP tk kOpen s.adv) (by unfold md; decide)).rem
  rw [hs9] at b9
  have Ht9 := Lib.hid ht9
  have Hs9 := Lib.hid hs9
  clear ht9 hs9
  have e9 := (exp_beh tk kShut s9).rem
  unfold PeRes
  go_enter Tryd.func160, Tryd.ntmps160
  go_wp2_with fail

  have A := Lib.hid (accept_any b G tk E s ⟨#[45]⟩ _ P0.out)
  unfold AccRes accP at A
  have eK : (⟨#[45]⟩ : ByteArray).data.toList = kNeg := rfl
  rw [eK] at A
  clear eK
  rw [h1, if_neg (by simp)] at A

  go_wp2_with fail
  refine A.out.mono ?_
  rintro e w1 ⟨rfl, hP1, h1⟩
  clear A
  have P1 := Lib.hid (hP1)
  have R1 := Lib.hid (R0.out.trans h1)
  have BR1 := Lib.hid (BR0.out.ro h1 hbw)
  have y1 : w.heap.size + 1 ≤ w1.heap.size := Nat.le_trans z0 h1.size
  have z1 := y1
  clear hP1 h1
  have A := Lib.hid (accept_any b G tk E s ⟨#[40]⟩ _ P1.out)
  unfold AccRes accP at A
  have eK : (⟨#[40]⟩ : ByteArray).data.toList = kOpen := rfl
  rw [eK] at A
  clear eK
  rw [h2, if_neg (by simp)] at A

  go_wp2_with fail
  refine A.out.mono ?_
  rintro e w2 ⟨rfl, hP2, h2⟩
  clear A
  have P2 := Lib.hid (hP2)
  have R2 := Lib.hid (R1.out.trans h2)
  have BR2 := Lib.hid (BR1.out.ro h2 hbw)
  have y2 : w.heap.size + 1 ≤ w2.heap.size := Nat.le_trans z1 h2.size
  have z2 := y2
  clear hP2 h2
  have A := Lib.hid (accept_any b G tk E s ⟨#[98, 101, 115, 116]⟩ _ P2.out)
  unfold AccRes accP at A
  have eK : (⟨#[98, 101, 115, 116]⟩ : ByteArray).data.toList = kBest := rfl
  rw [eK] at A
  clear eK
  rw [h3, if_neg (by simp)] at A

  go_wp2_with fail
  refine A.out.mono ?_
  rintro e w3 ⟨rfl, hP3, h3⟩
  clear A
  have P3 := Lib.hid (hP3)
  have R3 := Lib.hid (R2.out.trans h3)
  have BR3 := Lib.hid (BR2.out.ro h3 hbw)
  have y3 : w.heap.size + 1 ≤ w3.heap.size := Nat.le_trans z2 h3.size
  have z3 := y3
  clear hP3 h3
  have A := Lib.hid (accept_any b G tk E s ⟨#[102, 108, 111, 111, 114]⟩ _ P3.out)
  unfold AccRes accP at A
  have eK : (⟨#[102, 108, 111, 111, 114]⟩ : ByteArray).data.toList = kFloor := rfl
  rw [eK] at A
  clear eK
  rw [h4, if_pos rfl] at A

  go_wp2_with fail
  refine A.out.mono ?_
  rintro e w4 ⟨rfl, hP4, h4⟩
  clear A
  have P4 := Lib.hid (hP4)
  have R4 := Lib.hid (R3.out.trans h4)
  have BR4 := Lib.hid (BR3.out.ro h4 hbw)
  have y4 : w.heap.size + 1 ≤ w4.heap.size := Nat.le_trans z3 h4.size
  have z4 := y4
  clear hP4 h4
  have X := Lib.hid (expect_any b G tk E s.adv ⟨#[40]⟩ _ P4.out)
  have eK : (⟨#[40]⟩ : ByteArray).data.toList = kOpen := rfl
  rw [eK] at X
  clear eK
  go_wp2_with fail
  refine X.out.mono ?_
  unfold UnRes
  rintro e w5 ⟨⟨v5, rfl⟩, hP5, h5⟩
  clear X
  have P5 := Lib.hid (hP5)
  have R5 := Lib.hid (R4.out.trans h5)
  have BR5 := Lib.hid (BR4.out.ro h5 hbw)
  have y5 : w.heap.size + 1 ≤ w5.heap.size := Nat.le_trans z4 h5.size
  have z5 := y5
  clear hP5 h5
  have C := Lib.hid (HH0.out f (Nat.le_refl _) _ (expP tk kOpen s.adv) P5.out (show 10 * rem tk (expP tk kOpen s.adv) + 8 ≤ f by omega))
  unfold PeRes at C
  rw [Ht9.out, Hs9.out] at C
  go_wp2_with fail
  refine C.out.mono ?_
  rintro e w9 ⟨x9, rfl, hK9, hP9, h9⟩
  obtain ⟨xa9, xc9, rfl⟩ := kids_slice (kidsB_to hK9)
  clear C
  have P9 := Lib.hid ((hP9).rel ((Rel.refl _).alloc (.cells #[.int .i64 t9.op, .int .i64 t9.va, .int .i64 t9.vb, .int .i64 t9.dm, .string t9.nm, .slice xa9 t9.cnt xc9] 42)))
  have R9 := Lib.hid ((R5.out.trans h9).alloc (.cells #[.int .i64 t9.op, .int .i64 t9.va, .int .i64 t9.vb, .int .i64 t9.dm, .string t9.nm, .slice xa9 t9.cnt xc9] 42))
  have BR9 := Lib.hid ((BR5.out.ro h9 hbw).rel ((Rel.refl _).alloc (.cells #[.int .i64 t9.op, .int .i64 t9.va, .int .i64 t9.vb, .int .i64 t9.dm, .string t9.nm, .slice xa9 t9.cnt xc9] 42)))
  have K9_9 := Lib.hid (kidsB_rl (kidsB_mono (Q := fun q => w.heap.size < q) hK9 (fun q hq hp => by omega)) ((Rel.refl _).alloc (.cells #[.int .i64 t9.op, .int .i64 t9.va, .int .i64 t9.vb, .int .i64 t9.dm, .string t9.nm, .slice xa9 t9.cnt xc9] 42)))
  have y9 : w.heap.size + 1 ≤ w9.heap.size := Nat.le_trans z5 h9.size
  have z9 : w.heap.size + 1 ≤ (w9.alloc (.cells #[.int .i64 t9.op, .int .i64 t9.va, .int .i64 t9.vb, .int .i64 t9.dm, .string t9.nm, .slice xa9 t9.cnt xc9] 42)).heap.size := by simp; omega
  have E9_9 := Lib.hid (BoxAt.new (w := w9) (g := w9.heap.size) rfl (.int .i64 t9.op) (.int .i64 t9.va) (.int .i64 t9.vb) (.int .i64 t9.dm) (.string t9.nm) (.slice xa9 t9.cnt xc9) 42)
  clear hP9 h9 hK9
  have X := Lib.hid (expect_any b G tk E s9 ⟨#[41]⟩ _ P9.out)
  have eK : (⟨#[41]⟩ : ByteArray).data.toList = kShut := rfl
  rw [eK] at X
  clear eK
  go_wp2_with fail
  refine X.out.mono ?_
  unfold UnRes
  rintro e w10 ⟨⟨v10, rfl⟩, hP10, h10⟩
  clear X
  have P10 := Lib.hid (hP10)
  have R10 := Lib.hid (R9.out.trans h10)
  have BR10 := Lib.hid (BR9.out.ro h10 hbw)
  have E9_10 := Lib.hid (E9_9.out.ro h10 (by omega))
  have K9_10 := Lib.hid (kidsB_ro K9_9.out h10 (fun q hq => by omega))
  have y10 : w.heap.size + 1 ≤ w10.heap.size := Nat.le_trans z9 h10.size
  have z10 := y10
  clear hP10 h10
  obtain ⟨rl, rc0, rc1, rc2, rc3, rc4, rc5, rf0, rf1, rf2, rf3, rf4, rf5⟩ := BR10.out
  obtain ⟨l9, c90, c91, c92, c93, c94, c95, q90, q91, q92, q93, q94, q95⟩ := E9_10.out
  ((try simp only []); (repeat (first | go_values | go_skip | go_guarded | go_step | go_upon | go_in)))
  have hp := prs_put6 P10.out HP.out.toks R10.out (Nat.le_refl w.heap.size) hbw (.int .i64 6) (.int .i64 0) (.int .i64 0) (.int .i64 0) (.string ⟨#[]⟩) (.slice (some ⟨w10.heap.size, 0, none⟩) 1 1)
  have g0 : (((((((w10.setCell ⟨w.heap.size, 0, none⟩ (.int .i64 6)).setCell ⟨w.heap.size, 1, none⟩ (.int .i64 0)).setCell ⟨w.heap.size, 2, none⟩ (.int .i64 0)).setCell ⟨w.heap.size, 3, none⟩ (.int .i64 0)).setCell ⟨w.heap.size, 4, none⟩ (.string ⟨#[]⟩)).setCell ⟨w.heap.size, 5, none⟩ (.slice (some ⟨w10.heap.size, 0, none⟩) 1 1)).alloc (.cells #[.int .i64 t9.op, .int .i64 t9.va, .int .i64 t9.vb, .int .i64 t9.dm, .string t9.nm, .slice xa9 t9.cnt xc9] 42)).cell? ⟨w.heap.size, 0, none⟩ = some (.int .i64 6) := by go_simp
  have g1 : (((((((w10.setCell ⟨w.heap.size, 0, none⟩ (.int .i64 6)).setCell ⟨w.heap.size, 1, none⟩ (.int .i64 0)).setCell ⟨w.heap.size, 2, none⟩ (.int .i64 0)).setCell ⟨w.heap.size, 3, none⟩ (.int .i64 0)).setCell ⟨w.heap.size, 4, none⟩ (.string ⟨#[]⟩)).setCell ⟨w.heap.size, 5, none⟩ (.slice (some ⟨w10.heap.size, 0, none⟩) 1 1)).alloc (.cells #[.int .i64 t9.op, .int .i64 t9.va, .int .i64 t9.vb, .int .i64 t9.dm, .string t9.nm, .slice xa9 t9.cnt xc9] 42)).cell? ⟨w.heap.size, 1, none⟩ = some (.int .i64 0) := by go_simp
  have g2 : (((((((w10.setCell ⟨w.heap.size, 0, none⟩ (.int .i64 6)).setCell ⟨w.heap.size, 1, none⟩ (.int .i64 0)).setCell ⟨w.heap.size, 2, none⟩ (.int .i64 0)).setCell ⟨w.heap.size, 3, none⟩ (.int .i64 0)).setCell ⟨w.heap.size, 4, none⟩ (.string ⟨#[]⟩)).setCell ⟨w.heap.size, 5, none⟩ (.slice (some ⟨w10.heap.size, 0, none⟩) 1 1)).alloc (.cells #[.int .i64 t9.op, .int .i64 t9.va, .int .i64 t9.vb, .int .i64 t9.dm, .string t9.nm, .slice xa9 t9.cnt xc9] 42)).cell? ⟨w.heap.size, 2, none⟩ = some (.int .i64 0) := by go_simp
  have g3 : (((((((w10.setCell ⟨w.heap.size, 0, none⟩ (.int .i64 6)).setCell ⟨w.heap.size, 1, none⟩ (.int .i64 0)).setCell ⟨w.heap.size, 2, none⟩ (.int .i64 0)).setCell ⟨w.heap.size, 3, none⟩ (.int .i64 0)).setCell ⟨w.heap.size, 4, none⟩ (.string ⟨#[]⟩)).setCell ⟨w.heap.size, 5, none⟩ (.slice (some ⟨w10.heap.size, 0, none⟩) 1 1)).alloc (.cells #[.int .i64 t9.op, .int .i64 t9.va, .int .i64 t9.vb, .int .i64 t9.dm, .string t9.nm, .slice xa9 t9.cnt xc9] 42)).cell? ⟨w.heap.size, 3, none⟩ = some (.int .i64 0) := by go_simp
  have g4 : (((((((w10.setCell ⟨w.heap.size, 0, none⟩ (.int .i64 6)).setCell ⟨w.heap.size, 1, none⟩ (.int .i64 0)).setCell ⟨w.heap.size, 2, none⟩ (.int .i64 0)).setCell ⟨w.heap.size, 3, none⟩ (.int .i64 0)).setCell ⟨w.heap.size, 4, none⟩ (.string ⟨#[]⟩)).setCell ⟨w.heap.size, 5, none⟩ (.slice (some ⟨w10.heap.size, 0, none⟩) 1 1)).alloc (.cells #[.int .i64 t9.op, .int .i64 t9.va, .int .i64 t9.vb, .int .i64 t9.dm, .string t9.nm, .slice xa9 t9.cnt xc9] 42)).cell? ⟨w.heap.size, 4, none⟩ = some (.string ⟨#[]⟩) := by go_simp
  have g5 : (((((((w10.setCell ⟨w.heap.size, 0, none⟩ (.int .i64 6)).setCell ⟨w.heap.size, 1, none⟩ (.int .i64 0)).setCell ⟨w.heap.size, 2, none⟩ (.int .i64 0)).setCell ⟨w.heap.size, 3, none⟩ (.int .i64 0)).setCell ⟨w.heap.size, 4, none⟩ (.string ⟨#[]⟩)).setCell ⟨w.heap.size, 5, none⟩ (.slice (some ⟨w10.heap.size, 0, none⟩) 1 1)).alloc (.cells #[.int .i64 t9.op, .int .i64 t9.va, .int .i64 t9.vb, .int .i64 t9.dm, .string t9.nm, .slice xa9 t9.cnt xc9] 42)).cell? ⟨w.heap.size, 5, none⟩ = some (.slice (some ⟨w10.heap.size, 0, none⟩) 1 1) := by go_simp
  refine bodyPost_ret (v := .agg #[.int .i64 6, .int .i64 0, .int .i64 0, .int .i64 0, .string ⟨#[]⟩, .slice (some ⟨w10.heap.size, 0, none⟩) 1 1]) ?_ rfl ⟨_, rfl, one_tree (op := 6) (by simp [World.setCell]) (by omega) ⟨by decide, by decide⟩ (kidsB_p6 K9_10.out (g := w.heap.size) (Q := fun q => w.heap.size ≤ q) (fun q _ hq => ⟨by omega, by omega⟩) _ _ _ _ _ _), hp.1.rel ((Rel.refl _).alloc _), hp.2.alloc _⟩
  simp [results, Tryd.results160, go_sem, g0, g1, g2, g3, g4, g5]
 rw [if_neg (by simp)]
 have bt := bin_ops mmL tk s
 obtain ⟨op, hop⟩ : ∃ op, binT tk s mmL = op := ⟨_, rfl⟩
 obtain ⟨k5, h5⟩ : ∃ k, binO tk s mmL = k := ⟨_, rfl⟩
 rw [h5, hop]
 rw [hop] at bt
 have hop2 : 0 ≤ op ∧ op ≤ 100 := bt (by decide)
 clear bt
 cases k5
 rotate_left
 ·skip
  rw [if_pos rfl]
  obtain ⟨-, hrem⟩ := bin_beh h5
  have e8 := (exp_beh tk kOpen s.adv).rem

  obtain ⟨t8, ht8⟩ : ∃ t, (pe tk f 0 .no (expP tk kOpen s.adv)).1 = t := ⟨_, rfl⟩
  obtain ⟨s8, hs8⟩ : ∃ t, (pe tk f 0 .no (expP tk kOpen s.adv)).2 = t := ⟨_, rfl⟩
  (try rw [ht8])
  (try rw [hs8])
  have b8 := (pe_beh tk f 0 .no (expP tk kOpen s.adv) (by unfold md; decide)).rem
  rw [hs8] at b8
  have Ht8 := Lib.hid ht8
  have Hs8 := Lib.hid hs8
  clear ht8 hs8
  have e9 := (exp_beh tk kComma s8).rem

  obtain ⟨t10, ht10⟩ : ∃ t, (pe tk f 0 .no (expP tk kComma s8)).1 = t := ⟨_, rfl⟩
  obtain ⟨s10, hs10⟩ : ∃ t, (pe tk f 0 .no (expP tk kComma s8)).2 = t := ⟨_, rfl⟩
  (try rw [ht10])
  (try rw [hs10])
  have b10 := (pe_beh tk f 0 .no (expP tk kComma s8) (by unfold md; decide)).rem
  rw [hs10] at b10
  have Ht10 := Lib.hid ht10
  have Hs10 := Lib.hid hs10
  clear ht10 hs10
  unfold PeRes
  go_enter Tryd.func160, Tryd.ntmps160
  go_wp2_with fail

  have A := Lib.hid (accept_any b G tk E s ⟨#[45]⟩ _ P0.out)
  unfold AccRes accP at A
  have eK : (⟨#[45]⟩ : ByteArray).data.toList = kNeg := rfl
  rw [eK] at A
  clear eK
  rw [h1, if_neg (by simp)] at A

  go_wp2_with fail
  refine A.out.mono ?_
  rintro e w1 ⟨rfl, hP1, h1⟩
  clear A
  have P1 := Lib.hid (hP1)
  have R1 := Lib.hid (R0.out.trans h1)
  have BR1 := Lib.hid (BR0.out.ro h1 hbw)
  have y1 : w.heap.size + 1 ≤ w1.heap.size := Nat.le_trans z0 h1.size
  have z1 := y1
  clear hP1 h1
  have A := Lib.hid (accept_any b G tk E s ⟨#[40]⟩ _ P1.out)
  unfold AccRes accP at A
  have eK : (⟨#[40]⟩ : ByteArray).data.toList = kOpen := rfl
  rw [eK] at A
  clear eK
  rw [h2, if_neg (by simp)] at A

  go_wp2_with fail
  refine A.out.mono ?_
  rintro e w2 ⟨rfl, hP2, h2⟩
  clear A
  have P2 := Lib.hid (hP2)
  have R2 := Lib.hid (R1.out.trans h2)
  have BR2 := Lib.hid (BR1.out.ro h2 hbw)
  have y2 : w.heap.size + 1 ≤ w2.heap.size := Nat.le_trans z1 h2.size
  have z2 := y2
  clear hP2 h2
  have A := Lib.hid (accept_any b G tk E s ⟨#[98, 101, 115, 116]⟩ _ P2.out)
  unfold AccRes accP at A
  have eK : (⟨#[98, 101, 115, 116]⟩ : ByteArray).data.toList = kBest := rfl
  rw [eK] at A
  clear eK
  rw [h3, if_neg (by simp)] at A

  go_wp2_with fail
  refine A.out.mono ?_
  rintro e w3 ⟨rfl, hP3, h3⟩
  clear A
  have P3 := Lib.hid (hP3)
  have R3 := Lib.hid (R2.out.trans h3)
  have BR3 := Lib.hid (BR2.out.ro h3 hbw)
  have y3 : w.heap.size + 1 ≤ w3.heap.size := Nat.le_trans z2 h3.size
  have z3 := y3
  clear hP3 h3
  have A := Lib.hid (accept_any b G tk E s ⟨#[102, 108, 111, 111, 114]⟩ _ P3.out)
  unfold AccRes accP at A
  have eK : (⟨#[102, 108, 111, 111, 114]⟩ : ByteArray).data.toList = kFloor := rfl
  rw [eK] at A
  clear eK
  rw [h4, if_neg (by simp)] at A

  go_wp2_with fail
  refine A.out.mono ?_
  rintro e w4 ⟨rfl, hP4, h4⟩
  clear A
  have P4 := Lib.hid (hP4)
  have R4 := Lib.hid (R3.out.trans h4)
  have BR4 := Lib.hid (BR3.out.ro h4 hbw)
  have y4 : w.heap.size + 1 ≤ w4.heap.size := Nat.le_trans z3 h4.size
  have z4 := y4
  clear hP4 h4
  have PW := Lib.hid (P4.out.rel ((Rel.refl _).alloc (.cells #[.string ⟨#[109, 105, 110]⟩, .int .i64 19, .string ⟨#[109, 97, 120]⟩, .int .i64 20] 147)))
  have A := Lib.hid (binary_any b G tk E mmL s w4.heap.size 2 _ PW.out (by decide) (by simp) (by omega) (mm_ents _ _ (by simp)))
  unfold BinRes binP at A
  rw [h5, hop, if_pos rfl] at A
  go_wp2_with fail
  refine A.out.mono ?_
  rintro e w5 ⟨rfl, hP5, h5'⟩
  have h5 := (Ro.of (b := b) ((Rel.refl _).alloc (.cells #[.string ⟨#[109, 105, 110]⟩, .int .i64 19, .string ⟨#[109, 97, 120]⟩, .int .i64 20] 147))).trans h5'
  clear A PW h5'
  have P5 := Lib.hid (hP5)
  have R5 := Lib.hid (R4.out.trans h5)
  have BR5 := Lib.hid (BR4.out.ro h5 hbw)
  have y5 : w.heap.size + 1 ≤ w5.heap.size := Nat.le_trans z4 h5.size
  have z5 := y5
  clear hP5 h5
  have X := Lib.hid (expect_any b G tk E s.adv ⟨#[40]⟩ _ P5.out)
  have eK : (⟨#[40]⟩ : ByteArray).data.toList = kOpen := rfl
  rw [eK] at X
  clear eK
  go_wp2_with fail
  refine X.out.mono ?_
  unfold UnRes
  rintro e w6 ⟨⟨v6, rfl⟩, hP6, h6⟩
  clear X
  have P6 := Lib.hid (hP6)
  have R6 := Lib.hid (R5.out.trans h6)
  have BR6 := Lib.hid (BR5.out.ro h6 hbw)
  have y6 : w.heap.size + 1 ≤ w6.heap.size := Nat.le_trans z5 h6.size
  have z6 := y6
  clear hP6 h6
  have C := Lib.hid (HH0.out f (Nat.le_refl _) _ (expP tk kOpen s.adv) P6.out (show 10 * rem tk (expP tk kOpen s.adv) + 8 ≤ f by omega))
  unfold PeRes at C
  rw [Ht8.out, Hs8.out] at C
  go_wp2_with fail
  refine C.out.mono ?_
  rintro e w8 ⟨x8, rfl, hK8, hP8, h8⟩
  obtain ⟨xa8, xc8, rfl⟩ := kids_slice (kidsB_to hK8)
  clear C
  have P8 := Lib.hid ((hP8).rel ((Rel.refl _).alloc (.cells #[.int .i64 t8.op, .int .i64 t8.va, .int .i64 t8.vb, .int .i64 t8.dm, .string t8.nm, .slice xa8 t8.cnt xc8] 42)))
  have R8 := Lib.hid ((R6.out.trans h8).alloc (.cells #[.int .i64 t8.op, .int .i64 t8.va, .int .i64 t8.vb, .int .i64 t8.dm, .string t8.nm, .slice xa8 t8.cnt xc8] 42))
  have BR8 := Lib.hid ((BR6.out.ro h8 hbw).rel ((Rel.refl _).alloc (.cells #[.int .i64 t8.op, .int .i64 t8.va, .int .i64 t8.vb, .int .i64 t8.dm, .string t8.nm, .slice xa8 t8.cnt xc8] 42)))
  have K8_8 := Lib.hid (kidsB_rl (kidsB_mono (Q := fun q => w.heap.size < q) hK8 (fun q hq hp => by omega)) ((Rel.refl _).alloc (.cells #[.int .i64 t8.op, .int .i64 t8.va, .int .i64 t8.vb, .int .i64 t8.dm, .string t8.nm, .slice xa8 t8.cnt xc8] 42)))
  have y8 : w.heap.size + 1 ≤ w8.heap.size := Nat.le_trans z6 h8.size
  have z8 : w.heap.size + 1 ≤ (w8.alloc (.cells #[.int .i64 t8.op, .int .i64 t8.va, .int .i64 t8.vb, .int .i64 t8.dm, .string t8.nm, .slice xa8 t8.cnt xc8] 42)).heap.size := by simp; omega
  have E8_8 := Lib.hid (BoxAt.new (w := w8) (g := w8.heap.size) rfl (.int .i64 t8.op) (.int .i64 t8.va) (.int .i64 t8.vb) (.int .i64 t8.dm) (.string t8.nm) (.slice xa8 t8.cnt xc8) 42)
  clear hP8 h8 hK8
  have X := Lib.hid (expect_any b G tk E s8 ⟨#[44]⟩ _ P8.out)
  have eK : (⟨#[44]⟩ : ByteArray).data.toList = kComma := rfl
  rw [eK] at X
  clear eK
  go_wp2_with fail
  refine X.out.mono ?_
  unfold UnRes
  rintro e w9 ⟨⟨v9, rfl⟩, hP9, h9⟩
  clear X
  have P9 := Lib.hid (hP9)
  have R9 := Lib.hid (R8.out.trans h9)
  have BR9 := Lib.hid (BR8.out.ro h9 hbw)
  have E8_9 := Lib.hid (E8_8.out.ro h9 (by omega))
  have K8_9 := Lib.hid (kidsB_ro K8_8.out h9 (fun q hq => by omega))
  have y9 : w.heap.size + 1 ≤ w9.heap.size := Nat.le_trans z8 h9.size
  have z9 := y9
  clear hP9 h9
  have C := Lib.hid (HH0.out f (Nat.le_refl _) _ (expP tk kComma s8) P9.out (show 10 * rem tk (expP tk kComma s8) + 8 ≤ f by omega))
  unfold PeRes at C
  rw [Ht10.out, Hs10.out] at C
  go_wp2_with fail
  refine C.out.mono ?_
  rintro e w10 ⟨x10, rfl, hK10, hP10, h10⟩
  obtain ⟨xa10, xc10, rfl⟩ := kids_slice (kidsB_to hK10)
  clear C
  have P10 := Lib.hid ((hP10).rel ((Rel.refl _).alloc (.cells #[.int .i64 t10.op, .int .i64 t10.va, .int .i64 t10.vb, .int .i64 t10.dm, .string t10.nm, .slice xa10 t10.cnt xc10] 42)))
  have R10 := Lib.hid ((R9.out.trans h10).alloc (.cells #[.int .i64 t10.op, .int .i64 t10.va, .int .i64 t10.vb, .int .i64 t10.dm, .string t10.nm, .slice xa10 t10.cnt xc10] 42))
  have BR10 := Lib.hid ((BR9.out.ro h10 hbw).rel ((Rel.refl _).alloc (.cells #[.int .i64 t10.op, .int .i64 t10.va, .int .i64 t10.vb, .int .i64 t10.dm, .string t10.nm, .slice xa10 t10.cnt xc10] 42)))
  have E8_10 := Lib.hid ((E8_9.out.ro h10 (by omega)).rel ((Rel.refl _).alloc (.cells #[.int .i64 t10.op, .int .i64 t10.va, .int .i64 t10.vb, .int .i64 t10.dm, .string t10.nm, .slice xa10 t10.cnt xc10] 42)))
  have K8_10 := Lib.hid (kidsB_rl (kidsB_ro K8_9.out h10 (fun q hq => by omega)) ((Rel.refl _).alloc (.cells #[.int .i64 t10.op, .int .i64 t10.va, .int .i64 t10.vb, .int .i64 t10.dm, .string t10.nm, .slice xa10 t10.cnt xc10] 42)))
  have K10_10 := Lib.hid (kidsB_rl (kidsB_mono (Q := fun q => w.heap.size < q) hK10 (fun q hq hp => by omega)) ((Rel.refl _).alloc (.cells #[.int .i64 t10.op, .int .i64 t10.va, .int .i64 t10.vb, .int .i64 t10.dm, .string t10.nm, .slice xa10 t10.cnt xc10] 42)))
  have y10 : w.heap.size + 1 ≤ w10.heap.size := Nat.le_trans z9 h10.size
  have z10 : w.heap.size + 1 ≤ (w10.alloc (.cells #[.int .i64 t10.op, .int .i64 t10.va, .int .i64 t10.vb, .int .i64 t10.dm, .string t10.nm, .slice xa10 t10.cnt xc10] 42)).heap.size := by simp; omega
  have E10_10 := Lib.hid (BoxAt.new (w := w10) (g := w10.heap.size) rfl (.int .i64 t10.op) (.int .i64 t10.va) (.int .i64 t10.vb) (.int .i64 t10.dm) (.string t10.nm) (.slice xa10 t10.cnt xc10) 42)
  clear hP10 h10 hK10
  have X := Lib.hid (expect_any b G tk E s10 ⟨#[41]⟩ _ P10.out)
  have eK : (⟨#[41]⟩ : ByteArray).data.toList = kShut := rfl
  rw [eK] at X
  clear eK
  go_wp2_with fail
  refine X.out.mono ?_
  unfold UnRes
  rintro e w11 ⟨⟨v11, rfl⟩, hP11, h11⟩
  clear X
  have P11 := Lib.hid (hP11)
  have R11 := Lib.hid (R10.out.trans h11)
  have BR11 := Lib.hid (BR10.out.ro h11 hbw)
  have E8_11 := Lib.hid (E8_10.out.ro h11 (by omega))
  have E10_11 := Lib.hid (E10_10.out.ro h11 (by omega))
  have K8_11 := Lib.hid (kidsB_ro K8_10.out h11 (fun q hq => by omega))
  have K10_11 := Lib.hid (kidsB_ro K10_10.out h11 (fun q hq => by omega))
  have y11 : w.heap.size + 1 ≤ w11.heap.size := Nat.le_trans z10 h11.size
  have z11 := y11
  clear hP11 h11
  obtain ⟨rl, rc0, rc1, rc2, rc3, rc4, rc5, rf0, rf1, rf2, rf3, rf4, rf5⟩ := BR11.out
  obtain ⟨l8, c80, c81, c82, c83, c84, c85, q80, q81, q82, q83, q84, q85⟩ := E8_11.out
  obtain ⟨l10, c100, c101, c102, c103, c104, c105, q100, q101, q102, q103, q104, q105⟩ := E10_11.out
  ((try simp only []); (repeat (first | go_values | go_skip | go_guarded | go_step | go_upon | go_in)))
  have hp := prs_put6 P11.out HP.out.toks R11.out (Nat.le_refl w.heap.size) hbw (.int .i64 op) (.int .i64 0) (.int .i64 0) (.int .i64 0) (.string ⟨#[]⟩) (.slice (some ⟨w11.heap.size, 0, none⟩) 2 2)
  have g0 : (((((((w11.setCell ⟨w.heap.size, 0, none⟩ (.int .i64 op)).setCell ⟨w.heap.size, 1, none⟩ (.int .i64 0)).setCell ⟨w.heap.size, 2, none⟩ (.int .i64 0)).setCell ⟨w.heap.size, 3, none⟩ (.int .i64 0)).setCell ⟨w.heap.size, 4, none⟩ (.string ⟨#[]⟩)).setCell ⟨w.heap.size, 5, none⟩ (.slice (some ⟨w11.heap.size, 0, none⟩) 2 2)).alloc (.cells #[.int .i64 t8.op, .int .i64 t8.va, .int .i64 t8.vb, .int .i64 t8.dm, .string t8.nm, .slice xa8 t8.cnt xc8, .int .i64 t10.op, .int .i64 t10.va, .int .i64 t10.vb, .int .i64 t10.dm, .string t10.nm, .slice xa10 t10.cnt xc10] 42)).cell? ⟨w.heap.size, 0, none⟩ = some (.int .i64 op) := by go_simp
  have g1 : (((((((w11.setCell ⟨w.heap.size, 0, none⟩ (.int .i64 op)).setCell ⟨w.heap.size, 1, none⟩ (.int .i64 0)).setCell ⟨w.heap.size, 2, none⟩ (.int .i64 0)).setCell ⟨w.heap.size, 3, none⟩ (.int .i64 0)).setCell ⟨w.heap.size, 4, none⟩ (.string ⟨#[]⟩)).setCell ⟨w.heap.size, 5, none⟩ (.slice (some ⟨w11.heap.size, 0, none⟩) 2 2)).alloc (.cells #[.int .i64 t8.op, .int .i64 t8.va, .int .i64 t8.vb, .int .i64 t8.dm, .string t8.nm, .slice xa8 t8.cnt xc8, .int .i64 t10.op, .int .i64 t10.va, .int .i64 t10.vb, .int .i64 t10.dm, .string t10.nm, .slice xa10 t10.cnt xc10] 42)).cell? ⟨w.heap.size, 1, none⟩ = some (.int .i64 0) := by go_simp
  have g2 : (((((((w11.setCell ⟨w.heap.size, 0, none⟩ (.int .i64 op)).setCell ⟨w.heap.size, 1, none⟩ (.int .i64 0)).setCell ⟨w.heap.size, 2, none⟩ (.int .i64 0)).setCell ⟨w.heap.size, 3, none⟩ (.int .i64 0)).setCell ⟨w.heap.size, 4, none⟩ (.string ⟨#[]⟩)).setCell ⟨w.heap.size, 5, none⟩ (.slice (some ⟨w11.heap.size, 0, none⟩) 2 2)).alloc (.cells #[.int .i64 t8.op, .int .i64 t8.va, .int .i64 t8.vb, .int .i64 t8.dm, .string t8.nm, .slice xa8 t8.cnt xc8, .int .i64 t10.op, .int .i64 t10.va, .int .i64 t10.vb, .int .i64 t10.dm, .string t10.nm, .slice xa10 t10.cnt xc10] 42)).cell? ⟨w.heap.size, 2, none⟩ = some (.int .i64 0) := by go_simp
  have g3 : (((((((w11.setCell ⟨w.heap.size, 0, none⟩ (.int .i64 op)).setCell ⟨w.heap.size, 1, none⟩ (.int .i64 0)).setCell ⟨w.heap.size, 2, none⟩ (.int .i64 0)).setCell ⟨w.heap.size, 3, none⟩ (.int .i64 0)).setCell ⟨w.heap.size, 4, none⟩ (.string ⟨#[]⟩)).setCell ⟨w.heap.size, 5, none⟩ (.slice (some ⟨w11.heap.size, 0, none⟩) 2 2)).alloc (.cells #[.int .i64 t8.op, .int .i64 t8.va, .int .i64 t8.vb, .int .i64 t8.dm, .string t8.nm, .slice xa8 t8.cnt xc8, .int .i64 t10.op, .int .i64 t10.va, .int .i64 t10.vb, .int .i64 t10.dm, .string t10.nm, .slice xa10 t10.cnt xc10] 42)).cell? ⟨w.heap.size, 3, none⟩ = some (.int .i64 0) := by go_simp
  have g4 : (((((((w11.setCell ⟨w.heap.size, 0, none⟩ (.int .i64 op)).setCell ⟨w.heap.size, 1, none⟩ (.int .i64 0)).setCell ⟨w.heap.size, 2, none⟩ (.int .i64 0)).setCell ⟨w.heap.size, 3, none⟩ (.int .i64 0)).setCell ⟨w.heap.size, 4, none⟩ (.string ⟨#[]⟩)).setCell ⟨w.heap.size, 5, none⟩ (.slice (some ⟨w11.heap.size, 0, none⟩) 2 2)).alloc (.cells #[.int .i64 t8.op, .int .i64 t8.va, .int .i64 t8.vb, .int .i64 t8.dm, .string t8.nm, .slice xa8 t8.cnt xc8, .int .i64 t10.op, .int .i64 t10.va, .int .i64 t10.vb, .int .i64 t10.dm, .string t10.nm, .slice xa10 t10.cnt xc10] 42)).cell? ⟨w.heap.size, 4, none⟩ = some (.string ⟨#[]⟩) := by go_simp
  have g5 : (((((((w11.setCell ⟨w.heap.size, 0, none⟩ (.int .i64 op)).setCell ⟨w.heap.size, 1, none⟩ (.int .i64 0)).setCell ⟨w.heap.size, 2, none⟩ (.int .i64 0)).setCell ⟨w.heap.size, 3, none⟩ (.int .i64 0)).setCell ⟨w.heap.size, 4, none⟩ (.string ⟨#[]⟩)).setCell ⟨w.heap.size, 5, none⟩ (.slice (some ⟨w11.heap.size, 0, none⟩) 2 2)).alloc (.cells #[.int .i64 t8.op, .int .i64 t8.va, .int .i64 t8.vb, .int .i64 t8.dm, .string t8.nm, .slice xa8 t8.cnt xc8, .int .i64 t10.op, .int .i64 t10.va, .int .i64 t10.vb, .int .i64 t10.dm, .string t10.nm, .slice xa10 t10.cnt xc10] 42)).cell? ⟨w.heap.size, 5, none⟩ = some (.slice (some ⟨w11.heap.size, 0, none⟩) 2 2) := by go_simp
  refine bodyPost_ret (v := .agg #[.int .i64 op, .int .i64 0, .int .i64 0, .int .i64 0, .string ⟨#[]⟩, .slice (some ⟨w11.heap.size, 0, none⟩) 2 2]) ?_ rfl ⟨_, rfl, pair_tree (op := op) (by simp [World.setCell]) (by omega) hop2 (kidsB_p6 K8_11.out (g := w.heap.size) (Q := fun q => w.heap.size ≤ q) (fun q _ hq => ⟨by omega, by omega⟩) _ _ _ _ _ _) (kidsB_p6 K10_11.out (g := w.heap.size) (Q := fun q => w.heap.size ≤ q) (fun q _ hq => ⟨by omega, by omega⟩) _ _ _ _ _ _), hp.1.rel ((Rel.refl _).alloc _), hp.2.alloc _⟩
  simp [results, Tryd.results160, go_sem, g0, g1, g2, g3, g4, g5]
 rw [if_neg (by simp)]
 have PKa := Lib.hid (fun w' hP => peek_any b G tk E s w' hP)
 unfold PkRes at PKa
 have hz := pkT_size hT s
 have hns := namT_size hT s
 obtain ⟨K, hK⟩ : ∃ K, pkK tk s = K := ⟨_, rfl⟩
 obtain ⟨T, hTT⟩ : ∃ T, pkT tk s = T := ⟨_, rfl⟩
 obtain ⟨A, hA⟩ : ∃ A, pkA tk E s = A := ⟨_, rfl⟩
 rw [hK, hTT, hA] at PKa
 rw [hK, hTT]
 rw [hTT] at hz
 by_cases hK2 : K = 2
 ·skip
  subst hK2
  rw [if_pos rfl]
  obtain ⟨ho, hi⟩ := pkK_some (tk := tk) (s := s) (by omega)
  obtain ⟨⟨n0, n1⟩, d0, d1⟩ := dec_bd T
  obtain ⟨x0, x1⟩ := decX_bd T
  have D := Lib.hid fun w => Decimal_any T w (by unfold maxLen; omega)
  unfold DecRes at D
  obtain ⟨N, hN⟩ : ∃ N, decN T = N := ⟨_, rfl⟩
  obtain ⟨DD, hDD⟩ : ∃ N, decD T = N := ⟨_, rfl⟩
  obtain ⟨X, hX⟩ : ∃ N, decX T = N := ⟨_, rfl⟩
  rw [hN, hDD, hX] at D
  rw [hN] at n0 n1
  rw [hDD] at d0 d1
  rw [hX] at x0 x1
  rw [hN, hDD, hX]
  clear hN hDD hX hK hTT hA
  unfold PeRes
  go_enter Tryd.func160, Tryd.ntmps160
  go_wp2_with fail

  have A := Lib.hid (accept_any b G tk E s ⟨#[45]⟩ _ P0.out)
  unfold AccRes accP at A
  have eK : (⟨#[45]⟩ : ByteArray).data.toList = kNeg := rfl
  rw [eK] at A
  clear eK
  rw [h1, if_neg (by simp)] at A

  go_wp2_with fail
  refine A.out.mono ?_
  rintro e w1 ⟨rfl, hP1, h1⟩
  clear A
  have P1 := Lib.hid (hP1)
  have R1 := Lib.hid (R0.out.trans h1)
  have BR1 := Lib.hid (BR0.out.ro h1 hbw)
  have y1 : w.heap.size + 1 ≤ w1.heap.size := Nat.le_trans z0 h1.size
  have z1 := y1
  clear hP1 h1
  have A := Lib.hid (accept_any b G tk E s ⟨#[40]⟩ _ P1.out)
  unfold AccRes accP at A
  have eK : (⟨#[40]⟩ : ByteArray).data.toList = kOpen := rfl
  rw [eK] at A
  clear eK
  rw [h2, if_neg (by simp)] at A

  go_wp2_with fail
  refine A.out.mono ?_
  rintro e w2 ⟨rfl, hP2, h2⟩
  clear A
  have P2 := Lib.hid (hP2)
  have R2 := Lib.hid (R1.out.trans h2)
  have BR2 := Lib.hid (BR1.out.ro h2 hbw)
  have y2 : w.heap.size + 1 ≤ w2.heap.size := Nat.le_trans z1 h2.size
  have z2 := y2
  clear hP2 h2
  have A := Lib.hid (accept_any b G tk E s ⟨#[98, 101, 115, 116]⟩ _ P2.out)
  unfold AccRes accP at A
  have eK : (⟨#[98, 101, 115, 116]⟩ : ByteArray).data.toList = kBest := rfl
  rw [eK] at A
  clear eK
  rw [h3, if_neg (by simp)] at A

  go_wp2_with fail
  refine A.out.mono ?_
  rintro e w3 ⟨rfl, hP3, h3⟩
  clear A
  have P3 := Lib.hid (hP3)
  have R3 := Lib.hid (R2.out.trans h3)
  have BR3 := Lib.hid (BR2.out.ro h3 hbw)
  have y3 : w.heap.size + 1 ≤ w3.heap.size := Nat.le_trans z2 h3.size
  have z3 := y3
  clear hP3 h3
  have A := Lib.hid (accept_any b G tk E s ⟨#[102, 108, 111, 111, 114]⟩ _ P3.out)
  unfold AccRes accP at A
  have eK : (⟨#[102, 108, 111, 111, 114]⟩ : ByteArray).data.toList = kFloor := rfl
  rw [eK] at A
  clear eK
  rw [h4, if_neg (by simp)] at A

  go_wp2_with fail
  refine A.out.mono ?_
  rintro e w4 ⟨rfl, hP4, h4⟩
  clear A
  have P4 := Lib.hid (hP4)
  have R4 := Lib.hid (R3.out.trans h4)
  have BR4 := Lib.hid (BR3.out.ro h4 hbw)
  have y4 : w.heap.size + 1 ≤ w4.heap.size := Nat.le_trans z3 h4.size
  have z4 := y4
  clear hP4 h4
  have PW := Lib.hid (P4.out.rel ((Rel.refl _).alloc (.cells #[.string ⟨#[109, 105, 110]⟩, .int .i64 19, .string ⟨#[109, 97, 120]⟩, .int .i64 20] 147)))
  have A := Lib.hid (binary_any b G tk E mmL s w4.heap.size 2 _ PW.out (by decide) (by simp) (by omega) (mm_ents _ _ (by simp)))
  unfold BinRes binP at A
  rw [h5, hop, if_neg (by simp)] at A
  go_wp2_with fail
  refine A.out.mono ?_
  rintro e w5 ⟨rfl, hP5, h5'⟩
  have h5 := (Ro.of (b := b) ((Rel.refl _).alloc (.cells #[.string ⟨#[109, 105, 110]⟩, .int .i64 19, .string ⟨#[109, 97, 120]⟩, .int .i64 20] 147))).trans h5'
  clear A PW h5'
  have P5 := Lib.hid (hP5)
  have R5 := Lib.hid (R4.out.trans h5)
  have BR5 := Lib.hid (BR4.out.ro h5 hbw)
  have y5 : w.heap.size + 1 ≤ w5.heap.size := Nat.le_trans z4 h5.size
  have z5 := y5
  clear hP5 h5
  have PK := Lib.hid (PKa.out _ P5.out)

  go_wp2_with fail
  refine PK.out.mono ?_
  rintro e w6 ⟨rfl, h6'⟩
  have hP6 := P5.out.rel h6'
  have h6 := Ro.of (b := b) h6'
  clear h6'
  have P6 := Lib.hid ((hP6).rel ((Rel.refl _).alloc (.cells #[.int .i64 2, .string T, .int .i64 A] 120)))
  have R6 := Lib.hid ((R5.out.trans h6).alloc (.cells #[.int .i64 2, .string T, .int .i64 A] 120))
  have BR6 := Lib.hid ((BR5.out.ro h6 hbw).rel ((Rel.refl _).alloc (.cells #[.int .i64 2, .string T, .int .i64 A] 120)))
  have y6 : w.heap.size + 1 ≤ w6.heap.size := Nat.le_trans z5 h6.size
  have z6 : w.heap.size + 1 ≤ (w6.alloc (.cells #[.int .i64 2, .string T, .int .i64 A] 120)).heap.size := by simp; omega
  clear hP6 h6
  have tb : w6.heap.size ≠ b := by omega
  go_wp2_with fail
  refine (next_tok b G tk E s _ P6.out ho hi).mono ?_
  unfold UnRes
  rintro e w7 ⟨⟨v7, rfl⟩, hP7, h7⟩
  have tt : w7.cell? ⟨w6.heap.size, 1, none⟩ = some (.string T) := h7.cell (by simp) tb (by simp)
  have P7 := Lib.hid (hP7)
  have R7 := Lib.hid (R6.out.trans h7)
  have BR7 := Lib.hid (BR6.out.ro h7 hbw)
  have y7 : w.heap.size + 1 ≤ w7.heap.size := Nat.le_trans z6 h7.size
  have z7 := y7
  clear hP7 h7
  go_wp2_with fail
  refine (D.out _).mono ?_
  rintro e w8 ⟨rfl, h8'⟩
  have hP8 := P7.out.rel h8'
  have h8 := Ro.of (b := b) h8'
  clear h8'
  have P8 := Lib.hid (hP8)
  have R8 := Lib.hid (R7.out.trans h8)
  have BR8 := Lib.hid (BR7.out.ro h8 hbw)
  have y8 : w.heap.size + 1 ≤ w8.heap.size := Nat.le_trans z7 h8.size
  have z8 := y8
  clear hP8 h8
  obtain ⟨rl, rc0, rc1, rc2, rc3, rc4, rc5, rf0, rf1, rf2, rf3, rf4, rf5⟩ := BR8.out
  ((try simp only []); (repeat (first | go_values | go_skip | go_guarded | go_step | go_upon | go_in)))
  have hp := prs_put6 P8.out HP.out.toks R8.out (Nat.le_refl w.heap.size) hbw (.int .i64 1) (.int .i64 N) (.int .i64 DD) (.int .i64 X) (.string ⟨#[]⟩) (.slice none 0 0)
  have g0 : (((((((w8.setCell ⟨w.heap.size, 0, none⟩ (.int .i64 1)).setCell ⟨w.heap.size, 1, none⟩ (.int .i64 N)).setCell ⟨w.heap.size, 2, none⟩ (.int .i64 DD)).setCell ⟨w.heap.size, 3, none⟩ (.int .i64 X)).setCell ⟨w.heap.size, 4, none⟩ (.string ⟨#[]⟩)).setCell ⟨w.heap.size, 5, none⟩ (.slice none 0 0)).alloc (.cells #[.int .i64 N, .int .i64 DD] 39)).cell? ⟨w.heap.size, 0, none⟩ = some (.int .i64 1) := by go_simp
  have g1 : (((((((w8.setCell ⟨w.heap.size, 0, none⟩ (.int .i64 1)).setCell ⟨w.heap.size, 1, none⟩ (.int .i64 N)).setCell ⟨w.heap.size, 2, none⟩ (.int .i64 DD)).setCell ⟨w.heap.size, 3, none⟩ (.int .i64 X)).setCell ⟨w.heap.size, 4, none⟩ (.string ⟨#[]⟩)).setCell ⟨w.heap.size, 5, none⟩ (.slice none 0 0)).alloc (.cells #[.int .i64 N, .int .i64 DD] 39)).cell? ⟨w.heap.size, 1, none⟩ = some (.int .i64 N) := by go_simp
  have g2 : (((((((w8.setCell ⟨w.heap.size, 0, none⟩ (.int .i64 1)).setCell ⟨w.heap.size, 1, none⟩ (.int .i64 N)).setCell ⟨w.heap.size, 2, none⟩ (.int .i64 DD)).setCell ⟨w.heap.size, 3, none⟩ (.int .i64 X)).setCell ⟨w.heap.size, 4, none⟩ (.string ⟨#[]⟩)).setCell ⟨w.heap.size, 5, none⟩ (.slice none 0 0)).alloc (.cells #[.int .i64 N, .int .i64 DD] 39)).cell? ⟨w.heap.size, 2, none⟩ = some (.int .i64 DD) := by go_simp
  have g3 : (((((((w8.setCell ⟨w.heap.size, 0, none⟩ (.int .i64 1)).setCell ⟨w.heap.size, 1, none⟩ (.int .i64 N)).setCell ⟨w.heap.size, 2, none⟩ (.int .i64 DD)).setCell ⟨w.heap.size, 3, none⟩ (.int .i64 X)).setCell ⟨w.heap.size, 4, none⟩ (.string ⟨#[]⟩)).setCell ⟨w.heap.size, 5, none⟩ (.slice none 0 0)).alloc (.cells #[.int .i64 N, .int .i64 DD] 39)).cell? ⟨w.heap.size, 3, none⟩ = some (.int .i64 X) := by go_simp
  have g4 : (((((((w8.setCell ⟨w.heap.size, 0, none⟩ (.int .i64 1)).setCell ⟨w.heap.size, 1, none⟩ (.int .i64 N)).setCell ⟨w.heap.size, 2, none⟩ (.int .i64 DD)).setCell ⟨w.heap.size, 3, none⟩ (.int .i64 X)).setCell ⟨w.heap.size, 4, none⟩ (.string ⟨#[]⟩)).setCell ⟨w.heap.size, 5, none⟩ (.slice none 0 0)).alloc (.cells #[.int .i64 N, .int .i64 DD] 39)).cell? ⟨w.heap.size, 4, none⟩ = some (.string ⟨#[]⟩) := by go_simp
  have g5 : (((((((w8.setCell ⟨w.heap.size, 0, none⟩ (.int .i64 1)).setCell ⟨w.heap.size, 1, none⟩ (.int .i64 N)).setCell ⟨w.heap.size, 2, none⟩ (.int .i64 DD)).setCell ⟨w.heap.size, 3, none⟩ (.int .i64 X)).setCell ⟨w.heap.size, 4, none⟩ (.string ⟨#[]⟩)).setCell ⟨w.heap.size, 5, none⟩ (.slice none 0 0)).alloc (.cells #[.int .i64 N, .int .i64 DD] 39)).cell? ⟨w.heap.size, 5, none⟩ = some (.slice none 0 0) := by go_simp
  refine bodyPost_ret (v := .agg #[.int .i64 1, .int .i64 N, .int .i64 DD, .int .i64 X, .string ⟨#[]⟩, .slice none 0 0]) ?_ rfl ⟨_, rfl, leaf_tree ⟨by decide, by decide, by omega, by omega, by omega, by omega, by omega, by omega, by decide⟩, hp.1.rel ((Rel.refl _).alloc _), hp.2.alloc _⟩
  simp [results, Tryd.results160, go_sem, g0, g1, g2, g3, g4, g5]
 ·skip
  have eK2 : (K == 2) = false := by rw [beq_eq_false_iff_ne]; exact hK2
  rw [if_neg hK2]
  obtain ⟨NT, hNT⟩ : ∃ t, namT tk s = t := ⟨_, rfl⟩
  rw [hNT] at hns ⊢
  have HNT := Lib.hid hNT
  clear hNT hK hTT hA
  unfold PeRes
  go_enter Tryd.func160, Tryd.ntmps160
  go_wp2_with fail

  have A := Lib.hid (accept_any b G tk E s ⟨#[45]⟩ _ P0.out)
  unfold AccRes accP at A
  have eK : (⟨#[45]⟩ : ByteArray).data.toList = kNeg := rfl
  rw [eK] at A
  clear eK
  rw [h1, if_neg (by simp)] at A

  go_wp2_with fail
  refine A.out.mono ?_
  rintro e w1 ⟨rfl, hP1, h1⟩
  clear A
  have P1 := Lib.hid (hP1)
  have R1 := Lib.hid (R0.out.trans h1)
  have BR1 := Lib.hid (BR0.out.ro h1 hbw)
  have y1 : w.heap.size + 1 ≤ w1.heap.size := Nat.le_trans z0 h1.size
  have z1 := y1
  clear hP1 h1
  have A := Lib.hid (accept_any b G tk E s ⟨#[40]⟩ _ P1.out)
  unfold AccRes accP at A
  have eK : (⟨#[40]⟩ : ByteArray).data.toList = kOpen := rfl
  rw [eK] at A
  clear eK
  rw [h2, if_neg (by simp)] at A

  go_wp2_with fail
  refine A.out.mono ?_
  rintro e w2 ⟨rfl, hP2, h2⟩
  clear A
  have P2 := Lib.hid (hP2)
  have R2 := Lib.hid (R1.out.trans h2)
  have BR2 := Lib.hid (BR1.out.ro h2 hbw)
  have y2 : w.heap.size + 1 ≤ w2.heap.size := Nat.le_trans z1 h2.size
  have z2 := y2
  clear hP2 h2
  have A := Lib.hid (accept_any b G tk E s ⟨#[98, 101, 115, 116]⟩ _ P2.out)
  unfold AccRes accP at A
  have eK : (⟨#[98, 101, 115, 116]⟩ : ByteArray).data.toList = kBest := rfl
  rw [eK] at A
  clear eK
  rw [h3, if_neg (by simp)] at A

  go_wp2_with fail
  refine A.out.mono ?_
  rintro e w3 ⟨rfl, hP3, h3⟩
  clear A
  have P3 := Lib.hid (hP3)
  have R3 := Lib.hid (R2.out.trans h3)
  have BR3 := Lib.hid (BR2.out.ro h3 hbw)
  have y3 : w.heap.size + 1 ≤ w3.heap.size := Nat.le_trans z2 h3.size
  have z3 := y3
  clear hP3 h3
  have A := Lib.hid (accept_any b G tk E s ⟨#[102, 108, 111, 111, 114]⟩ _ P3.out)
  unfold AccRes accP at A
  have eK : (⟨#[102, 108, 111, 111, 114]⟩ : ByteArray).data.toList = kFloor := rfl
  rw [eK] at A
  clear eK
  rw [h4, if_neg (by simp)] at A

  go_wp2_with fail
  refine A.out.mono ?_
  rintro e w4 ⟨rfl, hP4, h4⟩
  clear A
  have P4 := Lib.hid (hP4)
  have R4 := Lib.hid (R3.out.trans h4)
  have BR4 := Lib.hid (BR3.out.ro h4 hbw)
  have y4 : w.heap.size + 1 ≤ w4.heap.size := Nat.le_trans z3 h4.size
  have z4 := y4
  clear hP4 h4
  have PW := Lib.hid (P4.out.rel ((Rel.refl _).alloc (.cells #[.string ⟨#[109, 105, 110]⟩, .int .i64 19, .string ⟨#[109, 97, 120]⟩, .int .i64 20] 147)))
  have A := Lib.hid (binary_any b G tk E mmL s w4.heap.size 2 _ PW.out (by decide) (by simp) (by omega) (mm_ents _ _ (by simp)))
  unfold BinRes binP at A
  rw [h5, hop, if_neg (by simp)] at A
  go_wp2_with fail
  refine A.out.mono ?_
  rintro e w5 ⟨rfl, hP5, h5'⟩
  have h5 := (Ro.of (b := b) ((Rel.refl _).alloc (.cells #[.string ⟨#[109, 105, 110]⟩, .int .i64 19, .string ⟨#[109, 97, 120]⟩, .int .i64 20] 147))).trans h5'
  clear A PW h5'
  have P5 := Lib.hid (hP5)
  have R5 := Lib.hid (R4.out.trans h5)
  have BR5 := Lib.hid (BR4.out.ro h5 hbw)
  have y5 : w.heap.size + 1 ≤ w5.heap.size := Nat.le_trans z4 h5.size
  have z5 := y5
  clear hP5 h5
  have PK := Lib.hid (PKa.out _ P5.out)

  go_wp2_with fail
  refine PK.out.mono ?_
  rintro e w6 ⟨rfl, h6'⟩
  have hP6 := P5.out.rel h6'
  have h6 := Ro.of (b := b) h6'
  clear h6'
  have P6 := Lib.hid ((hP6).rel ((Rel.refl _).alloc (.cells #[.int .i64 K, .string T, .int .i64 A] 120)))
  have R6 := Lib.hid ((R5.out.trans h6).alloc (.cells #[.int .i64 K, .string T, .int .i64 A] 120))
  have BR6 := Lib.hid ((BR5.out.ro h6 hbw).rel ((Rel.refl _).alloc (.cells #[.int .i64 K, .string T, .int .i64 A] 120)))
  have y6 : w.heap.size + 1 ≤ w6.heap.size := Nat.le_trans z5 h6.size
  have z6 : w.heap.size + 1 ≤ (w6.alloc (.cells #[.int .i64 K, .string T, .int .i64 A] 120)).heap.size := by simp; omega
  clear hP6 h6
  have NM := Lib.hid (pname_any b G tk E s _ P6.out hT)
  unfold NamRes at NM
  rw [HNT.out] at NM
  go_wp2_with fail
  refine NM.out.mono ?_
  rintro e w7 ⟨rfl, hP7, h7⟩
  clear NM
  have P7 := Lib.hid (hP7)
  have R7 := Lib.hid (R6.out.trans h7)
  have BR7 := Lib.hid (BR6.out.ro h7 hbw)
  have y7 : w.heap.size + 1 ≤ w7.heap.size := Nat.le_trans z6 h7.size
  have z7 := y7
  clear hP7 h7
  obtain ⟨rl, rc0, rc1, rc2, rc3, rc4, rc5, rf0, rf1, rf2, rf3, rf4, rf5⟩ := BR7.out
  ((try simp only []); (repeat (first | go_values | go_skip | go_guarded | go_step | go_upon | go_in)))
  have hp := prs_put6 P7.out HP.out.toks R7.out (Nat.le_refl w.heap.size) hbw (.int .i64 2) (.int .i64 0) (.int .i64 0) (.int .i64 0) (.string NT) (.slice none 0 0)
  have g0 : ((((((w7.setCell ⟨w.heap.size, 0, none⟩ (.int .i64 2)).setCell ⟨w.heap.size, 1, none⟩ (.int .i64 0)).setCell ⟨w.heap.size, 2, none⟩ (.int .i64 0)).setCell ⟨w.heap.size, 3, none⟩ (.int .i64 0)).setCell ⟨w.heap.size, 4, none⟩ (.string NT)).setCell ⟨w.heap.size, 5, none⟩ (.slice none 0 0)).cell? ⟨w.heap.size, 0, none⟩ = some (.int .i64 2) := by go_simp
  have g1 : ((((((w7.setCell ⟨w.heap.size, 0, none⟩ (.int .i64 2)).setCell ⟨w.heap.size, 1, none⟩ (.int .i64 0)).setCell ⟨w.heap.size, 2, none⟩ (.int .i64 0)).setCell ⟨w.heap.size, 3, none⟩ (.int .i64 0)).setCell ⟨w.heap.size, 4, none⟩ (.string NT)).setCell ⟨w.heap.size, 5, none⟩ (.slice none 0 0)).cell? ⟨w.heap.size, 1, none⟩ = some (.int .i64 0) := by go_simp
  have g2 : ((((((w7.setCell ⟨w.heap.size, 0, none⟩ (.int .i64 2)).setCell ⟨w.heap.size, 1, none⟩ (.int .i64 0)).setCell ⟨w.heap.size, 2, none⟩ (.int .i64 0)).setCell ⟨w.heap.size, 3, none⟩ (.int .i64 0)).setCell ⟨w.heap.size, 4, none⟩ (.string NT)).setCell ⟨w.heap.size, 5, none⟩ (.slice none 0 0)).cell? ⟨w.heap.size, 2, none⟩ = some (.int .i64 0) := by go_simp
  have g3 : ((((((w7.setCell ⟨w.heap.size, 0, none⟩ (.int .i64 2)).setCell ⟨w.heap.size, 1, none⟩ (.int .i64 0)).setCell ⟨w.heap.size, 2, none⟩ (.int .i64 0)).setCell ⟨w.heap.size, 3, none⟩ (.int .i64 0)).setCell ⟨w.heap.size, 4, none⟩ (.string NT)).setCell ⟨w.heap.size, 5, none⟩ (.slice none 0 0)).cell? ⟨w.heap.size, 3, none⟩ = some (.int .i64 0) := by go_simp
  have g4 : ((((((w7.setCell ⟨w.heap.size, 0, none⟩ (.int .i64 2)).setCell ⟨w.heap.size, 1, none⟩ (.int .i64 0)).setCell ⟨w.heap.size, 2, none⟩ (.int .i64 0)).setCell ⟨w.heap.size, 3, none⟩ (.int .i64 0)).setCell ⟨w.heap.size, 4, none⟩ (.string NT)).setCell ⟨w.heap.size, 5, none⟩ (.slice none 0 0)).cell? ⟨w.heap.size, 4, none⟩ = some (.string NT) := by go_simp
  have g5 : ((((((w7.setCell ⟨w.heap.size, 0, none⟩ (.int .i64 2)).setCell ⟨w.heap.size, 1, none⟩ (.int .i64 0)).setCell ⟨w.heap.size, 2, none⟩ (.int .i64 0)).setCell ⟨w.heap.size, 3, none⟩ (.int .i64 0)).setCell ⟨w.heap.size, 4, none⟩ (.string NT)).setCell ⟨w.heap.size, 5, none⟩ (.slice none 0 0)).cell? ⟨w.heap.size, 5, none⟩ = some (.slice none 0 0) := by go_simp
  refine bodyPost_ret (v := .agg #[.int .i64 2, .int .i64 0, .int .i64 0, .int .i64 0, .string NT, .slice none 0 0]) ?_ rfl ⟨_, rfl, leaf_tree ⟨by decide, by decide, by decide, by decide, by decide, by decide, by decide, by decide, hns⟩, hp.1, hp.2⟩
  simp [results, Tryd.results160, go_sem, g0, g1, g2, g3, g4, g5]
end Go.Proofs.YtohdmpchbiabmaaDoor

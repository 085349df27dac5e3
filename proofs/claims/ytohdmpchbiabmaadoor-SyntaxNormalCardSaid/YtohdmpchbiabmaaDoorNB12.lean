/- Bundle of texts: each says at its head what it proves; no conditions but those printed. -/
import Derived.Test.YtohdmpchbiabmaaDoorNB11
/- The parser's not, expr, by fuel. No conditions but those printed. -/
namespace Go.Proofs.YtohdmpchbiabmaaDoor
open Go.RowKit Cal Str Tok Frac Txt Tree
attribute [local go_sem] calmUpon
set_option linter.unusedVariables false
set_option linter.unusedSimpArgs false
set_option maxRecDepth 20000 in
set_option maxHeartbeats 8000000 in
theorem pnot_step (b G : Nat) (tk : List Tk) (E : Int) (hT : TksOk tk) (f : Nat) (H3 : ∀ g, g ≤ f → PC b G tk E 113 3 g) (H4 : ∀ g, g ≤ f → PC b G tk E 134 4 g) : PC b G tk E 113 3 (f + 1) := by
 intro w s hP hf
 have hf' : 10 * rem tk s + 5 ≤ f + 1 := hf
 have HP := Lib.hid hP
 have hlt := hP.lt
 have hbw : w.heap.size ≠ b := by omega
 have HH3 := Lib.hid H3
 have HH4 := Lib.hid H4
 clear hP hf H3 H4
 rw [pe_3]

 have BR0 := Lib.hid (BoxAt.new (w := w) (g := w.heap.size) rfl (.int .i64 0) (.int .i64 0) (.int .i64 0) (.int .i64 0) (.string ⟨#[]⟩) (.slice none 0 0) 42)
 have P0 := Lib.hid (HP.out.rel ((Rel.refl _).alloc (.cells #[.int .i64 0, .int .i64 0, .int .i64 0, .int .i64 0, .string ⟨#[]⟩, .slice none 0 0] 42)))
 have R0 := Lib.hid ((Ro.refl b w).alloc (.cells #[.int .i64 0, .int .i64 0, .int .i64 0, .int .i64 0, .string ⟨#[]⟩, .slice none 0 0] 42))
 have z0 : w.heap.size + 1 ≤ (w.alloc (.cells #[.int .i64 0, .int .i64 0, .int .i64 0, .int .i64 0, .string ⟨#[]⟩, .slice none 0 0] 42)).heap.size := by simp
 have A := Lib.hid (accept_any b G tk E s ⟨#[110, 111, 116]⟩ _ P0.out)
 unfold AccRes accP at A
 have eK : (⟨#[110, 111, 116]⟩ : ByteArray).data.toList = kNot := rfl
 rw [eK] at A
 clear eK

 obtain ⟨k, hk⟩ : ∃ k, accB tk kNot s = k := ⟨_, rfl⟩
 rw [hk] at A ⊢
 cases k
 ·rw [if_neg (by simp)] at A ⊢
  clear hk
  unfold PeRes
  obtain ⟨t2, ht2⟩ : ∃ t, (pe tk f 4 .no s).1 = t := ⟨_, rfl⟩
  obtain ⟨s2, hs2⟩ : ∃ t, (pe tk f 4 .no s).2 = t := ⟨_, rfl⟩
  (try rw [ht2])
  (try rw [hs2])
  have b2 := (pe_beh tk f 4 .no s (by unfold md; decide)).rem
  rw [hs2] at b2
  have Ht2 := Lib.hid ht2
  have Hs2 := Lib.hid hs2
  clear ht2 hs2
  go_enter Tryd.func113, Tryd.ntmps113
  go_wp2_with fail

  go_wp2_with fail
  refine A.out.mono ?_
  rintro e w1 ⟨rfl, hP1, h1⟩
  clear A
  have P1 := Lib.hid (hP1)
  have R1 := Lib.hid (R0.out.trans h1)
  have BR1 := Lib.hid (BR0.out.ro h1 hbw)
  have y1 : w.heap.size + 1 ≤ w1.heap.size := Nat.le_trans z0 h1.size
  have z1 := y1
  clear hP1 h1
  have C := Lib.hid (HH4.out f (Nat.le_refl _) _ s P1.out (show 10 * rem tk s + 4 ≤ f by omega))
  unfold PeRes at C
  rw [Ht2.out, Hs2.out] at C
  go_wp2_with fail
  refine C.out.mono ?_
  rintro e w2 ⟨x2, rfl, hK2, hP2, h2⟩
  obtain ⟨xa2, xc2, rfl⟩ := kids_slice (kidsB_to hK2)
  clear C
  have P2 := Lib.hid (hP2)
  have R2 := Lib.hid (R1.out.trans h2)
  have BR2 := Lib.hid (BR1.out.ro h2 hbw)
  have K2_2 := Lib.hid (kidsB_mono (Q := fun q => w.heap.size < q) hK2 (fun q hq hp => by omega))
  have y2 : w.heap.size + 1 ≤ w2.heap.size := Nat.le_trans z1 h2.size
  have z2 := y2
  clear hP2 h2 hK2
  obtain ⟨rl, rc0, rc1, rc2, rc3, rc4, rc5, rf0, rf1, rf2, rf3, rf4, rf5⟩ := BR2.out
  ((try simp only []); (repeat (first | go_values | go_skip | go_guarded | go_step | go_upon | go_in)))
  have hp := prs_put6 P2.out HP.out.toks R2.out (Nat.le_refl w.heap.size) hbw (.int .i64 t2.op) (.int .i64 t2.va) (.int .i64 t2.vb) (.int .i64 t2.dm) (.string t2.nm) (.slice xa2 t2.cnt xc2)
  have g0 : ((((((w2.setCell ⟨w.heap.size, 0, none⟩ (.int .i64 t2.op)).setCell ⟨w.heap.size, 1, none⟩ (.int .i64 t2.va)).setCell ⟨w.heap.size, 2, none⟩ (.int .i64 t2.vb)).setCell ⟨w.heap.size, 3, none⟩ (.int .i64 t2.dm)).setCell ⟨w.heap.size, 4, none⟩ (.string t2.nm)).setCell ⟨w.heap.size, 5, none⟩ (.slice xa2 t2.cnt xc2)).cell? ⟨w.heap.size, 0, none⟩ = some (.int .i64 t2.op) := by go_simp
  have g1 : ((((((w2.setCell ⟨w.heap.size, 0, none⟩ (.int .i64 t2.op)).setCell ⟨w.heap.size, 1, none⟩ (.int .i64 t2.va)).setCell ⟨w.heap.size, 2, none⟩ (.int .i64 t2.vb)).setCell ⟨w.heap.size, 3, none⟩ (.int .i64 t2.dm)).setCell ⟨w.heap.size, 4, none⟩ (.string t2.nm)).setCell ⟨w.heap.size, 5, none⟩ (.slice xa2 t2.cnt xc2)).cell? ⟨w.heap.size, 1, none⟩ = some (.int .i64 t2.va) := by go_simp
  have g2 : ((((((w2.setCell ⟨w.heap.size, 0, none⟩ (.int .i64 t2.op)).setCell ⟨w.heap.size, 1, none⟩ (.int .i64 t2.va)).setCell ⟨w.heap.size, 2, none⟩ (.int .i64 t2.vb)).setCell ⟨w.heap.size, 3, none⟩ (.int .i64 t2.dm)).setCell ⟨w.heap.size, 4, none⟩ (.string t2.nm)).setCell ⟨w.heap.size, 5, none⟩ (.slice xa2 t2.cnt xc2)).cell? ⟨w.heap.size, 2, none⟩ = some (.int .i64 t2.vb) := by go_simp
  have g3 : ((((((w2.setCell ⟨w.heap.size, 0, none⟩ (.int .i64 t2.op)).setCell ⟨w.heap.size, 1, none⟩ (.int .i64 t2.va)).setCell ⟨w.heap.size, 2, none⟩ (.int .i64 t2.vb)).setCell ⟨w.heap.size, 3, none⟩ (.int .i64 t2.dm)).setCell ⟨w.heap.size, 4, none⟩ (.string t2.nm)).setCell ⟨w.heap.size, 5, none⟩ (.slice xa2 t2.cnt xc2)).cell? ⟨w.heap.size, 3, none⟩ = some (.int .i64 t2.dm) := by go_simp
  have g4 : ((((((w2.setCell ⟨w.heap.size, 0, none⟩ (.int .i64 t2.op)).setCell ⟨w.heap.size, 1, none⟩ (.int .i64 t2.va)).setCell ⟨w.heap.size, 2, none⟩ (.int .i64 t2.vb)).setCell ⟨w.heap.size, 3, none⟩ (.int .i64 t2.dm)).setCell ⟨w.heap.size, 4, none⟩ (.string t2.nm)).setCell ⟨w.heap.size, 5, none⟩ (.slice xa2 t2.cnt xc2)).cell? ⟨w.heap.size, 4, none⟩ = some (.string t2.nm) := by go_simp
  have g5 : ((((((w2.setCell ⟨w.heap.size, 0, none⟩ (.int .i64 t2.op)).setCell ⟨w.heap.size, 1, none⟩ (.int .i64 t2.va)).setCell ⟨w.heap.size, 2, none⟩ (.int .i64 t2.vb)).setCell ⟨w.heap.size, 3, none⟩ (.int .i64 t2.dm)).setCell ⟨w.heap.size, 4, none⟩ (.string t2.nm)).setCell ⟨w.heap.size, 5, none⟩ (.slice xa2 t2.cnt xc2)).cell? ⟨w.heap.size, 5, none⟩ = some (.slice xa2 t2.cnt xc2) := by go_simp
  refine bodyPost_ret (v := .agg #[.int .i64 t2.op, .int .i64 t2.va, .int .i64 t2.vb, .int .i64 t2.dm, .string t2.nm, .slice xa2 t2.cnt xc2]) ?_ rfl ⟨_, rfl, kidsB_p6 K2_2.out (g := w.heap.size) (Q := fun q => w.heap.size ≤ q) (fun q _ hq => ⟨by omega, by omega⟩) _ _ _ _ _ _, hp.1, hp.2⟩
  simp [results, Tryd.results113, go_sem, g0, g1, g2, g3, g4, g5]
 ·rw [if_pos rfl] at A ⊢
  obtain ⟨-, hrem⟩ := acc_beh hk
  clear hk
  obtain ⟨t2, ht2⟩ : ∃ t, (pe tk f 3 .no s.adv).1 = t := ⟨_, rfl⟩
  obtain ⟨s2, hs2⟩ : ∃ t, (pe tk f 3 .no s.adv).2 = t := ⟨_, rfl⟩
  (try rw [ht2])
  (try rw [hs2])
  have b2 := (pe_beh tk f 3 .no s.adv (by unfold md; decide)).rem
  rw [hs2] at b2
  have Ht2 := Lib.hid ht2
  have Hs2 := Lib.hid hs2
  clear ht2 hs2
  unfold PeRes
  go_enter Tryd.func113, Tryd.ntmps113
  go_wp2_with fail

  go_wp2_with fail
  refine A.out.mono ?_
  rintro e w1 ⟨rfl, hP1, h1⟩
  clear A
  have P1 := Lib.hid (hP1)
  have R1 := Lib.hid (R0.out.trans h1)
  have BR1 := Lib.hid (BR0.out.ro h1 hbw)
  have y1 : w.heap.size + 1 ≤ w1.heap.size := Nat.le_trans z0 h1.size
  have z1 := y1
  clear hP1 h1
  have C := Lib.hid (HH3.out f (Nat.le_refl _) _ s.adv P1.out (show 10 * rem tk s.adv + 5 ≤ f by omega))
  unfold PeRes at C
  rw [Ht2.out, Hs2.out] at C
  go_wp2_with fail
  refine C.out.mono ?_
  rintro e w2 ⟨x2, rfl, hK2, hP2, h2⟩
  obtain ⟨xa2, xc2, rfl⟩ := kids_slice (kidsB_to hK2)
  clear C
  have P2 := Lib.hid (hP2)
  have R2 := Lib.hid (R1.out.trans h2)
  have BR2 := Lib.hid (BR1.out.ro h2 hbw)
  have K2_2 := Lib.hid (kidsB_mono (Q := fun q => w.heap.size < q) hK2 (fun q hq hp => by omega))
  have y2 : w.heap.size + 1 ≤ w2.heap.size := Nat.le_trans z1 h2.size
  have z2 := y2
  clear hP2 h2 hK2
  obtain ⟨rl, rc0, rc1, rc2, rc3, rc4, rc5, rf0, rf1, rf2, rf3, rf4, rf5⟩ := BR2.out
  ((try simp only []); (repeat (first | go_values | go_skip | go_guarded | go_step | go_upon | go_in)))
  have hp := prs_put6 P2.out HP.out.toks R2.out (Nat.le_refl w.heap.size) hbw (.int .i64 5) (.int .i64 0) (.int .i64 0) (.int .i64 0) (.string ⟨#[]⟩) (.slice (some ⟨w2.heap.size, 0, none⟩) 1 1)
  have g0 : (((((((w2.setCell ⟨w.heap.size, 0, none⟩ (.int .i64 5)).setCell ⟨w.heap.size, 1, none⟩ (.int .i64 0)).setCell ⟨w.heap.size, 2, none⟩ (.int .i64 0)).setCell ⟨w.heap.size, 3, none⟩ (.int .i64 0)).setCell ⟨w.heap.size, 4, none⟩ (.string ⟨#[]⟩)).setCell ⟨w.heap.size, 5, none⟩ (.slice (some ⟨w2.heap.size, 0, none⟩) 1 1)).alloc (.cells #[.int .i64 t2.op, .int .i64 t2.va, .int .i64 t2.vb, .int .i64 t2.dm, .string t2.nm, .slice xa2 t2.cnt xc2] 42)).cell? ⟨w.heap.size, 0, none⟩ = some (.int .i64 5) := by go_simp
  have g1 : (((((((w2.setCell ⟨w.heap.size, 0, none⟩ (.int .i64 5)).setCell ⟨w.heap.size, 1, none⟩ (.int .i64 0)).setCell ⟨w.heap.size, 2, none⟩ (.int .i64 0)).setCell ⟨w.heap.size, 3, none⟩ (.int .i64 0)).setCell ⟨w.heap.size, 4, none⟩ (.string ⟨#[]⟩)).setCell ⟨w.heap.size, 5, none⟩ (.slice (some ⟨w2.heap.size, 0, none⟩) 1 1)).alloc (.cells #[.int .i64 t2.op, .int .i64 t2.va, .int .i64 t2.vb, .int .i64 t2.dm, .string t2.nm, .slice xa2 t2.cnt xc2] 42)).cell? ⟨w.heap.size, 1, none⟩ = some (.int .i64 0) := by go_simp
  have g2 : (((((((w2.setCell ⟨w.heap.size, 0, none⟩ (.int .i64 5)).setCell ⟨w.heap.size, 1, none⟩ (.int .i64 0)).setCell ⟨w.heap.size, 2, none⟩ (.int .i64 0)).setCell ⟨w.heap.size, 3, none⟩ (.int .i64 0)).setCell ⟨w.heap.size, 4, none⟩ (.string ⟨#[]⟩)).setCell ⟨w.heap.size, 5, none⟩ (.slice (some ⟨w2.heap.size, 0, none⟩) 1 1)).alloc (.cells #[.int .i64 t2.op, .int .i64 t2.va, .int .i64 t2.vb, .int .i64 t2.dm, .string t2.nm, .slice xa2 t2.cnt xc2] 42)).cell? ⟨w.heap.size, 2, none⟩ = some (.int .i64 0) := by go_simp
  have g3 : (((((((w2.setCell ⟨w.heap.size, 0, none⟩ (.int .i64 5)).setCell ⟨w.heap.size, 1, none⟩ (.int .i64 0)).setCell ⟨w.heap.size, 2, none⟩ (.int .i64 0)).setCell ⟨w.heap.size, 3, none⟩ (.int .i64 0)).setCell ⟨w.heap.size, 4, none⟩ (.string ⟨#[]⟩)).setCell ⟨w.heap.size, 5, none⟩ (.slice (some ⟨w2.heap.size, 0, none⟩) 1 1)).alloc (.cells #[.int .i64 t2.op, .int .i64 t2.va, .int .i64 t2.vb, .int .i64 t2.dm, .string t2.nm, .slice xa2 t2.cnt xc2] 42)).cell? ⟨w.heap.size, 3, none⟩ = some (.int .i64 0) := by go_simp
  have g4 : (((((((w2.setCell ⟨w.heap.size, 0, none⟩ (.int .i64 5)).setCell ⟨w.heap.size, 1, none⟩ (.int .i64 0)).setCell ⟨w.heap.size, 2, none⟩ (.int .i64 0)).setCell ⟨w.heap.size, 3, none⟩ (.int .i64 0)).setCell ⟨w.heap.size, 4, none⟩ (.string ⟨#[]⟩)).setCell ⟨w.heap.size, 5, none⟩ (.slice (some ⟨w2.heap.size, 0, none⟩) 1 1)).alloc (.cells #[.int .i64 t2.op, .int .i64 t2.va, .int .i64 t2.vb, .int .i64 t2.dm, .string t2.nm, .slice xa2 t2.cnt xc2] 42)).cell? ⟨w.heap.size, 4, none⟩ = some (.string ⟨#[]⟩) := by go_simp
  have g5 : (((((((w2.setCell ⟨w.heap.size, 0, none⟩ (.int .i64 5)).setCell ⟨w.heap.size, 1, none⟩ (.int .i64 0)).setCell ⟨w.heap.size, 2, none⟩ (.int .i64 0)).setCell ⟨w.heap.size, 3, none⟩ (.int .i64 0)).setCell ⟨w.heap.size, 4, none⟩ (.string ⟨#[]⟩)).setCell ⟨w.heap.size, 5, none⟩ (.slice (some ⟨w2.heap.size, 0, none⟩) 1 1)).alloc (.cells #[.int .i64 t2.op, .int .i64 t2.va, .int .i64 t2.vb, .int .i64 t2.dm, .string t2.nm, .slice xa2 t2.cnt xc2] 42)).cell? ⟨w.heap.size, 5, none⟩ = some (.slice (some ⟨w2.heap.size, 0, none⟩) 1 1) := by go_simp
  refine bodyPost_ret (v := .agg #[.int .i64 5, .int .i64 0, .int .i64 0, .int .i64 0, .string ⟨#[]⟩, .slice (some ⟨w2.heap.size, 0, none⟩) 1 1]) ?_ rfl ⟨_, rfl, one_tree (op := 5) (by simp [World.setCell]) (by omega) ⟨by decide, by decide⟩ (kidsB_p6 K2_2.out (g := w.heap.size) (Q := fun q => w.heap.size ≤ q) (fun q _ hq => ⟨by omega, by omega⟩) _ _ _ _ _ _), hp.1.rel ((Rel.refl _).alloc _), hp.2.alloc _⟩
  simp [results, Tryd.results113, go_sem, g0, g1, g2, g3, g4, g5]
set_option maxRecDepth 20000 in
set_option maxHeartbeats 8000000 in
theorem pexpr_step (b G : Nat) (tk : List Tk) (E : Int) (hT : TksOk tk) (f : Nat) (H0 : ∀ g, g ≤ f → PC b G tk E 32 0 g) (H1 : ∀ g, g ≤ f → PC b G tk E 56 1 g) : PC b G tk E 32 0 (f + 1) := by
 intro w s hP hf
 have hf' : 10 * rem tk s + 8 ≤ f + 1 := hf
 have HP := Lib.hid hP
 have hlt := hP.lt
 have hbw : w.heap.size ≠ b := by omega
 have HH0 := Lib.hid H0
 have HH1 := Lib.hid H1
 clear hP hf H0 H1
 rw [pe_0]

 have BR0 := Lib.hid (BoxAt.new (w := w) (g := w.heap.size) rfl (.int .i64 0) (.int .i64 0) (.int .i64 0) (.int .i64 0) (.string ⟨#[]⟩) (.slice none 0 0) 42)
 have P0 := Lib.hid (HP.out.rel ((Rel.refl _).alloc (.cells #[.int .i64 0, .int .i64 0, .int .i64 0, .int .i64 0, .string ⟨#[]⟩, .slice none 0 0] 42)))
 have R0 := Lib.hid ((Ro.refl b w).alloc (.cells #[.int .i64 0, .int .i64 0, .int .i64 0, .int .i64 0, .string ⟨#[]⟩, .slice none 0 0] 42))
 have z0 : w.heap.size + 1 ≤ (w.alloc (.cells #[.int .i64 0, .int .i64 0, .int .i64 0, .int .i64 0, .string ⟨#[]⟩, .slice none 0 0] 42)).heap.size := by simp
 have A := Lib.hid (accept_any b G tk E s ⟨#[105, 102]⟩ _ P0.out)
 unfold AccRes accP at A
 have eK : (⟨#[105, 102]⟩ : ByteArray).data.toList = kIf := rfl
 rw [eK] at A
 clear eK

 obtain ⟨k, hk⟩ : ∃ k, accB tk kIf s = k := ⟨_, rfl⟩
 rw [hk] at A ⊢
 cases k
 ·rw [if_neg (by simp)] at A ⊢
  clear hk
  unfold PeRes
  obtain ⟨t2, ht2⟩ : ∃ t, (pe tk f 1 .no s).1 = t := ⟨_, rfl⟩
  obtain ⟨s2, hs2⟩ : ∃ t, (pe tk f 1 .no s).2 = t := ⟨_, rfl⟩
  (try rw [ht2])
  (try rw [hs2])
  have b2 := (pe_beh tk f 1 .no s (by unfold md; decide)).rem
  rw [hs2] at b2
  have Ht2 := Lib.hid ht2
  have Hs2 := Lib.hid hs2
  clear ht2 hs2
  go_enter Tryd.func32, Tryd.ntmps32
  go_wp2_with fail

  go_wp2_with fail
  refine A.out.mono ?_
  rintro e w1 ⟨rfl, hP1, h1⟩
  clear A
  have P1 := Lib.hid (hP1)
  have R1 := Lib.hid (R0.out.trans h1)
  have BR1 := Lib.hid (BR0.out.ro h1 hbw)
  have y1 : w.heap.size + 1 ≤ w1.heap.size := Nat.le_trans z0 h1.size
  have z1 := y1
  clear hP1 h1
  have C := Lib.hid (HH1.out f (Nat.le_refl _) _ s P1.out (show 10 * rem tk s + 7 ≤ f by omega))
  unfold PeRes at C
  rw [Ht2.out, Hs2.out] at C
  go_wp2_with fail
  refine C.out.mono ?_
  rintro e w2 ⟨x2, rfl, hK2, hP2, h2⟩
  obtain ⟨xa2, xc2, rfl⟩ := kids_slice (kidsB_to hK2)
  clear C
  have P2 := Lib.hid (hP2)
  have R2 := Lib.hid (R1.out.trans h2)
  have BR2 := Lib.hid (BR1.out.ro h2 hbw)
  have K2_2 := Lib.hid (kidsB_mono (Q := fun q => w.heap.size < q) hK2 (fun q hq hp => by omega))
  have y2 : w.heap.size + 1 ≤ w2.heap.size := Nat.le_trans z1 h2.size
  have z2 := y2
  clear hP2 h2 hK2
  obtain ⟨rl, rc0, rc1, rc2, rc3, rc4, rc5, rf0, rf1, rf2, rf3, rf4, rf5⟩ := BR2.out
  ((try simp only []); (repeat (first | go_values | go_skip | go_guarded | go_step | go_upon | go_in)))
  have hp := prs_put6 P2.out HP.out.toks R2.out (Nat.le_refl w.heap.size) hbw (.int .i64 t2.op) (.int .i64 t2.va) (.int .i64 t2.vb) (.int .i64 t2.dm) (.string t2.nm) (.slice xa2 t2.cnt xc2)
  have g0 : ((((((w2.setCell ⟨w.heap.size, 0, none⟩ (.int .i64 t2.op)).setCell ⟨w.heap.size, 1, none⟩ (.int .i64 t2.va)).setCell ⟨w.heap.size, 2, none⟩ (.int .i64 t2.vb)).setCell ⟨w.heap.size, 3, none⟩ (.int .i64 t2.dm)).setCell ⟨w.heap.size, 4, none⟩ (.string t2.nm)).setCell ⟨w.heap.size, 5, none⟩ (.slice xa2 t2.cnt xc2)).cell? ⟨w.heap.size, 0, none⟩ = some (.int .i64 t2.op) := by go_simp
  have g1 : ((((((w2.setCell ⟨w.heap.size, 0, none⟩ (.int .i64 t2.op)).setCell ⟨w.heap.size, 1, none⟩ (.int .i64 t2.va)).setCell ⟨w.heap.size, 2, none⟩ (.int .i64 t2.vb)).setCell ⟨w.heap.size, 3, none⟩ (.int .i64 t2.dm)).setCell ⟨w.heap.size, 4, none⟩ (.string t2.nm)).setCell ⟨w.heap.size, 5, none⟩ (.slice xa2 t2.cnt xc2)).cell? ⟨w.heap.size, 1, none⟩ = some (.int .i64 t2.va) := by go_simp
  have g2 : ((((((w2.setCell ⟨w.heap.size, 0, none⟩ (.int .i64 t2.op)).setCell ⟨w.heap.size, 1, none⟩ (.int .i64 t2.va)).setCell ⟨w.heap.size, 2, none⟩ (.int .i64 t2.vb)).setCell ⟨w.heap.size, 3, none⟩ (.int .i64 t2.dm)).setCell ⟨w.heap.size, 4, none⟩ (.string t2.nm)).setCell ⟨w.heap.size, 5, none⟩ (.slice xa2 t2.cnt xc2)).cell? ⟨w.heap.size, 2, none⟩ = some (.int .i64 t2.vb) := by go_simp
  have g3 : ((((((w2.setCell ⟨w.heap.size, 0, none⟩ (.int .i64 t2.op)).setCell ⟨w.heap.size, 1, none⟩ (.int .i64 t2.va)).setCell ⟨w.heap.size, 2, none⟩ (.int .i64 t2.vb)).setCell ⟨w.heap.size, 3, none⟩ (.int .i64 t2.dm)).setCell ⟨w.heap.size, 4, none⟩ (.string t2.nm)).setCell ⟨w.heap.size, 5, none⟩ (.slice xa2 t2.cnt xc2)).cell? ⟨w.heap.size, 3, none⟩ = some (.int .i64 t2.dm) := by go_simp
  have g4 : ((((((w2.setCell ⟨w.heap.size, 0, none⟩ (.int .i64 t2.op)).setCell ⟨w.heap.size, 1, none⟩ (.int .i64 t2.va)).setCell ⟨w.heap.size, 2, none⟩ (.int .i64 t2.vb)).setCell ⟨w.heap.size, 3, none⟩ (.int .i64 t2.dm)).setCell ⟨w.heap.size, 4, none⟩ (.string t2.nm)).setCell ⟨w.heap.size, 5, none⟩ (.slice xa2 t2.cnt xc2)).cell? ⟨w.heap.size, 4, none⟩ = some (.string t2.nm) := by go_simp
  have g5 : ((((((w2.setCell ⟨w.heap.size, 0, none⟩ (.int .i64 t2.op)).setCell ⟨w.heap.size, 1, none⟩ (.int .i64 t2.va)).setCell ⟨w.heap.size, 2, none⟩ (.int .i64 t2.vb)).setCell ⟨w.heap.size, 3, none⟩ (.int .i64 t2.dm)).setCell ⟨w.heap.size, 4, none⟩ (.string t2.nm)).setCell ⟨w.heap.size, 5, none⟩ (.slice xa2 t2.cnt xc2)).cell? ⟨w.heap.size, 5, none⟩ = some (.slice xa2 t2.cnt xc2) := by go_simp
  refine bodyPost_ret (v := .agg #[.int .i64 t2.op, .int .i64 t2.va, .int .i64 t2.vb, .int .i64 t2.dm, .string t2.nm, .slice xa2 t2.cnt xc2]) ?_ rfl ⟨_, rfl, kidsB_p6 K2_2.out (g := w.heap.size) (Q := fun q => w.heap.size ≤ q) (fun q _ hq => ⟨by omega, by omega⟩) _ _ _ _ _ _, hp.1, hp.2⟩
  simp [results, Tryd.results32, go_sem, g0, g1, g2, g3, g4, g5]
 ·rw [if_pos rfl] at A ⊢
  obtain ⟨-, hrem⟩ := acc_beh hk
  clear hk
  obtain ⟨t2, ht2⟩ : ∃ t, (pe tk f 0 .no s.adv).1 = t := ⟨_, rfl⟩
  obtain ⟨s2, hs2⟩ : ∃ t, (pe tk f 0 .no s.adv).2 = t := ⟨_, rfl⟩
  (try rw [ht2])
  (try rw [hs2])
  have b2 := (pe_beh tk f 0 .no s.adv (by unfold md; decide)).rem
  rw [hs2] at b2
  have Ht2 := Lib.hid ht2
  have Hs2 := Lib.hid hs2
  clear ht2 hs2
  have e2 := (exp_beh tk kThen s2).rem

  obtain ⟨t4, ht4⟩ : ∃ t, (pe tk f 0 .no (expP tk kThen s2)).1 = t := ⟨_, rfl⟩
  obtain ⟨s4, hs4⟩ : ∃ t, (pe tk f 0 .no (expP tk kThen s2)).2 = t := ⟨_, rfl⟩
  (try rw [ht4])
  (try rw [hs4])
  have b4 := (pe_beh tk f 0 .no (expP tk kThen s2) (by unfold md; decide)).rem
  rw [hs4] at b4
  have Ht4 := Lib.hid ht4
  have Hs4 := Lib.hid hs4
  clear ht4 hs4
  have e4 := (exp_beh tk kElse s4).rem

  obtain ⟨t6, ht6⟩ : ∃ t, (pe tk f 0 .no (expP tk kElse s4)).1 = t := ⟨_, rfl⟩
  obtain ⟨s6, hs6⟩ : ∃ t, (pe tk f 0 .no (expP tk kElse s4)).2 = t := ⟨_, rfl⟩
  (try rw [ht6])
  (try rw [hs6])
  have b6 := (pe_beh tk f 0 .no (expP tk kElse s4) (by unfold md; decide)).rem
  rw [hs6] at b6
  have Ht6 := Lib.hid ht6
  have Hs6 := Lib.hid hs6
  clear ht6 hs6
  unfold PeRes
  go_enter Tryd.func32, Tryd.ntmps32
  go_wp2_with fail

  go_wp2_with fail
  refine A.out.mono ?_
  rintro e w1 ⟨rfl, hP1, h1⟩
  clear A
  have P1 := Lib.hid (hP1)
  have R1 := Lib.hid (R0.out.trans h1)
  have BR1 := Lib.hid (BR0.out.ro h1 hbw)
  have y1 : w.heap.size + 1 ≤ w1.heap.size := Nat.le_trans z0 h1.size
  have z1 := y1
  clear hP1 h1
  have C := Lib.hid (HH0.out f (Nat.le_refl _) _ s.adv P1.out (show 10 * rem tk s.adv + 8 ≤ f by omega))
  unfold PeRes at C
  rw [Ht2.out, Hs2.out] at C
  go_wp2_with fail
  refine C.out.mono ?_
  rintro e w2 ⟨x2, rfl, hK2, hP2, h2⟩
  obtain ⟨xa2, xc2, rfl⟩ := kids_slice (kidsB_to hK2)
  clear C
  have P2 := Lib.hid ((hP2).rel ((Rel.refl _).alloc (.cells #[.int .i64 t2.op, .int .i64 t2.va, .int .i64 t2.vb, .int .i64 t2.dm, .string t2.nm, .slice xa2 t2.cnt xc2] 42)))
  have R2 := Lib.hid ((R1.out.trans h2).alloc (.cells #[.int .i64 t2.op, .int .i64 t2.va, .int .i64 t2.vb, .int .i64 t2.dm, .string t2.nm, .slice xa2 t2.cnt xc2] 42))
  have BR2 := Lib.hid ((BR1.out.ro h2 hbw).rel ((Rel.refl _).alloc (.cells #[.int .i64 t2.op, .int .i64 t2.va, .int .i64 t2.vb, .int .i64 t2.dm, .string t2.nm, .slice xa2 t2.cnt xc2] 42)))
  have K2_2 := Lib.hid (kidsB_rl (kidsB_mono (Q := fun q => w.heap.size < q) hK2 (fun q hq hp => by omega)) ((Rel.refl _).alloc (.cells #[.int .i64 t2.op, .int .i64 t2.va, .int .i64 t2.vb, .int .i64 t2.dm, .string t2.nm, .slice xa2 t2.cnt xc2] 42)))
  have y2 : w.heap.size + 1 ≤ w2.heap.size := Nat.le_trans z1 h2.size
  have z2 : w.heap.size + 1 ≤ (w2.alloc (.cells #[.int .i64 t2.op, .int .i64 t2.va, .int .i64 t2.vb, .int .i64 t2.dm, .string t2.nm, .slice xa2 t2.cnt xc2] 42)).heap.size := by simp; omega
  have E2_2 := Lib.hid (BoxAt.new (w := w2) (g := w2.heap.size) rfl (.int .i64 t2.op) (.int .i64 t2.va) (.int .i64 t2.vb) (.int .i64 t2.dm) (.string t2.nm) (.slice xa2 t2.cnt xc2) 42)
  clear hP2 h2 hK2
  have X := Lib.hid (expect_any b G tk E s2 ⟨#[116, 104, 101, 110]⟩ _ P2.out)
  have eK : (⟨#[116, 104, 101, 110]⟩ : ByteArray).data.toList = kThen := rfl
  rw [eK] at X
  clear eK
  go_wp2_with fail
  refine X.out.mono ?_
  unfold UnRes
  rintro e w3 ⟨⟨v3, rfl⟩, hP3, h3⟩
  clear X
  have P3 := Lib.hid (hP3)
  have R3 := Lib.hid (R2.out.trans h3)
  have BR3 := Lib.hid (BR2.out.ro h3 hbw)
  have E2_3 := Lib.hid (E2_2.out.ro h3 (by omega))
  have K2_3 := Lib.hid (kidsB_ro K2_2.out h3 (fun q hq => by omega))
  have y3 : w.heap.size + 1 ≤ w3.heap.size := Nat.le_trans z2 h3.size
  have z3 := y3
  clear hP3 h3
  have C := Lib.hid (HH0.out f (Nat.le_refl _) _ (expP tk kThen s2) P3.out (show 10 * rem tk (expP tk kThen s2) + 8 ≤ f by omega))
  unfold PeRes at C
  rw [Ht4.out, Hs4.out] at C
  go_wp2_with fail
  refine C.out.mono ?_
  rintro e w4 ⟨x4, rfl, hK4, hP4, h4⟩
  obtain ⟨xa4, xc4, rfl⟩ := kids_slice (kidsB_to hK4)
  clear C
  have P4 := Lib.hid ((hP4).rel ((Rel.refl _).alloc (.cells #[.int .i64 t4.op, .int .i64 t4.va, .int .i64 t4.vb, .int .i64 t4.dm, .string t4.nm, .slice xa4 t4.cnt xc4] 42)))
  have R4 := Lib.hid ((R3.out.trans h4).alloc (.cells #[.int .i64 t4.op, .int .i64 t4.va, .int .i64 t4.vb, .int .i64 t4.dm, .string t4.nm, .slice xa4 t4.cnt xc4] 42))
  have BR4 := Lib.hid ((BR3.out.ro h4 hbw).rel ((Rel.refl _).alloc (.cells #[.int .i64 t4.op, .int .i64 t4.va, .int .i64 t4.vb, .int .i64 t4.dm, .string t4.nm, .slice xa4 t4.cnt xc4] 42)))
  have E2_4 := Lib.hid ((E2_3.out.ro h4 (by omega)).rel ((Rel.refl _).alloc (.cells #[.int .i64 t4.op, .int .i64 t4.va, .int .i64 t4.vb, .int .i64 t4.dm, .string t4.nm, .slice xa4 t4.cnt xc4] 42)))
  have K2_4 := Lib.hid (kidsB_rl (kidsB_ro K2_3.out h4 (fun q hq => by omega)) ((Rel.refl _).alloc (.cells #[.int .i64 t4.op, .int .i64 t4.va, .int .i64 t4.vb, .int .i64 t4.dm, .string t4.nm, .slice xa4 t4.cnt xc4] 42)))
  have K4_4 := Lib.hid (kidsB_rl (kidsB_mono (Q := fun q => w.heap.size < q) hK4 (fun q hq hp => by omega)) ((Rel.refl _).alloc (.cells #[.int .i64 t4.op, .int .i64 t4.va, .int .i64 t4.vb, .int .i64 t4.dm, .string t4.nm, .slice xa4 t4.cnt xc4] 42)))
  have y4 : w.heap.size + 1 ≤ w4.heap.size := Nat.le_trans z3 h4.size
  have z4 : w.heap.size + 1 ≤ (w4.alloc (.cells #[.int .i64 t4.op, .int .i64 t4.va, .int .i64 t4.vb, .int .i64 t4.dm, .string t4.nm, .slice xa4 t4.cnt xc4] 42)).heap.size := by simp; omega
  have E4_4 := Lib.hid (BoxAt.new (w := w4) (g := w4.heap.size) rfl (.int .i64 t4.op) (.int .i64 t4.va) (.int .i64 t4.vb) (.int .i64 t4.dm) (.string t4.nm) (.slice xa4 t4.cnt xc4) 42)
  clear hP4 h4 hK4
  have X := Lib.hid (expect_any b G tk E s4 ⟨#[101, 108, 115, 101]⟩ _ P4.out)
  have eK : (⟨#[101, 108, 115, 101]⟩ : ByteArray).data.toList = kElse := rfl
  rw [eK] at X
  clear eK
  go_wp2_with fail
  refine X.out.mono ?_
  unfold UnRes
  rintro e w5 ⟨⟨v5, rfl⟩, hP5, h5⟩
  clear X
  have P5 := Lib.hid (hP5)
  have R5 := Lib.hid (R4.out.trans h5)
  have BR5 := Lib.hid (BR4.out.ro h5 hbw)
  have E2_5 := Lib.hid (E2_4.out.ro h5 (by omega))
  have E4_5 := Lib.hid (E4_4.out.ro h5 (by omega))
  have K2_5 := Lib.hid (kidsB_ro K2_4.out h5 (fun q hq => by omega))
  have K4_5 := Lib.hid (kidsB_ro K4_4.out h5 (fun q hq => by omega))
  have y5 : w.heap.size + 1 ≤ w5.heap.size := Nat.le_trans z4 h5.size
  have z5 := y5
  clear hP5 h5
  go_wp2_with fail
  refine wp_region_calm (fun M w' => M.getD 6 false = false → BoxAt w' w2.heap.size (.int .i64 t2.op) (.int .i64 t2.va) (.int .i64 t2.vb) (.int .i64 t2.dm) (.string t2.nm) (.slice xa2 t2.cnt xc2) ∧ BoxAt w' w4.heap.size (.int .i64 t4.op) (.int .i64 t4.va) (.int .i64 t4.vb) (.int .i64 t4.dm) (.string t4.nm) (.slice xa4 t4.cnt xc4)) (fun i => i == 6) [0, 1, 2] 4 (by kernel_rfl) (by kernel_rfl) ?hst ?hS0 (fun w0 h0 => ?_)
  case hst => exact fun _ _ _ h r hM => ⟨(h hM).1.rel r, (h hM).2.rel r⟩
  case hS0 => exact fun _ => ⟨E2_5.out, E4_5.out⟩
  iterate 3
   refine wpCalm_go rfl (by kernel_rfl) (fun K hK => ?_)
   apply Exists.intro
   refine ⟨fun M w hM hS => ?_, hK _ ?_⟩
   ·have bb := hS (hM 6 (by kernel_rfl))
    have bx := bb.1
    have by' := bb.2
    have d0 := bx.c0
    have d1 := bx.c1
    have d2 := bx.c2
    have d3 := bx.c3
    have d4 := bx.c4
    have d5 := bx.c5
    have f0 := by'.c0
    have f1 := by'.c1
    have f2 := by'.c2
    have f3 := by'.c3
    have f4 := by'.c4
    have f5 := by'.c5
    unfold calmAt
    go_simp
    exact ⟨rfl, Rel.refl _⟩
   clear hK K
  refine wpCalm_nil ?_
  have kz13 := h0.size
  (try simp only [World.size_alloc, World.size_setCell, World.size_drew] at kz13)
  have H13 := Lib.hid h0
  clear h0
  refine wpAnyR_ready (rs := [3]) (by kernel_rfl) (by simp) (AllR.cons rfl (fun w14 h14 K' hK' => ?_) AllR.nil)
  have kz14 := h14.size
  (try simp only [World.size_alloc, World.size_setCell, World.size_drew] at kz14)
  have H14 := Lib.hid h14
  clear h14
  have T14 := Lib.hid (H13.out.trans H14.out)
  have P14 := Lib.hid (P5.out.rel T14.out)
  have y14 := Nat.le_trans z5 T14.out.size
  have C := Lib.hid (HH0.out f (Nat.le_refl _) w14 (expP tk kElse s4) P14.out (show 10 * rem tk (expP tk kElse s4) + 8 ≤ f by omega))
  unfold PeRes at C
  rw [Ht6.out, Hs6.out] at C
  go_simp
  refine C.out.mono ?_
  rintro e w6 ⟨x6, rfl, hK6, hP6, h6⟩
  obtain ⟨xa6, xc6, rfl⟩ := kids_slice (kidsB_to hK6)
  clear C
  have BR6 := Lib.hid ((BR5.out.rel T14.out).ro h6 hbw)
  have E2_6 := Lib.hid ((E2_5.out.rel T14.out).ro h6 (by omega))
  have E4_6 := Lib.hid ((E4_5.out.rel T14.out).ro h6 (by omega))
  have K2_6 := Lib.hid (kidsB_ro (kidsB_rl K2_5.out T14.out) h6 (fun q hq => by omega))
  have K4_6 := Lib.hid (kidsB_ro (kidsB_rl K4_5.out T14.out) h6 (fun q hq => by omega))
  have K6_6 := Lib.hid (kidsB_mono (Q := fun q => w.heap.size < q) hK6 (fun q _ hp => by omega))
  have P6 := Lib.hid hP6
  have R6 := Lib.hid ((R5.out.trans (Ro.of T14.out)).trans h6)
  have y6 := Nat.le_trans y14 h6.size
  clear hK6 hP6 h6
  refine hK'.out _ _ (fun _ => ⟨E2_6.out, E4_6.out⟩) ?_
  clear hK' K'
  refine wpAnyR_ready (rs := [4]) (by kernel_rfl) (by simp) (AllR.cons rfl (fun w7 h7 K' hK' => ?_) AllR.nil)
  have y7 := Nat.le_trans y6 h7.size
  have TR := Lib.hid (three_tree (W := w7) (T := 42) rfl (P := fun q => w.heap.size < q) (by omega) (kidsB_rl K2_6.out h7) (kidsB_rl K4_6.out h7) (kidsB_rl K6_6.out h7))
  have kz7 := h7.size
  (try simp only [World.size_alloc, World.size_setCell, World.size_drew] at kz7)
  have H7 := Lib.hid h7
  clear h7
  go_simp
  refine hK'.out _ _ (fun _ => ⟨(E2_6.out.rel H7.out).rel ((Rel.refl _).alloc _), (E4_6.out.rel H7.out).rel ((Rel.refl _).alloc _)⟩) ?_
  clear hK' K'
  refine wpAnyR_ready (rs := [5]) (by kernel_rfl) (by simp) (AllR.cons rfl (fun w8 h8 K' hK' => ?_) AllR.nil)
  have T8 := Lib.hid (((H7.out).alloc (.cells #[.int .i64 t2.op, .int .i64 t2.va, .int .i64 t2.vb, .int .i64 t2.dm, .string t2.nm, .slice xa2 t2.cnt xc2, .int .i64 t4.op, .int .i64 t4.va, .int .i64 t4.vb, .int .i64 t4.dm, .string t4.nm, .slice xa4 t4.cnt xc4, .int .i64 t6.op, .int .i64 t6.va, .int .i64 t6.vb, .int .i64 t6.dm, .string t6.nm, .slice xa6 t6.cnt xc6] 42)).trans h8)
  have TK8 := Lib.hid (kidsB_rl TR.out h8)
  clear h8
  go_simp
  refine hK'.out _ _ (fun _ => ⟨E2_6.out.rel T8.out, E4_6.out.rel T8.out⟩) ?_
  clear hK' K'
  refine wpAnyR_ready (rs := [6]) (by kernel_rfl) (by simp) (AllR.cons rfl (fun w9 h9 K' hK' => ?_) AllR.nil)
  have T9 := Lib.hid (T8.out.trans h9)
  have TK9 := Lib.hid (kidsB_rl TK8.out h9)
  have BR9 := Lib.hid (BR6.out.rel T9.out)
  obtain ⟨rl, rc0, rc1, rc2, rc3, rc4, rc5, rf0, rf1, rf2, rf3, rf4, rf5⟩ := BR9.out
  have P9 := Lib.hid (P6.out.rel T9.out)
  have R9 := Lib.hid (R6.out.trans (Ro.of T9.out))
  clear h9
  go_simp
  refine hK'.out _ _ (fun h => absurd (h.symm.trans (by kernel_rfl : _ = true)) (by simp)) ?_
  clear hK' K'
  refine wpAnyR_end (by kernel_rfl) (fun w10 h10 => ?_)
  have hp := prs_put6 P9.out HP.out.toks R9.out (Nat.le_refl w.heap.size) hbw (.int .i64 21) (.int .i64 0) (.int .i64 0) (.int .i64 0) (.string ⟨#[]⟩) (.slice (some ⟨w7.heap.size, 0, none⟩) 3 3)
  have TK10 := Lib.hid (kidsB_rl (kidsB_p6 TK9.out (g := w.heap.size) (Q := fun q => w.heap.size ≤ q) (fun q _ hq => ⟨by omega, by omega⟩) (.int .i64 21) (.int .i64 0) (.int .i64 0) (.int .i64 0) (.string ⟨#[]⟩) (.slice (some ⟨w7.heap.size, 0, none⟩) 3 3)) h10)
  have BR10 := (BR9.out.put6 (.int .i64 21) (.int .i64 0) (.int .i64 0) (.int .i64 0) (.string ⟨#[]⟩) (.slice (some ⟨w7.heap.size, 0, none⟩) 3 3)).rel h10
  have P10 := Lib.hid (hp.1.rel h10)
  have R10 := Lib.hid (hp.2.trans (Ro.of h10))
  obtain ⟨rl, g0, g1, g2, g3, g4, g5, -, -, -, -, -, -⟩ := BR10
  clear h10 hp rc0 rc1 rc2 rc3 rc4 rc5 rf0 rf1 rf2 rf3 rf4 rf5
  ((try simp only []); (repeat (first | go_values | go_skip | go_guarded | go_step | go_upon | go_in)))
  refine bodyPost_ret (v := .agg #[.int .i64 21, .int .i64 0, .int .i64 0, .int .i64 0, .string ⟨#[]⟩, .slice (some ⟨w7.heap.size, 0, none⟩) 3 3]) ?_ rfl ⟨_, rfl, TK10.out, P10.out, R10.out⟩
  simp [results, Tryd.results32, go_sem, g0, g1, g2, g3, g4, g5]
end Go.Proofs.YtohdmpchbiabmaaDoor

/- The parser's rel, by fuel. No conditions but those printed. -/
namespace Go.Proofs.YtohdmpchbiabmaaDoor
open Go.RowKit Cal Str Tok Frac Txt Tree
attribute [local go_sem] calmUpon
set_option linter.unusedVariables false
set_option linter.unusedSimpArgs false
theorem rel_ents (W : World) (T : TypeId) {g : Nat} (hg : g = W.heap.size) : ∀ (i : Nat) p, relL[i]? = some p → (W.alloc (.cells #[.string ⟨#[60]⟩, .int .i64 11, .string ⟨#[60, 61]⟩, .int .i64 12, .string ⟨#[61]⟩, .int .i64 13, .string ⟨#[60, 62]⟩, .int .i64 14, .string ⟨#[62]⟩, .int .i64 15, .string ⟨#[62, 61]⟩, .int .i64 16] T)).cell? ⟨g, i * 2, none⟩ = some (.string ⟨p.1.toArray⟩) ∧ (W.alloc (.cells #[.string ⟨#[60]⟩, .int .i64 11, .string ⟨#[60, 61]⟩, .int .i64 12, .string ⟨#[61]⟩, .int .i64 13, .string ⟨#[60, 62]⟩, .int .i64 14, .string ⟨#[62]⟩, .int .i64 15, .string ⟨#[62, 61]⟩, .int .i64 16] T)).cell? ⟨g, i * 2 + 1, none⟩ = some (.int .i64 p.2) := by
 subst hg
 intro i p hp
 rcases (show i = 0 ∨ i = 1 ∨ i = 2 ∨ i = 3 ∨ i = 4 ∨ i = 5 ∨ 6 ≤ i by omega) with rfl | rfl | rfl | rfl | rfl | rfl | h
 ·cases hp; exact ⟨by simp, by simp⟩
 ·cases hp; exact ⟨by simp, by simp⟩
 ·cases hp; exact ⟨by simp, by simp⟩
 ·cases hp; exact ⟨by simp, by simp⟩
 ·cases hp; exact ⟨by simp, by simp⟩
 ·cases hp; exact ⟨by simp, by simp⟩
 ·rw [show relL[i]? = none from List.getElem?_eq_none h] at hp; cases hp
set_option maxRecDepth 20000 in
set_option maxHeartbeats 8000000 in
theorem prel_step (b G : Nat) (tk : List Tk) (E : Int) (hT : TksOk tk) (f : Nat) (H5 : ∀ g, g ≤ f → PC b G tk E 146 5 g) : PC b G tk E 134 4 (f + 1) := by
 intro w s hP hf
 have hf' : 10 * rem tk s + 4 ≤ f + 1 := hf
 have HP := Lib.hid hP
 have hlt := hP.lt
 have hbw : w.heap.size ≠ b := by omega
 have HH5 := Lib.hid H5
 clear hP hf H5
 rw [pe_4]

 have BR0 := Lib.hid (BoxAt.new (w := w) (g := w.heap.size) rfl (.int .i64 0) (.int .i64 0) (.int .i64 0) (.int .i64 0) (.string ⟨#[]⟩) (.slice none 0 0) 42)
 have P0 := Lib.hid (HP.out.rel ((Rel.refl _).alloc (.cells #[.int .i64 0, .int .i64 0, .int .i64 0, .int .i64 0, .string ⟨#[]⟩, .slice none 0 0] 42)))
 have R0 := Lib.hid ((Ro.refl b w).alloc (.cells #[.int .i64 0, .int .i64 0, .int .i64 0, .int .i64 0, .string ⟨#[]⟩, .slice none 0 0] 42))
 have z0 : w.heap.size + 1 ≤ (w.alloc (.cells #[.int .i64 0, .int .i64 0, .int .i64 0, .int .i64 0, .string ⟨#[]⟩, .slice none 0 0] 42)).heap.size := by simp

 obtain ⟨t1, ht1⟩ : ∃ t, (pe tk f 5 .no s).1 = t := ⟨_, rfl⟩
 obtain ⟨s1, hs1⟩ : ∃ t, (pe tk f 5 .no s).2 = t := ⟨_, rfl⟩
 have b1 := (pe_beh tk f 5 .no s (by unfold md; decide)).rem
 rw [hs1] at b1
 have Ht1 := Lib.hid ht1
 have Hs1 := Lib.hid hs1
 have hpr : pe tk f 5 .no s = (t1, s1) := Prod.ext ht1 hs1
 rw [hpr]
 dsimp only
 have bt := bin_ops relL tk s1
 obtain ⟨op, hop⟩ : ∃ op, binT tk s1 relL = op := ⟨_, rfl⟩
 obtain ⟨k, hk⟩ : ∃ k, binO tk s1 relL = k := ⟨_, rfl⟩
 rw [hk, hop]
 rw [hop] at bt
 have hop2 : 0 ≤ op ∧ op ≤ 100 := bt (by decide)
 clear ht1 hs1 hpr bt
 cases k
 ·rw [if_neg (by simp)]
  unfold PeRes
  go_enter Tryd.func134, Tryd.ntmps134
  go_wp2_with fail

  have C := Lib.hid (HH5.out f (Nat.le_refl _) _ s P0.out (show 10 * rem tk s + 3 ≤ f by omega))
  unfold PeRes at C
  rw [Ht1.out, Hs1.out] at C
  go_wp2_with fail
  refine C.out.mono ?_
  rintro e w1 ⟨x1, rfl, hK1, hP1, h1⟩
  obtain ⟨xa1, xc1, rfl⟩ := kids_slice (kidsB_to hK1)
  clear C
  have P1 := Lib.hid ((hP1).rel ((Rel.refl _).alloc (.cells #[.int .i64 t1.op, .int .i64 t1.va, .int .i64 t1.vb, .int .i64 t1.dm, .string t1.nm, .slice xa1 t1.cnt xc1] 42)))
  have R1 := Lib.hid ((R0.out.trans h1).alloc (.cells #[.int .i64 t1.op, .int .i64 t1.va, .int .i64 t1.vb, .int .i64 t1.dm, .string t1.nm, .slice xa1 t1.cnt xc1] 42))
  have BR1 := Lib.hid ((BR0.out.ro h1 hbw).rel ((Rel.refl _).alloc (.cells #[.int .i64 t1.op, .int .i64 t1.va, .int .i64 t1.vb, .int .i64 t1.dm, .string t1.nm, .slice xa1 t1.cnt xc1] 42)))
  have K1_1 := Lib.hid (kidsB_rl (kidsB_mono (Q := fun q => w.heap.size < q) hK1 (fun q hq hp => by omega)) ((Rel.refl _).alloc (.cells #[.int .i64 t1.op, .int .i64 t1.va, .int .i64 t1.vb, .int .i64 t1.dm, .string t1.nm, .slice xa1 t1.cnt xc1] 42)))
  have y1 : w.heap.size + 1 ≤ w1.heap.size := Nat.le_trans z0 h1.size
  have z1 : w.heap.size + 1 ≤ (w1.alloc (.cells #[.int .i64 t1.op, .int .i64 t1.va, .int .i64 t1.vb, .int .i64 t1.dm, .string t1.nm, .slice xa1 t1.cnt xc1] 42)).heap.size := by simp; omega
  have E1_1 := Lib.hid (BoxAt.new (w := w1) (g := w1.heap.size) rfl (.int .i64 t1.op) (.int .i64 t1.va) (.int .i64 t1.vb) (.int .i64 t1.dm) (.string t1.nm) (.slice xa1 t1.cnt xc1) 42)
  clear hP1 h1 hK1
  have PW := Lib.hid (P1.out.rel ((Rel.refl _).alloc (.cells #[.string ⟨#[60]⟩, .int .i64 11, .string ⟨#[60, 61]⟩, .int .i64 12, .string ⟨#[61]⟩, .int .i64 13, .string ⟨#[60, 62]⟩, .int .i64 14, .string ⟨#[62]⟩, .int .i64 15, .string ⟨#[62, 61]⟩, .int .i64 16] 147)))
  have A := Lib.hid (binary_any b G tk E relL s1 (w1.heap.size + 1) 6 _ PW.out (by decide) (by simp) (by omega) (rel_ents _ _ (by simp)))
  unfold BinRes binP at A
  rw [hk, hop, if_neg (by simp)] at A
  go_wp2_with fail
  refine A.out.mono ?_
  rintro e w2 ⟨rfl, hP2, h2'⟩
  have h2 := (Ro.of (b := b) ((Rel.refl _).alloc (.cells #[.string ⟨#[60]⟩, .int .i64 11, .string ⟨#[60, 61]⟩, .int .i64 12, .string ⟨#[61]⟩, .int .i64 13, .string ⟨#[60, 62]⟩, .int .i64 14, .string ⟨#[62]⟩, .int .i64 15, .string ⟨#[62, 61]⟩, .int .i64 16] 147))).trans h2'
  clear A PW h2'
  have P2 := Lib.hid (hP2)
  have R2 := Lib.hid (R1.out.trans h2)
  have BR2 := Lib.hid (BR1.out.ro h2 hbw)
  have E1_2 := Lib.hid (E1_1.out.ro h2 (by omega))
  have K1_2 := Lib.hid (kidsB_ro K1_1.out h2 (fun q hq => by omega))
  have y2 : w.heap.size + 1 ≤ w2.heap.size := Nat.le_trans z1 h2.size
  have z2 := y2
  clear hP2 h2
  obtain ⟨rl, rc0, rc1, rc2, rc3, rc4, rc5, rf0, rf1, rf2, rf3, rf4, rf5⟩ := BR2.out
  obtain ⟨l1, c10, c11, c12, c13, c14, c15, q10, q11, q12, q13, q14, q15⟩ := E1_2.out
  ((try simp only []); (repeat (first | go_values | go_skip | go_guarded | go_step | go_upon | go_in)))
  have hp := prs_put6 P2.out HP.out.toks R2.out (Nat.le_refl w.heap.size) hbw (.int .i64 t1.op) (.int .i64 t1.va) (.int .i64 t1.vb) (.int .i64 t1.dm) (.string t1.nm) (.slice xa1 t1.cnt xc1)
  have g0 : ((((((w2.setCell ⟨w.heap.size, 0, none⟩ (.int .i64 t1.op)).setCell ⟨w.heap.size, 1, none⟩ (.int .i64 t1.va)).setCell ⟨w.heap.size, 2, none⟩ (.int .i64 t1.vb)).setCell ⟨w.heap.size, 3, none⟩ (.int .i64 t1.dm)).setCell ⟨w.heap.size, 4, none⟩ (.string t1.nm)).setCell ⟨w.heap.size, 5, none⟩ (.slice xa1 t1.cnt xc1)).cell? ⟨w.heap.size, 0, none⟩ = some (.int .i64 t1.op) := by go_simp
  have g1 : ((((((w2.setCell ⟨w.heap.size, 0, none⟩ (.int .i64 t1.op)).setCell ⟨w.heap.size, 1, none⟩ (.int .i64 t1.va)).setCell ⟨w.heap.size, 2, none⟩ (.int .i64 t1.vb)).setCell ⟨w.heap.size, 3, none⟩ (.int .i64 t1.dm)).setCell ⟨w.heap.size, 4, none⟩ (.string t1.nm)).setCell ⟨w.heap.size, 5, none⟩ (.slice xa1 t1.cnt xc1)).cell? ⟨w.heap.size, 1, none⟩ = some (.int .i64 t1.va) := by go_simp
  have g2 : ((((((w2.setCell ⟨w.heap.size, 0, none⟩ (.int .i64 t1.op)).setCell ⟨w.heap.size, 1, none⟩ (.int .i64 t1.va)).setCell ⟨w.heap.size, 2, none⟩ (.int .i64 t1.vb)).setCell ⟨w.heap.size, 3, none⟩ (.int .i64 t1.dm)).setCell ⟨w.heap.size, 4, none⟩ (.string t1.nm)).setCell ⟨w.heap.size, 5, none⟩ (.slice xa1 t1.cnt xc1)).cell? ⟨w.heap.size, 2, none⟩ = some (.int .i64 t1.vb) := by go_simp
  have g3 : ((((((w2.setCell ⟨w.heap.size, 0, none⟩ (.int .i64 t1.op)).setCell ⟨w.heap.size, 1, none⟩ (.int .i64 t1.va)).setCell ⟨w.heap.size, 2, none⟩ (.int .i64 t1.vb)).setCell ⟨w.heap.size, 3, none⟩ (.int .i64 t1.dm)).setCell ⟨w.heap.size, 4, none⟩ (.string t1.nm)).setCell ⟨w.heap.size, 5, none⟩ (.slice xa1 t1.cnt xc1)).cell? ⟨w.heap.size, 3, none⟩ = some (.int .i64 t1.dm) := by go_simp
  have g4 : ((((((w2.setCell ⟨w.heap.size, 0, none⟩ (.int .i64 t1.op)).setCell ⟨w.heap.size, 1, none⟩ (.int .i64 t1.va)).setCell ⟨w.heap.size, 2, none⟩ (.int .i64 t1.vb)).setCell ⟨w.heap.size, 3, none⟩ (.int .i64 t1.dm)).setCell ⟨w.heap.size, 4, none⟩ (.string t1.nm)).setCell ⟨w.heap.size, 5, none⟩ (.slice xa1 t1.cnt xc1)).cell? ⟨w.heap.size, 4, none⟩ = some (.string t1.nm) := by go_simp
  have g5 : ((((((w2.setCell ⟨w.heap.size, 0, none⟩ (.int .i64 t1.op)).setCell ⟨w.heap.size, 1, none⟩ (.int .i64 t1.va)).setCell ⟨w.heap.size, 2, none⟩ (.int .i64 t1.vb)).setCell ⟨w.heap.size, 3, none⟩ (.int .i64 t1.dm)).setCell ⟨w.heap.size, 4, none⟩ (.string t1.nm)).setCell ⟨w.heap.size, 5, none⟩ (.slice xa1 t1.cnt xc1)).cell? ⟨w.heap.size, 5, none⟩ = some (.slice xa1 t1.cnt xc1) := by go_simp
  refine bodyPost_ret (v := .agg #[.int .i64 t1.op, .int .i64 t1.va, .int .i64 t1.vb, .int .i64 t1.dm, .string t1.nm, .slice xa1 t1.cnt xc1]) ?_ rfl ⟨_, rfl, kidsB_p6 K1_2.out (g := w.heap.size) (Q := fun q => w.heap.size ≤ q) (fun q _ hq => ⟨by omega, by omega⟩) _ _ _ _ _ _, hp.1, hp.2⟩
  simp [results, Tryd.results134, go_sem, g0, g1, g2, g3, g4, g5]
 ·rw [if_pos rfl]
  obtain ⟨-, hrem⟩ := bin_beh hk

  obtain ⟨t3, ht3⟩ : ∃ t, (pe tk f 5 .no s1.adv).1 = t := ⟨_, rfl⟩
  obtain ⟨s3, hs3⟩ : ∃ t, (pe tk f 5 .no s1.adv).2 = t := ⟨_, rfl⟩
  (try rw [ht3])
  (try rw [hs3])
  have b3 := (pe_beh tk f 5 .no s1.adv (by unfold md; decide)).rem
  rw [hs3] at b3
  have Ht3 := Lib.hid ht3
  have Hs3 := Lib.hid hs3
  clear ht3 hs3
  unfold PeRes
  go_enter Tryd.func134, Tryd.ntmps134
  go_wp2_with fail

  have C := Lib.hid (HH5.out f (Nat.le_refl _) _ s P0.out (show 10 * rem tk s + 3 ≤ f by omega))
  unfold PeRes at C
  rw [Ht1.out, Hs1.out] at C
  go_wp2_with fail
  refine C.out.mono ?_
  rintro e w1 ⟨x1, rfl, hK1, hP1, h1⟩
  obtain ⟨xa1, xc1, rfl⟩ := kids_slice (kidsB_to hK1)
  clear C
  have P1 := Lib.hid ((hP1).rel ((Rel.refl _).alloc (.cells #[.int .i64 t1.op, .int .i64 t1.va, .int .i64 t1.vb, .int .i64 t1.dm, .string t1.nm, .slice xa1 t1.cnt xc1] 42)))
  have R1 := Lib.hid ((R0.out.trans h1).alloc (.cells #[.int .i64 t1.op, .int .i64 t1.va, .int .i64 t1.vb, .int .i64 t1.dm, .string t1.nm, .slice xa1 t1.cnt xc1] 42))
  have BR1 := Lib.hid ((BR0.out.ro h1 hbw).rel ((Rel.refl _).alloc (.cells #[.int .i64 t1.op, .int .i64 t1.va, .int .i64 t1.vb, .int .i64 t1.dm, .string t1.nm, .slice xa1 t1.cnt xc1] 42)))
  have K1_1 := Lib.hid (kidsB_rl (kidsB_mono (Q := fun q => w.heap.size < q ∧ q ≠ w1.heap.size) hK1 (fun q hq hp => by omega)) ((Rel.refl _).alloc (.cells #[.int .i64 t1.op, .int .i64 t1.va, .int .i64 t1.vb, .int .i64 t1.dm, .string t1.nm, .slice xa1 t1.cnt xc1] 42)))
  have y1 : w.heap.size + 1 ≤ w1.heap.size := Nat.le_trans z0 h1.size
  have z1 : w.heap.size + 1 ≤ (w1.alloc (.cells #[.int .i64 t1.op, .int .i64 t1.va, .int .i64 t1.vb, .int .i64 t1.dm, .string t1.nm, .slice xa1 t1.cnt xc1] 42)).heap.size := by simp; omega
  have E1_1 := Lib.hid (BoxAt.new (w := w1) (g := w1.heap.size) rfl (.int .i64 t1.op) (.int .i64 t1.va) (.int .i64 t1.vb) (.int .i64 t1.dm) (.string t1.nm) (.slice xa1 t1.cnt xc1) 42)
  clear hP1 h1 hK1
  have PW := Lib.hid (P1.out.rel ((Rel.refl _).alloc (.cells #[.string ⟨#[60]⟩, .int .i64 11, .string ⟨#[60, 61]⟩, .int .i64 12, .string ⟨#[61]⟩, .int .i64 13, .string ⟨#[60, 62]⟩, .int .i64 14, .string ⟨#[62]⟩, .int .i64 15, .string ⟨#[62, 61]⟩, .int .i64 16] 147)))
  have A := Lib.hid (binary_any b G tk E relL s1 (w1.heap.size + 1) 6 _ PW.out (by decide) (by simp) (by omega) (rel_ents _ _ (by simp)))
  unfold BinRes binP at A
  rw [hk, hop, if_pos rfl] at A
  go_wp2_with fail
  refine A.out.mono ?_
  rintro e w2 ⟨rfl, hP2, h2'⟩
  have h2 := (Ro.of (b := b) ((Rel.refl _).alloc (.cells #[.string ⟨#[60]⟩, .int .i64 11, .string ⟨#[60, 61]⟩, .int .i64 12, .string ⟨#[61]⟩, .int .i64 13, .string ⟨#[60, 62]⟩, .int .i64 14, .string ⟨#[62]⟩, .int .i64 15, .string ⟨#[62, 61]⟩, .int .i64 16] 147))).trans h2'
  clear A PW h2'
  have P2 := Lib.hid (hP2)
  have R2 := Lib.hid (R1.out.trans h2)
  have BR2 := Lib.hid (BR1.out.ro h2 hbw)
  have E1_2 := Lib.hid (E1_1.out.ro h2 (by omega))
  have K1_2 := Lib.hid (kidsB_ro K1_1.out h2 (fun q hq => by omega))
  have y2 : w.heap.size + 1 ≤ w2.heap.size := Nat.le_trans z1 h2.size
  have z2 := y2
  clear hP2 h2
  clear hk
  go_wp2_with fail
  refine wp_region_calm (fun M w' => M.getD 6 false = false → BoxAt w' w1.heap.size (.int .i64 t1.op) (.int .i64 t1.va) (.int .i64 t1.vb) (.int .i64 t1.dm) (.string t1.nm) (.slice xa1 t1.cnt xc1)) (fun i => i == 6) [0, 1, 2] 4 (by kernel_rfl) (by kernel_rfl) ?hst ?hS0 (fun w0 h0 => ?_)
  case hst => exact fun _ _ _ h r hM => (h hM).rel r
  case hS0 => exact fun _ => E1_2.out
  iterate 3
   refine wpCalm_go rfl (by kernel_rfl) (fun K hK => ?_)
   apply Exists.intro
   refine ⟨fun M w hM hS => ?_, hK _ ?_⟩
   ·have bx := hS (hM 6 (by kernel_rfl))
    have d0 := bx.c0
    have d1 := bx.c1
    have d2 := bx.c2
    have d3 := bx.c3
    have d4 := bx.c4
    have d5 := bx.c5
    unfold calmAt
    go_simp
    exact ⟨rfl, Rel.refl _⟩
   clear hK K
  refine wpCalm_nil ?_
  have kz13 := h0.size
  (try simp only [World.size_alloc, World.size_setCell, World.size_drew] at kz13)
  have H13 := Lib.hid h0
  clear h0
  refine wpAnyR_ready (rs := [3]) (by kernel_rfl) (by simp) (AllR.cons rfl (fun w14 h14 K' hK' => ?_) AllR.nil)
  have kz14 := h14.size
  (try simp only [World.size_alloc, World.size_setCell, World.size_drew] at kz14)
  have H14 := Lib.hid h14
  clear h14
  have T14 := Lib.hid (H13.out.trans H14.out)
  have P14 := Lib.hid (P2.out.rel T14.out)
  have y14 := Nat.le_trans z2 T14.out.size
  have m14 : w1.heap.size < w14.heap.size := (E1_2.out.rel T14.out).lt
  have C := Lib.hid (HH5.out f (Nat.le_refl _) w14 s1.adv P14.out (show 10 * rem tk s1.adv + 3 ≤ f by omega))
  unfold PeRes at C
  rw [Ht3.out, Hs3.out] at C
  go_simp
  refine C.out.mono ?_
  rintro e w6 ⟨x3, rfl, hK3, hP3, h3⟩
  obtain ⟨xa3, xc3, rfl⟩ := kids_slice (kidsB_to hK3)
  clear C
  have BR6 := Lib.hid ((BR2.out.rel T14.out).ro h3 hbw)
  have E1_6 := Lib.hid ((E1_2.out.rel T14.out).ro h3 (by omega))
  have K1_6 := Lib.hid (kidsB_ro (kidsB_rl K1_2.out T14.out) h3 (fun q hq => by omega))
  have K3_6 := Lib.hid (kidsB_mono (Q := fun q => w.heap.size < q ∧ q ≠ w1.heap.size) hK3 (fun q _ hp => ⟨by omega, by omega⟩))
  have P6 := Lib.hid hP3
  have R6 := Lib.hid ((R2.out.trans (Ro.of T14.out)).trans h3)
  have y6 := Nat.le_trans y14 h3.size
  have m6 := Nat.lt_of_lt_of_le m14 h3.size
  clear hK3 hP3 h3
  refine hK'.out _ _ (fun _ => E1_6.out) ?_
  clear hK' K'
  refine wpAnyR_ready (rs := [4]) (by kernel_rfl) (by simp) (AllR.cons rfl (fun w7 h7 K' hK' => ?_) AllR.nil)
  have y7 := Nat.le_trans y6 h7.size
  have m7 := Nat.lt_of_lt_of_le m6 h7.size
  have TR := Lib.hid (pair_tree (op := op) (W := w7) (T := 42) rfl (P := fun q => w.heap.size < q ∧ q ≠ w1.heap.size) ⟨by omega, by omega⟩ hop2 (kidsB_rl K1_6.out h7) (kidsB_rl K3_6.out h7))
  have kz7 := h7.size
  (try simp only [World.size_alloc, World.size_setCell, World.size_drew] at kz7)
  have H7 := Lib.hid h7
  clear h7
  go_simp
  refine hK'.out _ _ (fun _ => (E1_6.out.rel H7.out).rel ((Rel.refl _).alloc _)) ?_
  clear hK' K'
  refine wpAnyR_ready (rs := [5]) (by kernel_rfl) (by simp) (AllR.cons rfl (fun w8 h8 K' hK' => ?_) AllR.nil)
  have T8 := Lib.hid (((H7.out).alloc (.cells #[.int .i64 t1.op, .int .i64 t1.va, .int .i64 t1.vb, .int .i64 t1.dm, .string t1.nm, .slice xa1 t1.cnt xc1, .int .i64 t3.op, .int .i64 t3.va, .int .i64 t3.vb, .int .i64 t3.dm, .string t3.nm, .slice xa3 t3.cnt xc3] 42)).trans h8)
  have TK8 := Lib.hid (kidsB_rl TR.out h8)
  clear h8
  go_simp
  refine hK'.out _ _ (fun _ => E1_6.out.rel T8.out) ?_
  clear hK' K'
  refine wpAnyR_ready (rs := [6]) (by kernel_rfl) (by simp) (AllR.cons rfl (fun w9 h9 K' hK' => ?_) AllR.nil)
  have T9 := Lib.hid (T8.out.trans h9)
  have TK9 := Lib.hid (kidsB_rl TK8.out h9)
  have E1_9 := Lib.hid (E1_6.out.rel T9.out)
  obtain ⟨el, ec0, ec1, ec2, ec3, ec4, ec5, ef0, ef1, ef2, ef3, ef4, ef5⟩ := E1_9.out
  have P9 := Lib.hid (P6.out.rel T9.out)
  have R9 := Lib.hid (R6.out.trans (Ro.of T9.out))
  have BR9 := Lib.hid (BR6.out.rel T9.out)
  clear h9
  go_simp
  refine hK'.out _ _ (fun h => absurd (h.symm.trans (by kernel_rfl : _ = true)) (by simp)) ?_
  clear hK' K'
  refine wpAnyR_end (by kernel_rfl) (fun w10 h10 => ?_)
  have hp := prs_put6 P9.out HP.out.toks R9.out (g := w1.heap.size) (by omega) (by omega) (.int .i64 op) (.int .i64 0) (.int .i64 0) (.int .i64 0) (.string ⟨#[]⟩) (.slice (some ⟨w7.heap.size, 0, none⟩) 2 2)
  have TK10 := Lib.hid (kidsB_rl (kidsB_p6 TK9.out (g := w1.heap.size) (Q := fun q => w.heap.size < q) (fun q _ hq => ⟨hq.2, hq.1⟩) (.int .i64 op) (.int .i64 0) (.int .i64 0) (.int .i64 0) (.string ⟨#[]⟩) (.slice (some ⟨w7.heap.size, 0, none⟩) 2 2)) h10)
  have BE10 := Lib.hid ((E1_9.out.put6 (.int .i64 op) (.int .i64 0) (.int .i64 0) (.int .i64 0) (.string ⟨#[]⟩) (.slice (some ⟨w7.heap.size, 0, none⟩) 2 2)).rel h10)
  have BR10 := Lib.hid (((((((BR9.out.other (by omega) 0 (.int .i64 op)).other (by omega) 1 (.int .i64 0)).other (by omega) 2 (.int .i64 0)).other (by omega) 3 (.int .i64 0)).other (by omega) 4 (.string ⟨#[]⟩)).other (by omega) 5 (.slice (some ⟨w7.heap.size, 0, none⟩) 2 2)).rel h10)
  have P10 := Lib.hid (hp.1.rel h10)
  have R10 := Lib.hid (hp.2.trans (Ro.of h10))
  clear h10 hp ec0 ec1 ec2 ec3 ec4 ec5 ef0 ef1 ef2 ef3 ef4 ef5
  obtain ⟨el', ec0, ec1, ec2, ec3, ec4, ec5, ef0, ef1, ef2, ef3, ef4, ef5⟩ := BE10.out
  obtain ⟨rl, rc0, rc1, rc2, rc3, rc4, rc5, rf0, rf1, rf2, rf3, rf4, rf5⟩ := BR10.out
  ((try simp only []); (repeat (first | go_values | go_skip | go_guarded | go_step | go_upon | go_in)))
  have hq := prs_put6 P10.out HP.out.toks R10.out (Nat.le_refl w.heap.size) hbw (.int .i64 op) (.int .i64 0) (.int .i64 0) (.int .i64 0) (.string ⟨#[]⟩) (.slice (some ⟨w7.heap.size, 0, none⟩) 2 2)
  have g0 : ((((((w10.setCell ⟨w.heap.size, 0, none⟩ (.int .i64 op)).setCell ⟨w.heap.size, 1, none⟩ (.int .i64 0)).setCell ⟨w.heap.size, 2, none⟩ (.int .i64 0)).setCell ⟨w.heap.size, 3, none⟩ (.int .i64 0)).setCell ⟨w.heap.size, 4, none⟩ (.string ⟨#[]⟩)).setCell ⟨w.heap.size, 5, none⟩ (.slice (some ⟨w7.heap.size, 0, none⟩) 2 2)).cell? ⟨w.heap.size, 0, none⟩ = some (.int .i64 op) := by go_simp
  have g1 : ((((((w10.setCell ⟨w.heap.size, 0, none⟩ (.int .i64 op)).setCell ⟨w.heap.size, 1, none⟩ (.int .i64 0)).setCell ⟨w.heap.size, 2, none⟩ (.int .i64 0)).setCell ⟨w.heap.size, 3, none⟩ (.int .i64 0)).setCell ⟨w.heap.size, 4, none⟩ (.string ⟨#[]⟩)).setCell ⟨w.heap.size, 5, none⟩ (.slice (some ⟨w7.heap.size, 0, none⟩) 2 2)).cell? ⟨w.heap.size, 1, none⟩ = some (.int .i64 0) := by go_simp
  have g2 : ((((((w10.setCell ⟨w.heap.size, 0, none⟩ (.int .i64 op)).setCell ⟨w.heap.size, 1, none⟩ (.int .i64 0)).setCell ⟨w.heap.size, 2, none⟩ (.int .i64 0)).setCell ⟨w.heap.size, 3, none⟩ (.int .i64 0)).setCell ⟨w.heap.size, 4, none⟩ (.string ⟨#[]⟩)).setCell ⟨w.heap.size, 5, none⟩ (.slice (some ⟨w7.heap.size, 0, none⟩) 2 2)).cell? ⟨w.heap.size, 2, none⟩ = some (.int .i64 0) := by go_simp
  have g3 : ((((((w10.setCell ⟨w.heap.size, 0, none⟩ (.int .i64 op)).setCell ⟨w.heap.size, 1, none⟩ (.int .i64 0)).setCell ⟨w.heap.size, 2, none⟩ (.int .i64 0)).setCell ⟨w.heap.size, 3, none⟩ (.int .i64 0)).setCell ⟨w.heap.size, 4, none⟩ (.string ⟨#[]⟩)).setCell ⟨w.heap.size, 5, none⟩ (.slice (some ⟨w7.heap.size, 0, none⟩) 2 2)).cell? ⟨w.heap.size, 3, none⟩ = some (.int .i64 0) := by go_simp
  have g4 : ((((((w10.setCell ⟨w.heap.size, 0, none⟩ (.int .i64 op)).setCell ⟨w.heap.size, 1, none⟩ (.int .i64 0)).setCell ⟨w.heap.size, 2, none⟩ (.int .i64 0)).setCell ⟨w.heap.size, 3, none⟩ (.int .i64 0)).setCell ⟨w.heap.size, 4, none⟩ (.string ⟨#[]⟩)).setCell ⟨w.heap.size, 5, none⟩ (.slice (some ⟨w7.heap.size, 0, none⟩) 2 2)).cell? ⟨w.heap.size, 4, none⟩ = some (.string ⟨#[]⟩) := by go_simp
  have g5 : ((((((w10.setCell ⟨w.heap.size, 0, none⟩ (.int .i64 op)).setCell ⟨w.heap.size, 1, none⟩ (.int .i64 0)).setCell ⟨w.heap.size, 2, none⟩ (.int .i64 0)).setCell ⟨w.heap.size, 3, none⟩ (.int .i64 0)).setCell ⟨w.heap.size, 4, none⟩ (.string ⟨#[]⟩)).setCell ⟨w.heap.size, 5, none⟩ (.slice (some ⟨w7.heap.size, 0, none⟩) 2 2)).cell? ⟨w.heap.size, 5, none⟩ = some (.slice (some ⟨w7.heap.size, 0, none⟩) 2 2) := by go_simp
  refine bodyPost_ret (v := .agg #[.int .i64 op, .int .i64 0, .int .i64 0, .int .i64 0, .string ⟨#[]⟩, .slice (some ⟨w7.heap.size, 0, none⟩) 2 2]) ?_ rfl ⟨_, rfl, kidsB_p6 TK10.out (g := w.heap.size) (Q := fun q => w.heap.size ≤ q) (fun q _ hq => ⟨by omega, by omega⟩) _ _ _ _ _ _, hq.1, hq.2⟩
  simp [results, Tryd.results134, go_sem, g0, g1, g2, g3, g4, g5]
end Go.Proofs.YtohdmpchbiabmaaDoor

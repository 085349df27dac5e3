/- Bundle of texts: each says at its head what it proves; no conditions but those printed. -/
import Derived.Test.YtkghmghjgikihaaGreatDoorPB32
import Derived.Test.YtkghmghjgikihaaGreatDoorPB14
/- What the reference's reader gives, by fuel; its expr at the levels 0, 3 and 7. No conditions but those printed. -/
namespace Go.Proofs.YtkghmghjgikihaaGreatDoor
open Go.RowKit Cal Str Tok Frac Txt Tree
attribute [local go_sem] calmUpon
set_option linter.unusedVariables false
set_option linter.unusedSimpArgs false
def RRes (b G : Nat) (tk : List Tk) (E : Int) (r : Ex × Pt) (w : World) (e : Ending) (w' : World) : Prop :=
 ∃ t x, e = .returned (.agg #[.int .i64 t.op, .int .i64 t.va, .int .i64 t.vb, .int .i64 t.dm, .string t.nm, x]) ∧ ExKidsB (fun g => w.heap.size ≤ g) t w' x ∧ (r.2.ok = true → t = r.1) ∧ Rdr w' b G tk E r.2 ∧ Ro b w w'
def RC (b G : Nat) (tk : List Tk) (E : Int) (m f : Nat) : Prop :=
 ∀ (w : World) (s : Pt), Rdr w b G tk E s → 10 * rem tk s + cc m ≤ f → Calls Tryz.prog 44 #[.pointer (some ⟨b, 0, none⟩), .int .i64 (m : Int)] w (RRes b G tk E (pe tk f m .no s) w)
def RF (b G : Nat) (tk : List Tk) (E : Int) (f : Nat) : Prop :=
 ∀ (w : World) (s : Pt), Rdr w b G tk E s → s.ok = true → 10 * rem tk s + 1 ≤ f → Calls Tryz.prog 91 #[.pointer (some ⟨b, 0, none⟩)] w (RRes b G tk E (pe tk f 7 .no s) w)
theorem bin_bad {tk : List Tk} {s : Pt} (h : s.ok = false) (l : List (List UInt8 × Int)) : binO tk s l = false ∧ binT tk s l = 0 := bin_no (fun i p _ => accB_end (.inl h))
theorem pe_bad (tk : List Tk) {s : Pt} (h : s.ok = false) : ∀ f m a, md m → (pe tk f m a s).2 = s := by
 intro f
 induction f with
 | zero => intro m a _; rfl
 | succ f ih =>
  intro m a hm
  have A : ∀ x, accB tk x s = false := fun x => accB_end (.inl h)
  have I : ∀ m a, md m → (pe tk f m a s).2 = s := ih
  unfold md at hm
  rcases hm with rfl | rfl | rfl | rfl | rfl | rfl | rfl | rfl | rfl | rfl | rfl | rfl
  ·rw [pe_0, if_neg (by simp [A])]; exact I _ _ (by unfold md; decide)
  ·rw [pe_1, I 2 .no (by unfold md; decide)]; exact I _ _ (by unfold md; decide)
  ·rw [pe_11, if_neg (by simp [A])]
  ·rw [pe_2, I 3 .no (by unfold md; decide)]; exact I _ _ (by unfold md; decide)
  ·rw [pe_12, if_neg (by simp [A])]
  ·rw [pe_3, if_neg (by simp [A])]; exact I _ _ (by unfold md; decide)
  ·rw [pe_4, I 5 .no (by unfold md; decide), if_neg (by simp [bin_bad h])]; exact I _ _ (by unfold md; decide)
  ·rw [pe_5, I 6 .no (by unfold md; decide)]; exact I _ _ (by unfold md; decide)
  ·rw [pe_15, if_neg (by simp [bin_bad h])]
  ·rw [pe_6, I 7 .no (by unfold md; decide)]; exact I _ _ (by unfold md; decide)
  ·rw [pe_16, if_neg (by simp [bin_bad h])]
  ·rw [pe_7, if_neg (by simp [A]), if_neg (by simp [A]), if_neg (by simp [A]), if_neg (by simp [A]), if_neg (by simp [bin_bad h])]
   have hk : pkK tk s = 0 := by unfold pkK tkAt; rw [h]; rfl
   rw [if_neg (by rw [hk]; decide)]
   have hN : namO tk s = false := by unfold namO tkAt; rw [h]; rfl
   show namP tk s = s
   unfold namP; rw [if_neg (by simp [hN])]; exact no_no h
def zeroT : Ex := .mk 0 0 0 0 ⟨#[]⟩ 0 (fun _ => .no)
theorem zeroT_kids (P : Nat → Prop) (w : World) : ExKidsB P zeroT w (.slice none 0 0) := ⟨⟨by decide, by decide, by decide, by decide, by decide, by decide, by decide, by decide, by decide⟩, by decide, none, 0, rfl, fun h => absurd h (by decide)⟩
set_option maxRecDepth 20000 in
set_option maxHeartbeats 4000000 in
theorem rexpr_bad (b G : Nat) (tk : List Tk) (E : Int) (s : Pt) (n : Int) (w : World) (h : Rdr w b G tk E s) (ho : s.ok = false) (a : Ex) : Calls Tryz.prog 44 #[.pointer (some ⟨b, 0, none⟩), .int .i64 n] w (RRes b G tk E (a, s) w) := by
 have HP := Lib.hid h
 have hlt := h.lt
 have c3 := h.c3
 rw [ho] at c3
 have hbw : w.heap.size ≠ b := by omega
 have HO := Lib.hid ho
 clear h ho

 have BR0 := Lib.hid (BoxAt.new (w := w) (g := w.heap.size) rfl (.int .i64 0) (.int .i64 0) (.int .i64 0) (.int .i64 0) (.string ⟨#[]⟩) (.slice none 0 0) 29)
 have P0 := Lib.hid (HP.out.rel ((Rel.refl _).alloc (.cells #[.int .i64 0, .int .i64 0, .int .i64 0, .int .i64 0, .string ⟨#[]⟩, .slice none 0 0] 29)))
 have R0 := Lib.hid ((Ro.refl b w).alloc (.cells #[.int .i64 0, .int .i64 0, .int .i64 0, .int .i64 0, .string ⟨#[]⟩, .slice none 0 0] 29))
 have z0 : w.heap.size + 1 ≤ (w.alloc (.cells #[.int .i64 0, .int .i64 0, .int .i64 0, .int .i64 0, .string ⟨#[]⟩, .slice none 0 0] 29)).heap.size := by simp

 unfold RRes
 go_enter Tryz.func44, Tryz.ntmps44
 ((try simp only []); (repeat (first | go_values | go_skip | go_guarded | go_step | go_upon | go_in)))
 refine bodyPost_ret (v := .agg #[.int .i64 0, .int .i64 0, .int .i64 0, .int .i64 0, .string ⟨#[]⟩, .slice none 0 0]) ?_ rfl ⟨zeroT, _, rfl, zeroT_kids _ _, fun h => (by rw [HO.out] at h; cases h), P0.out, R0.out⟩
 simp [results, Tryz.results44, go_sem]
set_option maxRecDepth 20000 in
set_option maxHeartbeats 8000000 in
theorem rexpr3_step (b G : Nat) (tk : List Tk) (E : Int) (hT : TksOk tk) (hH : TkHd tk) (f : Nat) (H : ∀ g, g ≤ f → ∀ m, m ≤ 7 → RC b G tk E m g) : RC b G tk E 3 (f + 1) := by
 intro w s hP hf
 have hf' : 10 * rem tk s + 5 ≤ f + 1 := hf
 have HP := Lib.hid hP
 have hlt := hP.lt
 have hbw : w.heap.size ≠ b := by omega

 have HH := Lib.hid H
 by_cases hok : s.ok = true
 rotate_left
 ·have := rexpr_bad b G tk E s 3 w hP (by simpa using hok) (pe tk (f + 1) 3 .no s).1
  have e : pe tk (f + 1) 3 .no s = ((pe tk (f + 1) 3 .no s).1, s) := Prod.ext rfl (pe_bad tk (by simpa using hok) (f + 1) 3 .no (by unfold md; decide))
  rw [e]
  exact this

 have c3 := HP.out.c3
 rw [hok] at c3
 clear hP hf H
 show Calls Tryz.prog 44 #[.pointer (some ⟨b, 0, none⟩), .int .i64 3] w _
 rw [pe_3]

 have BR0 := Lib.hid (BoxAt.new (w := w) (g := w.heap.size) rfl (.int .i64 0) (.int .i64 0) (.int .i64 0) (.int .i64 0) (.string ⟨#[]⟩) (.slice none 0 0) 29)
 have P0 := Lib.hid (HP.out.rel ((Rel.refl _).alloc (.cells #[.int .i64 0, .int .i64 0, .int .i64 0, .int .i64 0, .string ⟨#[]⟩, .slice none 0 0] 29)))
 have R0 := Lib.hid ((Ro.refl b w).alloc (.cells #[.int .i64 0, .int .i64 0, .int .i64 0, .int .i64 0, .string ⟨#[]⟩, .slice none 0 0] 29))
 have z0 : w.heap.size + 1 ≤ (w.alloc (.cells #[.int .i64 0, .int .i64 0, .int .i64 0, .int .i64 0, .string ⟨#[]⟩, .slice none 0 0] 29)).heap.size := by simp
 have A := Lib.hid (rtake_any b G tk E s ⟨#[110, 111, 116]⟩ _ P0.out (txOk_of hH hT (by decide)) hT.len)
 unfold RAcc accP at A
 have eK : (⟨#[110, 111, 116]⟩ : ByteArray).data.toList = kNot := rfl
 rw [eK] at A
 clear eK

 obtain ⟨k, hk⟩ : ∃ k, accB tk kNot s = k := ⟨_, rfl⟩
 rw [hk] at A ⊢
 cases k
 ·rw [if_neg (by simp)] at A ⊢
  clear hk
  unfold RRes

  obtain ⟨T2, ht2⟩ : ∃ t, (pe tk f 4 .no s).1 = t := ⟨_, rfl⟩
  obtain ⟨s2, hs2⟩ : ∃ t, (pe tk f 4 .no s).2 = t := ⟨_, rfl⟩
  (try rw [ht2])
  (try rw [hs2])
  have b2 := (pe_beh tk f 4 .no s (by unfold md; decide)).rem
  rw [hs2] at b2
  have U2 : Hid (s2.ok = true → Pt.ok s = true) := by
   show _ → _
   rw [← hs2]; exact (pe_beh tk f 4 .no s (by unfold md; decide)).2.1
  have Ht2 := Lib.hid ht2
  have Hs2 := Lib.hid hs2
  clear ht2 hs2
  (try unfold RRes)
  go_enter Tryz.func44, Tryz.ntmps44
  go_wp2_with fail


  go_wp2_with fail
  refine A.out.mono ?_
  rintro e w1 ⟨rfl, hP1, h1⟩
  clear A
  have P1 := Lib.hid (hP1)
  have R1 := Lib.hid (R0.out.trans h1)
  have BR1 := Lib.hid (BR0.out.ro h1 hbw)
  have y1 : w.heap.size + 1 ≤ w1.heap.size := Nat.le_trans z0 h1.size
  have z1 := y1
  clear hP1 h1
  have C := Lib.hid (show Calls Tryz.prog 44 #[.pointer (some ⟨b, 0, none⟩), .int .i64 4] _ _ from HH.out f (Nat.le_refl _) 4 (by decide) _ s P1.out (show 10 * rem tk s + 4 ≤ f by omega))
  unfold RRes at C
  rw [Ht2.out, Hs2.out] at C
  go_wp2_with fail
  refine C.out.mono ?_
  rintro e w2 ⟨t2, x2, rfl, hK2, hq2, hP2, h2⟩
  obtain ⟨xa2, xc2, rfl⟩ := kids_slice (kidsB_to hK2)
  have Q2 := Lib.hid hq2
  clear C hq2
  have P2 := Lib.hid (hP2)
  have R2 := Lib.hid (R1.out.trans h2)
  have BR2 := Lib.hid (BR1.out.ro h2 hbw)
  have K2_2 := Lib.hid (kidsB_mono (Q := fun q => w.heap.size < q) hK2 (fun q hq hp => by omega))
  have y2 : w.heap.size + 1 ≤ w2.heap.size := Nat.le_trans z1 h2.size
  have z2 := y2
  clear hP2 h2 hK2
  obtain ⟨rl, rc0, rc1, rc2, rc3, rc4, rc5, rf0, rf1, rf2, rf3, rf4, rf5⟩ := BR2.out
  ((try simp only []); (repeat (first | go_values | go_skip | go_guarded | go_step | go_upon | go_in)))
  have hp := rdr_put6 P2.out HP.out.toks R2.out (Nat.le_refl w.heap.size) hbw (.int .i64 t2.op) (.int .i64 t2.va) (.int .i64 t2.vb) (.int .i64 t2.dm) (.string t2.nm) (.slice xa2 t2.cnt xc2)
  have g0 : ((((((w2.setCell ⟨w.heap.size, 0, none⟩ (.int .i64 t2.op)).setCell ⟨w.heap.size, 1, none⟩ (.int .i64 t2.va)).setCell ⟨w.heap.size, 2, none⟩ (.int .i64 t2.vb)).setCell ⟨w.heap.size, 3, none⟩ (.int .i64 t2.dm)).setCell ⟨w.heap.size, 4, none⟩ (.string t2.nm)).setCell ⟨w.heap.size, 5, none⟩ (.slice xa2 t2.cnt xc2)).cell? ⟨w.heap.size, 0, none⟩ = some (.int .i64 t2.op) := by go_simp
  have g1 : ((((((w2.setCell ⟨w.heap.size, 0, none⟩ (.int .i64 t2.op)).setCell ⟨w.heap.size, 1, none⟩ (.int .i64 t2.va)).setCell ⟨w.heap.size, 2, none⟩ (.int .i64 t2.vb)).setCell ⟨w.heap.size, 3, none⟩ (.int .i64 t2.dm)).setCell ⟨w.heap.size, 4, none⟩ (.string t2.nm)).setCell ⟨w.heap.size, 5, none⟩ (.slice xa2 t2.cnt xc2)).cell? ⟨w.heap.size, 1, none⟩ = some (.int .i64 t2.va) := by go_simp
  have g2 : ((((((w2.setCell ⟨w.heap.size, 0, none⟩ (.int .i64 t2.op)).setCell ⟨w.heap.size, 1, none⟩ (.int .i64 t2.va)).setCell ⟨w.heap.size, 2, none⟩ (.int .i64 t2.vb)).setCell ⟨w.heap.size, 3, none⟩ (.int .i64 t2.dm)).setCell ⟨w.heap.size, 4, none⟩ (.string t2.nm)).setCell ⟨w.heap.size, 5, none⟩ (.slice xa2 t2.cnt xc2)).cell? ⟨w.heap.size, 2, none⟩ = some (.int .i64 t2.vb) := by go_simp
  have g3 : ((((((w2.setCell ⟨w.heap.size, 0, none⟩ (.int .i64 t2.op)).setCell ⟨w.heap.size, 1, none⟩ (.int .i64 t2.va)).setCell ⟨w.heap.size, 2, none⟩ (.int .i64 t2.vb)).setCell ⟨w.heap.size, 3, none⟩ (.int .i64 t2.dm)).setCell ⟨w.heap.size, 4, none⟩ (.string t2.nm)).setCell ⟨w.heap.size, 5, none⟩ (.slice xa2 t2.cnt xc2)).cell? ⟨w.heap.size, 3, none⟩ = some (.int .i64 t2.dm) := by go_simp
  have g4 : ((((((w2.setCell ⟨w.heap.size, 0, none⟩ (.int .i64 t2.op)).setCell ⟨w.heap.size, 1, none⟩ (.int .i64 t2.va)).setCell ⟨w.heap.size, 2, none⟩ (.int .i64 t2.vb)).setCell ⟨w.heap.size, 3, none⟩ (.int .i64 t2.dm)).setCell ⟨w.heap.size, 4, none⟩ (.string t2.nm)).setCell ⟨w.heap.size, 5, none⟩ (.slice xa2 t2.cnt xc2)).cell? ⟨w.heap.size, 4, none⟩ = some (.string t2.nm) := by go_simp
  have g5 : ((((((w2.setCell ⟨w.heap.size, 0, none⟩ (.int .i64 t2.op)).setCell ⟨w.heap.size, 1, none⟩ (.int .i64 t2.va)).setCell ⟨w.heap.size, 2, none⟩ (.int .i64 t2.vb)).setCell ⟨w.heap.size, 3, none⟩ (.int .i64 t2.dm)).setCell ⟨w.heap.size, 4, none⟩ (.string t2.nm)).setCell ⟨w.heap.size, 5, none⟩ (.slice xa2 t2.cnt xc2)).cell? ⟨w.heap.size, 5, none⟩ = some (.slice xa2 t2.cnt xc2) := by go_simp
  refine bodyPost_ret (v := .agg #[.int .i64 t2.op, .int .i64 t2.va, .int .i64 t2.vb, .int .i64 t2.dm, .string t2.nm, .slice xa2 t2.cnt xc2]) ?_ rfl ⟨_, _, rfl, kidsB_p6 K2_2.out (g := w.heap.size) (Q := fun q => w.heap.size ≤ q) (fun q _ hq => ⟨by omega, by omega⟩) _ _ _ _ _ _, Q2.out, hp.1, hp.2⟩
  simp [results, Tryz.results44, go_sem, g0, g1, g2, g3, g4, g5]
 ·rw [if_pos rfl] at A ⊢
  obtain ⟨-, hrem⟩ := acc_beh hk
  clear hk
  obtain ⟨T2, ht2⟩ : ∃ t, (pe tk f 3 .no s.adv).1 = t := ⟨_, rfl⟩
  obtain ⟨s2, hs2⟩ : ∃ t, (pe tk f 3 .no s.adv).2 = t := ⟨_, rfl⟩
  (try rw [ht2])
  (try rw [hs2])
  have b2 := (pe_beh tk f 3 .no s.adv (by unfold md; decide)).rem
  rw [hs2] at b2
  have U2 : Hid (s2.ok = true → Pt.ok s.adv = true) := by
   show _ → _
   rw [← hs2]; exact (pe_beh tk f 3 .no s.adv (by unfold md; decide)).2.1
  have Ht2 := Lib.hid ht2
  have Hs2 := Lib.hid hs2
  clear ht2 hs2
  (try unfold RRes)
  go_enter Tryz.func44, Tryz.ntmps44
  go_wp2_with fail


  go_wp2_with fail
  refine A.out.mono ?_
  rintro e w1 ⟨rfl, hP1, h1⟩
  clear A
  have P1 := Lib.hid (hP1)
  have R1 := Lib.hid (R0.out.trans h1)
  have BR1 := Lib.hid (BR0.out.ro h1 hbw)
  have y1 : w.heap.size + 1 ≤ w1.heap.size := Nat.le_trans z0 h1.size
  have z1 := y1
  clear hP1 h1
  have C := Lib.hid (show Calls Tryz.prog 44 #[.pointer (some ⟨b, 0, none⟩), .int .i64 3] _ _ from HH.out f (Nat.le_refl _) 3 (by decide) _ s.adv P1.out (show 10 * rem tk s.adv + 5 ≤ f by omega))
  unfold RRes at C
  rw [Ht2.out, Hs2.out] at C
  go_wp2_with fail
  refine C.out.mono ?_
  rintro e w2 ⟨t2, x2, rfl, hK2, hq2, hP2, h2⟩
  obtain ⟨xa2, xc2, rfl⟩ := kids_slice (kidsB_to hK2)
  have Q2 := Lib.hid hq2
  clear C hq2
  have P2 := Lib.hid (hP2)
  have R2 := Lib.hid (R1.out.trans h2)
  have BR2 := Lib.hid (BR1.out.ro h2 hbw)
  have K2_2 := Lib.hid (kidsB_mono (Q := fun q => w.heap.size < q) hK2 (fun q hq hp => by omega))
  have y2 : w.heap.size + 1 ≤ w2.heap.size := Nat.le_trans z1 h2.size
  have z2 := y2
  clear hP2 h2 hK2
  obtain ⟨rl, rc0, rc1, rc2, rc3, rc4, rc5, rf0, rf1, rf2, rf3, rf4, rf5⟩ := BR2.out
  ((try simp only []); (repeat (first | go_values | go_skip | go_guarded | go_step | go_upon | go_in)))
  have hp := rdr_put6 P2.out HP.out.toks R2.out (Nat.le_refl w.heap.size) hbw (.int .i64 5) (.int .i64 0) (.int .i64 0) (.int .i64 0) (.string ⟨#[]⟩) (.slice (some ⟨w2.heap.size, 0, none⟩) 1 1)
  have g0 : (((((((w2.setCell ⟨w.heap.size, 0, none⟩ (.int .i64 5)).setCell ⟨w.heap.size, 1, none⟩ (.int .i64 0)).setCell ⟨w.heap.size, 2, none⟩ (.int .i64 0)).setCell ⟨w.heap.size, 3, none⟩ (.int .i64 0)).setCell ⟨w.heap.size, 4, none⟩ (.string ⟨#[]⟩)).setCell ⟨w.heap.size, 5, none⟩ (.slice (some ⟨w2.heap.size, 0, none⟩) 1 1)).alloc (.cells #[.int .i64 t2.op, .int .i64 t2.va, .int .i64 t2.vb, .int .i64 t2.dm, .string t2.nm, .slice xa2 t2.cnt xc2] 29)).cell? ⟨w.heap.size, 0, none⟩ = some (.int .i64 5) := by go_simp
  have g1 : (((((((w2.setCell ⟨w.heap.size, 0, none⟩ (.int .i64 5)).setCell ⟨w.heap.size, 1, none⟩ (.int .i64 0)).setCell ⟨w.heap.size, 2, none⟩ (.int .i64 0)).setCell ⟨w.heap.size, 3, none⟩ (.int .i64 0)).setCell ⟨w.heap.size, 4, none⟩ (.string ⟨#[]⟩)).setCell ⟨w.heap.size, 5, none⟩ (.slice (some ⟨w2.heap.size, 0, none⟩) 1 1)).alloc (.cells #[.int .i64 t2.op, .int .i64 t2.va, .int .i64 t2.vb, .int .i64 t2.dm, .string t2.nm, .slice xa2 t2.cnt xc2] 29)).cell? ⟨w.heap.size, 1, none⟩ = some (.int .i64 0) := by go_simp
  have g2 : (((((((w2.setCell ⟨w.heap.size, 0, none⟩ (.int .i64 5)).setCell ⟨w.heap.size, 1, none⟩ (.int .i64 0)).setCell ⟨w.heap.size, 2, none⟩ (.int .i64 0)).setCell ⟨w.heap.size, 3, none⟩ (.int .i64 0)).setCell ⟨w.heap.size, 4, none⟩ (.string ⟨#[]⟩)).setCell ⟨w.heap.size, 5, none⟩ (.slice (some ⟨w2.heap.size, 0, none⟩) 1 1)).alloc (.cells #[.int .i64 t2.op, .int .i64 t2.va, .int .i64 t2.vb, .int .i64 t2.dm, .string t2.nm, .slice xa2 t2.cnt xc2] 29)).cell? ⟨w.heap.size, 2, none⟩ = some (.int .i64 0) := by go_simp
  have g3 : (((((((w2.setCell ⟨w.heap.size, 0, none⟩ (.int .i64 5)).setCell ⟨w.heap.size, 1, none⟩ (.int .i64 0)).setCell ⟨w.heap.size, 2, none⟩ (.int .i64 0)).setCell ⟨w.heap.size, 3, none⟩ (.int .i64 0)).setCell ⟨w.heap.size, 4, none⟩ (.string ⟨#[]⟩)).setCell ⟨w.heap.size, 5, none⟩ (.slice (some ⟨w2.heap.size, 0, none⟩) 1 1)).alloc (.cells #[.int .i64 t2.op, .int .i64 t2.va, .int .i64 t2.vb, .int .i64 t2.dm, .string t2.nm, .slice xa2 t2.cnt xc2] 29)).cell? ⟨w.heap.size, 3, none⟩ = some (.int .i64 0) := by go_simp
  have g4 : (((((((w2.setCell ⟨w.heap.size, 0, none⟩ (.int .i64 5)).setCell ⟨w.heap.size, 1, none⟩ (.int .i64 0)).setCell ⟨w.heap.size, 2, none⟩ (.int .i64 0)).setCell ⟨w.heap.size, 3, none⟩ (.int .i64 0)).setCell ⟨w.heap.size, 4, none⟩ (.string ⟨#[]⟩)).setCell ⟨w.heap.size, 5, none⟩ (.slice (some ⟨w2.heap.size, 0, none⟩) 1 1)).alloc (.cells #[.int .i64 t2.op, .int .i64 t2.va, .int .i64 t2.vb, .int .i64 t2.dm, .string t2.nm, .slice xa2 t2.cnt xc2] 29)).cell? ⟨w.heap.size, 4, none⟩ = some (.string ⟨#[]⟩) := by go_simp
  have g5 : (((((((w2.setCell ⟨w.heap.size, 0, none⟩ (.int .i64 5)).setCell ⟨w.heap.size, 1, none⟩ (.int .i64 0)).setCell ⟨w.heap.size, 2, none⟩ (.int .i64 0)).setCell ⟨w.heap.size, 3, none⟩ (.int .i64 0)).setCell ⟨w.heap.size, 4, none⟩ (.string ⟨#[]⟩)).setCell ⟨w.heap.size, 5, none⟩ (.slice (some ⟨w2.heap.size, 0, none⟩) 1 1)).alloc (.cells #[.int .i64 t2.op, .int .i64 t2.va, .int .i64 t2.vb, .int .i64 t2.dm, .string t2.nm, .slice xa2 t2.cnt xc2] 29)).cell? ⟨w.heap.size, 5, none⟩ = some (.slice (some ⟨w2.heap.size, 0, none⟩) 1 1) := by go_simp
  refine bodyPost_ret (v := .agg #[.int .i64 5, .int .i64 0, .int .i64 0, .int .i64 0, .string ⟨#[]⟩, .slice (some ⟨w2.heap.size, 0, none⟩) 1 1]) ?_ rfl ⟨_, _, rfl, one_tree (op := 5) (by simp [World.setCell]) (by omega) ⟨by decide, by decide⟩ (kidsB_p6 K2_2.out (g := w.heap.size) (Q := fun q => w.heap.size ≤ q) (fun q _ hq => ⟨by omega, by omega⟩) _ _ _ _ _ _), (fun h => by rw [Q2.out h]), hp.1.rel ((Rel.refl _).alloc _), hp.2.alloc _⟩
  simp [results, Tryz.results44, go_sem, g0, g1, g2, g3, g4, g5]
set_option maxRecDepth 20000 in
set_option maxHeartbeats 8000000 in
theorem rexpr0_step (b G : Nat) (tk : List Tk) (E : Int) (hT : TksOk tk) (hH : TkHd tk) (f : Nat) (H : ∀ g, g ≤ f → ∀ m, m ≤ 7 → RC b G tk E m g) : RC b G tk E 0 (f + 1) := by
 intro w s hP hf
 have hf' : 10 * rem tk s + 8 ≤ f + 1 := hf
 have HP := Lib.hid hP
 have hlt := hP.lt
 have hbw : w.heap.size ≠ b := by omega

 have HH := Lib.hid H
 by_cases hok : s.ok = true
 rotate_left
 ·have := rexpr_bad b G tk E s 0 w hP (by simpa using hok) (pe tk (f + 1) 0 .no s).1
  have e : pe tk (f + 1) 0 .no s = ((pe tk (f + 1) 0 .no s).1, s) := Prod.ext rfl (pe_bad tk (by simpa using hok) (f + 1) 0 .no (by unfold md; decide))
  rw [e]
  exact this

 have c3 := HP.out.c3
 rw [hok] at c3
 clear hP hf H
 show Calls Tryz.prog 44 #[.pointer (some ⟨b, 0, none⟩), .int .i64 0] w _
 rw [pe_0]

 have BR0 := Lib.hid (BoxAt.new (w := w) (g := w.heap.size) rfl (.int .i64 0) (.int .i64 0) (.int .i64 0) (.int .i64 0) (.string ⟨#[]⟩) (.slice none 0 0) 29)
 have P0 := Lib.hid (HP.out.rel ((Rel.refl _).alloc (.cells #[.int .i64 0, .int .i64 0, .int .i64 0, .int .i64 0, .string ⟨#[]⟩, .slice none 0 0] 29)))
 have R0 := Lib.hid ((Ro.refl b w).alloc (.cells #[.int .i64 0, .int .i64 0, .int .i64 0, .int .i64 0, .string ⟨#[]⟩, .slice none 0 0] 29))
 have z0 : w.heap.size + 1 ≤ (w.alloc (.cells #[.int .i64 0, .int .i64 0, .int .i64 0, .int .i64 0, .string ⟨#[]⟩, .slice none 0 0] 29)).heap.size := by simp
 have A := Lib.hid (rtake_any b G tk E s ⟨#[105, 102]⟩ _ P0.out (txOk_of hH hT (by decide)) hT.len)
 unfold RAcc accP at A
 have eK : (⟨#[105, 102]⟩ : ByteArray).data.toList = kIf := rfl
 rw [eK] at A
 clear eK

 obtain ⟨k, hk⟩ : ∃ k, accB tk kIf s = k := ⟨_, rfl⟩
 rw [hk] at A ⊢
 cases k
 ·rw [if_neg (by simp)] at A ⊢
  clear hk
  unfold RRes

  obtain ⟨T2, ht2⟩ : ∃ t, (pe tk f 1 .no s).1 = t := ⟨_, rfl⟩
  obtain ⟨s2, hs2⟩ : ∃ t, (pe tk f 1 .no s).2 = t := ⟨_, rfl⟩
  (try rw [ht2])
  (try rw [hs2])
  have b2 := (pe_beh tk f 1 .no s (by unfold md; decide)).rem
  rw [hs2] at b2
  have U2 : Hid (s2.ok = true → Pt.ok s = true) := by
   show _ → _
   rw [← hs2]; exact (pe_beh tk f 1 .no s (by unfold md; decide)).2.1
  have Ht2 := Lib.hid ht2
  have Hs2 := Lib.hid hs2
  clear ht2 hs2
  (try unfold RRes)
  go_enter Tryz.func44, Tryz.ntmps44
  go_wp2_with fail


  go_wp2_with fail
  refine A.out.mono ?_
  rintro e w1 ⟨rfl, hP1, h1⟩
  clear A
  have P1 := Lib.hid (hP1)
  have R1 := Lib.hid (R0.out.trans h1)
  have BR1 := Lib.hid (BR0.out.ro h1 hbw)
  have y1 : w.heap.size + 1 ≤ w1.heap.size := Nat.le_trans z0 h1.size
  have z1 := y1
  clear hP1 h1
  have C := Lib.hid (show Calls Tryz.prog 44 #[.pointer (some ⟨b, 0, none⟩), .int .i64 1] _ _ from HH.out f (Nat.le_refl _) 1 (by decide) _ s P1.out (show 10 * rem tk s + 7 ≤ f by omega))
  unfold RRes at C
  rw [Ht2.out, Hs2.out] at C
  go_wp2_with fail
  refine C.out.mono ?_
  rintro e w2 ⟨t2, x2, rfl, hK2, hq2, hP2, h2⟩
  obtain ⟨xa2, xc2, rfl⟩ := kids_slice (kidsB_to hK2)
  have Q2 := Lib.hid hq2
  clear C hq2
  have P2 := Lib.hid (hP2)
  have R2 := Lib.hid (R1.out.trans h2)
  have BR2 := Lib.hid (BR1.out.ro h2 hbw)
  have K2_2 := Lib.hid (kidsB_mono (Q := fun q => w.heap.size < q) hK2 (fun q hq hp => by omega))
  have y2 : w.heap.size + 1 ≤ w2.heap.size := Nat.le_trans z1 h2.size
  have z2 := y2
  clear hP2 h2 hK2
  obtain ⟨rl, rc0, rc1, rc2, rc3, rc4, rc5, rf0, rf1, rf2, rf3, rf4, rf5⟩ := BR2.out
  ((try simp only []); (repeat (first | go_values | go_skip | go_guarded | go_step | go_upon | go_in)))
  have hp := rdr_put6 P2.out HP.out.toks R2.out (Nat.le_refl w.heap.size) hbw (.int .i64 t2.op) (.int .i64 t2.va) (.int .i64 t2.vb) (.int .i64 t2.dm) (.string t2.nm) (.slice xa2 t2.cnt xc2)
  have g0 : ((((((w2.setCell ⟨w.heap.size, 0, none⟩ (.int .i64 t2.op)).setCell ⟨w.heap.size, 1, none⟩ (.int .i64 t2.va)).setCell ⟨w.heap.size, 2, none⟩ (.int .i64 t2.vb)).setCell ⟨w.heap.size, 3, none⟩ (.int .i64 t2.dm)).setCell ⟨w.heap.size, 4, none⟩ (.string t2.nm)).setCell ⟨w.heap.size, 5, none⟩ (.slice xa2 t2.cnt xc2)).cell? ⟨w.heap.size, 0, none⟩ = some (.int .i64 t2.op) := by go_simp
  have g1 : ((((((w2.setCell ⟨w.heap.size, 0, none⟩ (.int .i64 t2.op)).setCell ⟨w.heap.size, 1, none⟩ (.int .i64 t2.va)).setCell ⟨w.heap.size, 2, none⟩ (.int .i64 t2.vb)).setCell ⟨w.heap.size, 3, none⟩ (.int .i64 t2.dm)).setCell ⟨w.heap.size, 4, none⟩ (.string t2.nm)).setCell ⟨w.heap.size, 5, none⟩ (.slice xa2 t2.cnt xc2)).cell? ⟨w.heap.size, 1, none⟩ = some (.int .i64 t2.va) := by go_simp
  have g2 : ((((((w2.setCell ⟨w.heap.size, 0, none⟩ (.int .i64 t2.op)).setCell ⟨w.heap.size, 1, none⟩ (.int .i64 t2.va)).setCell ⟨w.heap.size, 2, none⟩ (.int .i64 t2.vb)).setCell ⟨w.heap.size, 3, none⟩ (.int .i64 t2.dm)).setCell ⟨w.heap.size, 4, none⟩ (.string t2.nm)).setCell ⟨w.heap.size, 5, none⟩ (.slice xa2 t2.cnt xc2)).cell? ⟨w.heap.size, 2, none⟩ = some (.int .i64 t2.vb) := by go_simp
  have g3 : ((((((w2.setCell ⟨w.heap.size, 0, none⟩ (.int .i64 t2.op)).setCell ⟨w.heap.size, 1, none⟩ (.int .i64 t2.va)).setCell ⟨w.heap.size, 2, none⟩ (.int .i64 t2.vb)).setCell ⟨w.heap.size, 3, none⟩ (.int .i64 t2.dm)).setCell ⟨w.heap.size, 4, none⟩ (.string t2.nm)).setCell ⟨w.heap.size, 5, none⟩ (.slice xa2 t2.cnt xc2)).cell? ⟨w.heap.size, 3, none⟩ = some (.int .i64 t2.dm) := by go_simp
  have g4 : ((((((w2.setCell ⟨w.heap.size, 0, none⟩ (.int .i64 t2.op)).setCell ⟨w.heap.size, 1, none⟩ (.int .i64 t2.va)).setCell ⟨w.heap.size, 2, none⟩ (.int .i64 t2.vb)).setCell ⟨w.heap.size, 3, none⟩ (.int .i64 t2.dm)).setCell ⟨w.heap.size, 4, none⟩ (.string t2.nm)).setCell ⟨w.heap.size, 5, none⟩ (.slice xa2 t2.cnt xc2)).cell? ⟨w.heap.size, 4, none⟩ = some (.string t2.nm) := by go_simp
  have g5 : ((((((w2.setCell ⟨w.heap.size, 0, none⟩ (.int .i64 t2.op)).setCell ⟨w.heap.size, 1, none⟩ (.int .i64 t2.va)).setCell ⟨w.heap.size, 2, none⟩ (.int .i64 t2.vb)).setCell ⟨w.heap.size, 3, none⟩ (.int .i64 t2.dm)).setCell ⟨w.heap.size, 4, none⟩ (.string t2.nm)).setCell ⟨w.heap.size, 5, none⟩ (.slice xa2 t2.cnt xc2)).cell? ⟨w.heap.size, 5, none⟩ = some (.slice xa2 t2.cnt xc2) := by go_simp
  refine bodyPost_ret (v := .agg #[.int .i64 t2.op, .int .i64 t2.va, .int .i64 t2.vb, .int .i64 t2.dm, .string t2.nm, .slice xa2 t2.cnt xc2]) ?_ rfl ⟨_, _, rfl, kidsB_p6 K2_2.out (g := w.heap.size) (Q := fun q => w.heap.size ≤ q) (fun q _ hq => ⟨by omega, by omega⟩) _ _ _ _ _ _, Q2.out, hp.1, hp.2⟩
  simp [results, Tryz.results44, go_sem, g0, g1, g2, g3, g4, g5]
 ·rw [if_pos rfl] at A ⊢
  obtain ⟨-, hrem⟩ := acc_beh hk
  clear hk
  obtain ⟨T2, ht2⟩ : ∃ t, (pe tk f 0 .no s.adv).1 = t := ⟨_, rfl⟩
  obtain ⟨s2, hs2⟩ : ∃ t, (pe tk f 0 .no s.adv).2 = t := ⟨_, rfl⟩
  (try rw [ht2])
  (try rw [hs2])
  have b2 := (pe_beh tk f 0 .no s.adv (by unfold md; decide)).rem
  rw [hs2] at b2
  have U2 : Hid (s2.ok = true → Pt.ok s.adv = true) := by
   show _ → _
   rw [← hs2]; exact (pe_beh tk f 0 .no s.adv (by unfold md; decide)).2.1
  have Ht2 := Lib.hid ht2
  have Hs2 := Lib.hid hs2
  clear ht2 hs2
  have e2 := (exp_beh tk kThen s2).rem

  obtain ⟨T4, ht4⟩ : ∃ t, (pe tk f 0 .no (expP tk kThen s2)).1 = t := ⟨_, rfl⟩
  obtain ⟨s4, hs4⟩ : ∃ t, (pe tk f 0 .no (expP tk kThen s2)).2 = t := ⟨_, rfl⟩
  (try rw [ht4])
  (try rw [hs4])
  have b4 := (pe_beh tk f 0 .no (expP tk kThen s2) (by unfold md; decide)).rem
  rw [hs4] at b4
  have U4 : Hid (s4.ok = true → Pt.ok (expP tk kThen s2) = true) := by
   show _ → _
   rw [← hs4]; exact (pe_beh tk f 0 .no (expP tk kThen s2) (by unfold md; decide)).2.1
  have Ht4 := Lib.hid ht4
  have Hs4 := Lib.hid hs4
  clear ht4 hs4
  have e4 := (exp_beh tk kElse s4).rem

  obtain ⟨T6, ht6⟩ : ∃ t, (pe tk f 0 .no (expP tk kElse s4)).1 = t := ⟨_, rfl⟩
  obtain ⟨s6, hs6⟩ : ∃ t, (pe tk f 0 .no (expP tk kElse s4)).2 = t := ⟨_, rfl⟩
  (try rw [ht6])
  (try rw [hs6])
  have b6 := (pe_beh tk f 0 .no (expP tk kElse s4) (by unfold md; decide)).rem
  rw [hs6] at b6
  have U6 : Hid (s6.ok = true → Pt.ok (expP tk kElse s4) = true) := by
   show _ → _
   rw [← hs6]; exact (pe_beh tk f 0 .no (expP tk kElse s4) (by unfold md; decide)).2.1
  have Ht6 := Lib.hid ht6
  have Hs6 := Lib.hid hs6
  clear ht6 hs6
  (try unfold RRes)
  go_enter Tryz.func44, Tryz.ntmps44
  go_wp2_with fail


  go_wp2_with fail
  refine A.out.mono ?_
  rintro e w1 ⟨rfl, hP1, h1⟩
  clear A
  have P1 := Lib.hid (hP1)
  have R1 := Lib.hid (R0.out.trans h1)
  have BR1 := Lib.hid (BR0.out.ro h1 hbw)
  have y1 : w.heap.size + 1 ≤ w1.heap.size := Nat.le_trans z0 h1.size
  have z1 := y1
  clear hP1 h1
  have C := Lib.hid (show Calls Tryz.prog 44 #[.pointer (some ⟨b, 0, none⟩), .int .i64 0] _ _ from HH.out f (Nat.le_refl _) 0 (by decide) _ s.adv P1.out (show 10 * rem tk s.adv + 8 ≤ f by omega))
  unfold RRes at C
  rw [Ht2.out, Hs2.out] at C
  go_wp2_with fail
  refine C.out.mono ?_
  rintro e w2 ⟨t2, x2, rfl, hK2, hq2, hP2, h2⟩
  obtain ⟨xa2, xc2, rfl⟩ := kids_slice (kidsB_to hK2)
  have Q2 := Lib.hid hq2
  clear C hq2
  have P2 := Lib.hid ((hP2).rel ((Rel.refl _).alloc (.cells #[.int .i64 t2.op, .int .i64 t2.va, .int .i64 t2.vb, .int .i64 t2.dm, .string t2.nm, .slice xa2 t2.cnt xc2] 29)))
  have R2 := Lib.hid ((R1.out.trans h2).alloc (.cells #[.int .i64 t2.op, .int .i64 t2.va, .int .i64 t2.vb, .int .i64 t2.dm, .string t2.nm, .slice xa2 t2.cnt xc2] 29))
  have BR2 := Lib.hid ((BR1.out.ro h2 hbw).rel ((Rel.refl _).alloc (.cells #[.int .i64 t2.op, .int .i64 t2.va, .int .i64 t2.vb, .int .i64 t2.dm, .string t2.nm, .slice xa2 t2.cnt xc2] 29)))
  have K2_2 := Lib.hid (kidsB_rl (kidsB_mono (Q := fun q => w.heap.size < q) hK2 (fun q hq hp => by omega)) ((Rel.refl _).alloc (.cells #[.int .i64 t2.op, .int .i64 t2.va, .int .i64 t2.vb, .int .i64 t2.dm, .string t2.nm, .slice xa2 t2.cnt xc2] 29)))
  have y2 : w.heap.size + 1 ≤ w2.heap.size := Nat.le_trans z1 h2.size
  have z2 : w.heap.size + 1 ≤ (w2.alloc (.cells #[.int .i64 t2.op, .int .i64 t2.va, .int .i64 t2.vb, .int .i64 t2.dm, .string t2.nm, .slice xa2 t2.cnt xc2] 29)).heap.size := by simp; omega
  have E2_2 := Lib.hid (BoxAt.new (w := w2) (g := w2.heap.size) rfl (.int .i64 t2.op) (.int .i64 t2.va) (.int .i64 t2.vb) (.int .i64 t2.dm) (.string t2.nm) (.slice xa2 t2.cnt xc2) 29)
  clear hP2 h2 hK2
  have X := Lib.hid (rwant_any b G tk E s2 ⟨#[116, 104, 101, 110]⟩ _ P2.out (txOk_of hH hT (by decide)) hT.len)
  have eK : (⟨#[116, 104, 101, 110]⟩ : ByteArray).data.toList = kThen := rfl
  rw [eK] at X
  clear eK
  go_wp2_with fail
  refine X.out.mono ?_
  unfold RUn
  rintro e w3 ⟨⟨v3, rfl⟩, hP3, h3⟩
  clear X
  have P3 := Lib.hid (hP3)
  have R3 := Lib.hid (R2.out.trans h3)
  have BR3 := Lib.hid (BR2.out.ro h3 hbw)
  have E2_3 := Lib.hid (E2_2.out.ro h3 (by omega))
  have K2_3 := Lib.hid (kidsB_ro K2_2.out h3 (fun q hq => by omega))
  have y3 : w.heap.size + 1 ≤ w3.heap.size := Nat.le_trans z2 h3.size
  have z3 := y3
  clear hP3 h3
  have C := Lib.hid (show Calls Tryz.prog 44 #[.pointer (some ⟨b, 0, none⟩), .int .i64 0] _ _ from HH.out f (Nat.le_refl _) 0 (by decide) _ (expP tk kThen s2) P3.out (show 10 * rem tk (expP tk kThen s2) + 8 ≤ f by omega))
  unfold RRes at C
  rw [Ht4.out, Hs4.out] at C
  go_wp2_with fail
  refine C.out.mono ?_
  rintro e w4 ⟨t4, x4, rfl, hK4, hq4, hP4, h4⟩
  obtain ⟨xa4, xc4, rfl⟩ := kids_slice (kidsB_to hK4)
  have Q4 := Lib.hid hq4
  clear C hq4
  have P4 := Lib.hid ((hP4).rel ((Rel.refl _).alloc (.cells #[.int .i64 t4.op, .int .i64 t4.va, .int .i64 t4.vb, .int .i64 t4.dm, .string t4.nm, .slice xa4 t4.cnt xc4] 29)))
  have R4 := Lib.hid ((R3.out.trans h4).alloc (.cells #[.int .i64 t4.op, .int .i64 t4.va, .int .i64 t4.vb, .int .i64 t4.dm, .string t4.nm, .slice xa4 t4.cnt xc4] 29))
  have BR4 := Lib.hid ((BR3.out.ro h4 hbw).rel ((Rel.refl _).alloc (.cells #[.int .i64 t4.op, .int .i64 t4.va, .int .i64 t4.vb, .int .i64 t4.dm, .string t4.nm, .slice xa4 t4.cnt xc4] 29)))
  have E2_4 := Lib.hid ((E2_3.out.ro h4 (by omega)).rel ((Rel.refl _).alloc (.cells #[.int .i64 t4.op, .int .i64 t4.va, .int .i64 t4.vb, .int .i64 t4.dm, .string t4.nm, .slice xa4 t4.cnt xc4] 29)))
  have K2_4 := Lib.hid (kidsB_rl (kidsB_ro K2_3.out h4 (fun q hq => by omega)) ((Rel.refl _).alloc (.cells #[.int .i64 t4.op, .int .i64 t4.va, .int .i64 t4.vb, .int .i64 t4.dm, .string t4.nm, .slice xa4 t4.cnt xc4] 29)))
  have K4_4 := Lib.hid (kidsB_rl (kidsB_mono (Q := fun q => w.heap.size < q) hK4 (fun q hq hp => by omega)) ((Rel.refl _).alloc (.cells #[.int .i64 t4.op, .int .i64 t4.va, .int .i64 t4.vb, .int .i64 t4.dm, .string t4.nm, .slice xa4 t4.cnt xc4] 29)))
  have y4 : w.heap.size + 1 ≤ w4.heap.size := Nat.le_trans z3 h4.size
  have z4 : w.heap.size + 1 ≤ (w4.alloc (.cells #[.int .i64 t4.op, .int .i64 t4.va, .int .i64 t4.vb, .int .i64 t4.dm, .string t4.nm, .slice xa4 t4.cnt xc4] 29)).heap.size := by simp; omega
  have E4_4 := Lib.hid (BoxAt.new (w := w4) (g := w4.heap.size) rfl (.int .i64 t4.op) (.int .i64 t4.va) (.int .i64 t4.vb) (.int .i64 t4.dm) (.string t4.nm) (.slice xa4 t4.cnt xc4) 29)
  clear hP4 h4 hK4
  have X := Lib.hid (rwant_any b G tk E s4 ⟨#[101, 108, 115, 101]⟩ _ P4.out (txOk_of hH hT (by decide)) hT.len)
  have eK : (⟨#[101, 108, 115, 101]⟩ : ByteArray).data.toList = kElse := rfl
  rw [eK] at X
  clear eK
  go_wp2_with fail
  refine X.out.mono ?_
  unfold RUn
  rintro e w5 ⟨⟨v5, rfl⟩, hP5, h5⟩
  clear X
  have P5 := Lib.hid (hP5)
  have R5 := Lib.hid (R4.out.trans h5)
  have BR5 := Lib.hid (BR4.out.ro h5 hbw)
  have E2_5 := Lib.hid (E2_4.out.ro h5 (by omega))
  have E4_5 := Lib.hid (E4_4.out.ro h5 (by omega))
  have K2_5 := Lib.hid (kidsB_ro K2_4.out h5 (fun q hq => by omega))
  have K4_5 := Lib.hid (kidsB_ro K4_4.out h5 (fun q hq => by omega))
  have y5 : w.heap.size + 1 ≤ w5.heap.size := Nat.le_trans z4 h5.size
  have z5 := y5
  clear hP5 h5
  have C := Lib.hid (show Calls Tryz.prog 44 #[.pointer (some ⟨b, 0, none⟩), .int .i64 0] _ _ from HH.out f (Nat.le_refl _) 0 (by decide) _ (expP tk kElse s4) P5.out (show 10 * rem tk (expP tk kElse s4) + 8 ≤ f by omega))
  unfold RRes at C
  rw [Ht6.out, Hs6.out] at C
  go_wp2_with fail
  refine C.out.mono ?_
  rintro e w6 ⟨t6, x6, rfl, hK6, hq6, hP6, h6⟩
  obtain ⟨xa6, xc6, rfl⟩ := kids_slice (kidsB_to hK6)
  have Q6 := Lib.hid hq6
  clear C hq6
  have P6 := Lib.hid ((hP6).rel ((Rel.refl _).alloc (.cells #[.int .i64 t6.op, .int .i64 t6.va, .int .i64 t6.vb, .int .i64 t6.dm, .string t6.nm, .slice xa6 t6.cnt xc6] 29)))
  have R6 := Lib.hid ((R5.out.trans h6).alloc (.cells #[.int .i64 t6.op, .int .i64 t6.va, .int .i64 t6.vb, .int .i64 t6.dm, .string t6.nm, .slice xa6 t6.cnt xc6] 29))
  have BR6 := Lib.hid ((BR5.out.ro h6 hbw).rel ((Rel.refl _).alloc (.cells #[.int .i64 t6.op, .int .i64 t6.va, .int .i64 t6.vb, .int .i64 t6.dm, .string t6.nm, .slice xa6 t6.cnt xc6] 29)))
  have E2_6 := Lib.hid ((E2_5.out.ro h6 (by omega)).rel ((Rel.refl _).alloc (.cells #[.int .i64 t6.op, .int .i64 t6.va, .int .i64 t6.vb, .int .i64 t6.dm, .string t6.nm, .slice xa6 t6.cnt xc6] 29)))
  have E4_6 := Lib.hid ((E4_5.out.ro h6 (by omega)).rel ((Rel.refl _).alloc (.cells #[.int .i64 t6.op, .int .i64 t6.va, .int .i64 t6.vb, .int .i64 t6.dm, .string t6.nm, .slice xa6 t6.cnt xc6] 29)))
  have K2_6 := Lib.hid (kidsB_rl (kidsB_ro K2_5.out h6 (fun q hq => by omega)) ((Rel.refl _).alloc (.cells #[.int .i64 t6.op, .int .i64 t6.va, .int .i64 t6.vb, .int .i64 t6.dm, .string t6.nm, .slice xa6 t6.cnt xc6] 29)))
  have K4_6 := Lib.hid (kidsB_rl (kidsB_ro K4_5.out h6 (fun q hq => by omega)) ((Rel.refl _).alloc (.cells #[.int .i64 t6.op, .int .i64 t6.va, .int .i64 t6.vb, .int .i64 t6.dm, .string t6.nm, .slice xa6 t6.cnt xc6] 29)))
  have K6_6 := Lib.hid (kidsB_rl (kidsB_mono (Q := fun q => w.heap.size < q) hK6 (fun q hq hp => by omega)) ((Rel.refl _).alloc (.cells #[.int .i64 t6.op, .int .i64 t6.va, .int .i64 t6.vb, .int .i64 t6.dm, .string t6.nm, .slice xa6 t6.cnt xc6] 29)))
  have y6 : w.heap.size + 1 ≤ w6.heap.size := Nat.le_trans z5 h6.size
  have z6 : w.heap.size + 1 ≤ (w6.alloc (.cells #[.int .i64 t6.op, .int .i64 t6.va, .int .i64 t6.vb, .int .i64 t6.dm, .string t6.nm, .slice xa6 t6.cnt xc6] 29)).heap.size := by simp; omega
  have E6_6 := Lib.hid (BoxAt.new (w := w6) (g := w6.heap.size) rfl (.int .i64 t6.op) (.int .i64 t6.va) (.int .i64 t6.vb) (.int .i64 t6.dm) (.string t6.nm) (.slice xa6 t6.cnt xc6) 29)
  clear hP6 h6 hK6
  obtain ⟨X6, hX6⟩ : ∃ X, w6.alloc (.cells #[.int .i64 t6.op, .int .i64 t6.va, .int .i64 t6.vb, .int .i64 t6.dm, .string t6.nm, .slice xa6 t6.cnt xc6] 29) = X := ⟨_, rfl⟩
  rw [hX6] at P6 R6 BR6 E2_6 E4_6 E6_6 K2_6 K4_6 K6_6 z6

  obtain ⟨rl, rc0, rc1, rc2, rc3, rc4, rc5, rf0, rf1, rf2, rf3, rf4, rf5⟩ := BR6.out
  obtain ⟨l2, c20, c21, c22, c23, c24, c25, q20, q21, q22, q23, q24, q25⟩ := E2_6.out
  obtain ⟨l4, c40, c41, c42, c43, c44, c45, q40, q41, q42, q43, q44, q45⟩ := E4_6.out
  obtain ⟨l6, c60, c61, c62, c63, c64, c65, q60, q61, q62, q63, q64, q65⟩ := E6_6.out
  ((try simp only []); (repeat (first | go_values | go_skip | go_guarded | go_step | go_upon | go_in)))
  have hp := rdr_put6 P6.out HP.out.toks R6.out (Nat.le_refl w.heap.size) hbw (.int .i64 21) (.int .i64 0) (.int .i64 0) (.int .i64 0) (.string ⟨#[]⟩) (.slice (some ⟨X6.heap.size, 0, none⟩) 3 3)
  have g0 : (((((((X6.setCell ⟨w.heap.size, 0, none⟩ (.int .i64 21)).setCell ⟨w.heap.size, 1, none⟩ (.int .i64 0)).setCell ⟨w.heap.size, 2, none⟩ (.int .i64 0)).setCell ⟨w.heap.size, 3, none⟩ (.int .i64 0)).setCell ⟨w.heap.size, 4, none⟩ (.string ⟨#[]⟩)).setCell ⟨w.heap.size, 5, none⟩ (.slice (some ⟨X6.heap.size, 0, none⟩) 3 3)).alloc (.cells #[.int .i64 t2.op, .int .i64 t2.va, .int .i64 t2.vb, .int .i64 t2.dm, .string t2.nm, .slice xa2 t2.cnt xc2, .int .i64 t4.op, .int .i64 t4.va, .int .i64 t4.vb, .int .i64 t4.dm, .string t4.nm, .slice xa4 t4.cnt xc4, .int .i64 t6.op, .int .i64 t6.va, .int .i64 t6.vb, .int .i64 t6.dm, .string t6.nm, .slice xa6 t6.cnt xc6] 29)).cell? ⟨w.heap.size, 0, none⟩ = some (.int .i64 21) := by go_simp
  have g1 : (((((((X6.setCell ⟨w.heap.size, 0, none⟩ (.int .i64 21)).setCell ⟨w.heap.size, 1, none⟩ (.int .i64 0)).setCell ⟨w.heap.size, 2, none⟩ (.int .i64 0)).setCell ⟨w.heap.size, 3, none⟩ (.int .i64 0)).setCell ⟨w.heap.size, 4, none⟩ (.string ⟨#[]⟩)).setCell ⟨w.heap.size, 5, none⟩ (.slice (some ⟨X6.heap.size, 0, none⟩) 3 3)).alloc (.cells #[.int .i64 t2.op, .int .i64 t2.va, .int .i64 t2.vb, .int .i64 t2.dm, .string t2.nm, .slice xa2 t2.cnt xc2, .int .i64 t4.op, .int .i64 t4.va, .int .i64 t4.vb, .int .i64 t4.dm, .string t4.nm, .slice xa4 t4.cnt xc4, .int .i64 t6.op, .int .i64 t6.va, .int .i64 t6.vb, .int .i64 t6.dm, .string t6.nm, .slice xa6 t6.cnt xc6] 29)).cell? ⟨w.heap.size, 1, none⟩ = some (.int .i64 0) := by go_simp
  have g2 : (((((((X6.setCell ⟨w.heap.size, 0, none⟩ (.int .i64 21)).setCell ⟨w.heap.size, 1, none⟩ (.int .i64 0)).setCell ⟨w.heap.size, 2, none⟩ (.int .i64 0)).setCell ⟨w.heap.size, 3, none⟩ (.int .i64 0)).setCell ⟨w.heap.size, 4, none⟩ (.string ⟨#[]⟩)).setCell ⟨w.heap.size, 5, none⟩ (.slice (some ⟨X6.heap.size, 0, none⟩) 3 3)).alloc (.cells #[.int .i64 t2.op, .int .i64 t2.va, .int .i64 t2.vb, .int .i64 t2.dm, .string t2.nm, .slice xa2 t2.cnt xc2, .int .i64 t4.op, .int .i64 t4.va, .int .i64 t4.vb, .int .i64 t4.dm, .string t4.nm, .slice xa4 t4.cnt xc4, .int .i64 t6.op, .int .i64 t6.va, .int .i64 t6.vb, .int .i64 t6.dm, .string t6.nm, .slice xa6 t6.cnt xc6] 29)).cell? ⟨w.heap.size, 2, none⟩ = some (.int .i64 0) := by go_simp
  have g3 : (((((((X6.setCell ⟨w.heap.size, 0, none⟩ (.int .i64 21)).setCell ⟨w.heap.size, 1, none⟩ (.int .i64 0)).setCell ⟨w.heap.size, 2, none⟩ (.int .i64 0)).setCell ⟨w.heap.size, 3, none⟩ (.int .i64 0)).setCell ⟨w.heap.size, 4, none⟩ (.string ⟨#[]⟩)).setCell ⟨w.heap.size, 5, none⟩ (.slice (some ⟨X6.heap.size, 0, none⟩) 3 3)).alloc (.cells #[.int .i64 t2.op, .int .i64 t2.va, .int .i64 t2.vb, .int .i64 t2.dm, .string t2.nm, .slice xa2 t2.cnt xc2, .int .i64 t4.op, .int .i64 t4.va, .int .i64 t4.vb, .int .i64 t4.dm, .string t4.nm, .slice xa4 t4.cnt xc4, .int .i64 t6.op, .int .i64 t6.va, .int .i64 t6.vb, .int .i64 t6.dm, .string t6.nm, .slice xa6 t6.cnt xc6] 29)).cell? ⟨w.heap.size, 3, none⟩ = some (.int .i64 0) := by go_simp
  have g4 : (((((((X6.setCell ⟨w.heap.size, 0, none⟩ (.int .i64 21)).setCell ⟨w.heap.size, 1, none⟩ (.int .i64 0)).setCell ⟨w.heap.size, 2, none⟩ (.int .i64 0)).setCell ⟨w.heap.size, 3, none⟩ (.int .i64 0)).setCell ⟨w.heap.size, 4, none⟩ (.string ⟨#[]⟩)).setCell ⟨w.heap.size, 5, none⟩ (.slice (some ⟨X6.heap.size, 0, none⟩) 3 3)).alloc (.cells #[.int .i64 t2.op, .int .i64 t2.va, .int .i64 t2.vb, .int .i64 t2.dm, .string t2.nm, .slice xa2 t2.cnt xc2, .int .i64 t4.op, .int .i64 t4.va, .int .i64 t4.vb, .int .i64 t4.dm, .string t4.nm, .slice xa4 t4.cnt xc4, .int .i64 t6.op, .int .i64 t6.va, .int .i64 t6.vb, .int .i64 t6.dm, .string t6.nm, .slice xa6 t6.cnt xc6] 29)).cell? ⟨w.heap.size, 4, none⟩ = some (.string ⟨#[]⟩) := by go_simp
  have g5 : (((((((X6.setCell ⟨w.heap.size, 0, none⟩ (.int .i64 21)).setCell ⟨w.heap.size, 1, none⟩ (.int .i64 0)).setCell ⟨w.heap.size, 2, none⟩ (.int .i64 0)).setCell ⟨w.heap.size, 3, none⟩ (.int .i64 0)).setCell ⟨w.heap.size, 4, none⟩ (.string ⟨#[]⟩)).setCell ⟨w.heap.size, 5, none⟩ (.slice (some ⟨X6.heap.size, 0, none⟩) 3 3)).alloc (.cells #[.int .i64 t2.op, .int .i64 t2.va, .int .i64 t2.vb, .int .i64 t2.dm, .string t2.nm, .slice xa2 t2.cnt xc2, .int .i64 t4.op, .int .i64 t4.va, .int .i64 t4.vb, .int .i64 t4.dm, .string t4.nm, .slice xa4 t4.cnt xc4, .int .i64 t6.op, .int .i64 t6.va, .int .i64 t6.vb, .int .i64 t6.dm, .string t6.nm, .slice xa6 t6.cnt xc6] 29)).cell? ⟨w.heap.size, 5, none⟩ = some (.slice (some ⟨X6.heap.size, 0, none⟩) 3 3) := by go_simp
  refine bodyPost_ret (v := .agg #[.int .i64 21, .int .i64 0, .int .i64 0, .int .i64 0, .string ⟨#[]⟩, .slice (some ⟨X6.heap.size, 0, none⟩) 3 3]) ?_ rfl ⟨_, _, rfl, three_tree (by simp [World.setCell]) (by omega) (kidsB_p6 K2_6.out (g := w.heap.size) (Q := fun q => w.heap.size ≤ q) (fun q _ hq => ⟨by omega, by omega⟩) _ _ _ _ _ _) (kidsB_p6 K4_6.out (g := w.heap.size) (Q := fun q => w.heap.size ≤ q) (fun q _ hq => ⟨by omega, by omega⟩) _ _ _ _ _ _) (kidsB_p6 K6_6.out (g := w.heap.size) (Q := fun q => w.heap.size ≤ q) (fun q _ hq => ⟨by omega, by omega⟩) _ _ _ _ _ _), (fun h => by have o5 := U6.out h; have o4 := (exp_beh tk kElse s4).2.1 o5; have o3 := U4.out o4; have o2 := (exp_beh tk kThen s2).2.1 o3; rw [Q6.out h, Q4.out o4, Q2.out o2]), hp.1.rel ((Rel.refl _).alloc _), hp.2.alloc _⟩
  simp [results, Tryz.results44, go_sem, g0, g1, g2, g3, g4, g5]
set_option maxRecDepth 20000 in
set_option maxHeartbeats 8000000 in
theorem rexpr7_step (b G : Nat) (tk : List Tk) (E : Int) (hT : TksOk tk) (hH : TkHd tk) (f : Nat) (HF : RF b G tk E (f + 1)) : RC b G tk E 7 (f + 1) := by
 intro w s hP hf
 have hf' : 10 * rem tk s + 1 ≤ f + 1 := hf
 have HP := Lib.hid hP
 have hlt := hP.lt
 have hbw : w.heap.size ≠ b := by omega

 have HHF := Lib.hid HF
 by_cases hok : s.ok = true
 rotate_left
 ·have := rexpr_bad b G tk E s 7 w hP (by simpa using hok) (pe tk (f + 1) 7 .no s).1
  have e : pe tk (f + 1) 7 .no s = ((pe tk (f + 1) 7 .no s).1, s) := Prod.ext rfl (pe_bad tk (by simpa using hok) (f + 1) 7 .no (by unfold md; decide))
  rw [e]
  exact this
 have c3 := HP.out.c3
 rw [hok] at c3
 clear hP hf HF
 show Calls Tryz.prog 44 #[.pointer (some ⟨b, 0, none⟩), .int .i64 7] w _

 have BR0 := Lib.hid (BoxAt.new (w := w) (g := w.heap.size) rfl (.int .i64 0) (.int .i64 0) (.int .i64 0) (.int .i64 0) (.string ⟨#[]⟩) (.slice none 0 0) 29)
 have P0 := Lib.hid (HP.out.rel ((Rel.refl _).alloc (.cells #[.int .i64 0, .int .i64 0, .int .i64 0, .int .i64 0, .string ⟨#[]⟩, .slice none 0 0] 29)))
 have R0 := Lib.hid ((Ro.refl b w).alloc (.cells #[.int .i64 0, .int .i64 0, .int .i64 0, .int .i64 0, .string ⟨#[]⟩, .slice none 0 0] 29))
 have z0 : w.heap.size + 1 ≤ (w.alloc (.cells #[.int .i64 0, .int .i64 0, .int .i64 0, .int .i64 0, .string ⟨#[]⟩, .slice none 0 0] 29)).heap.size := by simp
 obtain ⟨T2, ht2⟩ : ∃ t, (pe tk (f + 1) 7 .no s).1 = t := ⟨_, rfl⟩
 obtain ⟨s2, hs2⟩ : ∃ t, (pe tk (f + 1) 7 .no s).2 = t := ⟨_, rfl⟩
 have C := Lib.hid (HHF.out _ s P0.out hok hf')
 unfold RRes at C ⊢
 rw [ht2, hs2] at C ⊢
 clear ht2 hs2
 go_enter Tryz.func44, Tryz.ntmps44
 go_wp2_with fail

 refine C.out.mono ?_
 rintro e w2 ⟨t2, x2, rfl, hK2, hq2, hP2, h2⟩
 obtain ⟨xa2, xc2, rfl⟩ := kids_slice (kidsB_to hK2)
 have Q2 := Lib.hid hq2
 clear C hq2
 have P2 := Lib.hid (hP2)
 have R2 := Lib.hid (R0.out.trans h2)
 have BR2 := Lib.hid (BR0.out.ro h2 hbw)
 have K2_2 := Lib.hid (kidsB_mono (Q := fun q => w.heap.size < q) hK2 (fun q hq hp => by omega))
 have y2 : w.heap.size + 1 ≤ w2.heap.size := Nat.le_trans z0 h2.size
 have z2 := y2
 clear hP2 h2 hK2
 obtain ⟨rl, rc0, rc1, rc2, rc3, rc4, rc5, rf0, rf1, rf2, rf3, rf4, rf5⟩ := BR2.out
 ((try simp only []); (repeat (first | go_values | go_skip | go_guarded | go_step | go_upon | go_in)))
 have hp := rdr_put6 P2.out HP.out.toks R2.out (Nat.le_refl w.heap.size) hbw (.int .i64 t2.op) (.int .i64 t2.va) (.int .i64 t2.vb) (.int .i64 t2.dm) (.string t2.nm) (.slice xa2 t2.cnt xc2)
 have g0 : ((((((w2.setCell ⟨w.heap.size, 0, none⟩ (.int .i64 t2.op)).setCell ⟨w.heap.size, 1, none⟩ (.int .i64 t2.va)).setCell ⟨w.heap.size, 2, none⟩ (.int .i64 t2.vb)).setCell ⟨w.heap.size, 3, none⟩ (.int .i64 t2.dm)).setCell ⟨w.heap.size, 4, none⟩ (.string t2.nm)).setCell ⟨w.heap.size, 5, none⟩ (.slice xa2 t2.cnt xc2)).cell? ⟨w.heap.size, 0, none⟩ = some (.int .i64 t2.op) := by go_simp
 have g1 : ((((((w2.setCell ⟨w.heap.size, 0, none⟩ (.int .i64 t2.op)).setCell ⟨w.heap.size, 1, none⟩ (.int .i64 t2.va)).setCell ⟨w.heap.size, 2, none⟩ (.int .i64 t2.vb)).setCell ⟨w.heap.size, 3, none⟩ (.int .i64 t2.dm)).setCell ⟨w.heap.size, 4, none⟩ (.string t2.nm)).setCell ⟨w.heap.size, 5, none⟩ (.slice xa2 t2.cnt xc2)).cell? ⟨w.heap.size, 1, none⟩ = some (.int .i64 t2.va) := by go_simp
 have g2 : ((((((w2.setCell ⟨w.heap.size, 0, none⟩ (.int .i64 t2.op)).setCell ⟨w.heap.size, 1, none⟩ (.int .i64 t2.va)).setCell ⟨w.heap.size, 2, none⟩ (.int .i64 t2.vb)).setCell ⟨w.heap.size, 3, none⟩ (.int .i64 t2.dm)).setCell ⟨w.heap.size, 4, none⟩ (.string t2.nm)).setCell ⟨w.heap.size, 5, none⟩ (.slice xa2 t2.cnt xc2)).cell? ⟨w.heap.size, 2, none⟩ = some (.int .i64 t2.vb) := by go_simp
 have g3 : ((((((w2.setCell ⟨w.heap.size, 0, none⟩ (.int .i64 t2.op)).setCell ⟨w.heap.size, 1, none⟩ (.int .i64 t2.va)).setCell ⟨w.heap.size, 2, none⟩ (.int .i64 t2.vb)).setCell ⟨w.heap.size, 3, none⟩ (.int .i64 t2.dm)).setCell ⟨w.heap.size, 4, none⟩ (.string t2.nm)).setCell ⟨w.heap.size, 5, none⟩ (.slice xa2 t2.cnt xc2)).cell? ⟨w.heap.size, 3, none⟩ = some (.int .i64 t2.dm) := by go_simp
 have g4 : ((((((w2.setCell ⟨w.heap.size, 0, none⟩ (.int .i64 t2.op)).setCell ⟨w.heap.size, 1, none⟩ (.int .i64 t2.va)).setCell ⟨w.heap.size, 2, none⟩ (.int .i64 t2.vb)).setCell ⟨w.heap.size, 3, none⟩ (.int .i64 t2.dm)).setCell ⟨w.heap.size, 4, none⟩ (.string t2.nm)).setCell ⟨w.heap.size, 5, none⟩ (.slice xa2 t2.cnt xc2)).cell? ⟨w.heap.size, 4, none⟩ = some (.string t2.nm) := by go_simp
 have g5 : ((((((w2.setCell ⟨w.heap.size, 0, none⟩ (.int .i64 t2.op)).setCell ⟨w.heap.size, 1, none⟩ (.int .i64 t2.va)).setCell ⟨w.heap.size, 2, none⟩ (.int .i64 t2.vb)).setCell ⟨w.heap.size, 3, none⟩ (.int .i64 t2.dm)).setCell ⟨w.heap.size, 4, none⟩ (.string t2.nm)).setCell ⟨w.heap.size, 5, none⟩ (.slice xa2 t2.cnt xc2)).cell? ⟨w.heap.size, 5, none⟩ = some (.slice xa2 t2.cnt xc2) := by go_simp
 refine bodyPost_ret (v := .agg #[.int .i64 t2.op, .int .i64 t2.va, .int .i64 t2.vb, .int .i64 t2.dm, .string t2.nm, .slice xa2 t2.cnt xc2]) ?_ rfl ⟨_, _, rfl, kidsB_p6 K2_2.out (g := w.heap.size) (Q := fun q => w.heap.size ≤ q) (fun q _ hq => ⟨by omega, by omega⟩) _ _ _ _ _ _, Q2.out, hp.1, hp.2⟩
 simp [results, Tryz.results44, go_sem, g0, g1, g2, g3, g4, g5]
end Go.Proofs.YtkghmghjgikihaaGreatDoor

/- The reference's expr, by fuel, at the levels of the operators. No conditions but those printed. -/
namespace Go.Proofs.YtkghmghjgikihaaGreatDoor
open Go.RowKit Cal Str Tok Frac Txt Tree
attribute [local go_sem] calmUpon
set_option linter.unusedVariables false
set_option linter.unusedSimpArgs false
theorem opLn_zero {tk : List Tk} {s : Pt} {n : Int} (h : binO tk s (opLn n) = false) : binT tk s (opLn n) = 0 := by
 generalize opLn n = l at *
 induction l with
 | nil => rfl
 | cons p l ih =>
  simp only [binO] at h
  simp only [binT]
  split at h
  ·cases h
  ·rename_i ha; rw [if_neg ha]; exact ih h
theorem opLn_pos {tk : List Tk} {s : Pt} {n : Int} (h : binO tk s (opLn n) = true) : 7 ≤ binT tk s (opLn n) ∧ binT tk s (opLn n) ≤ 18 := by
 have key : ∀ l : List (List UInt8 × Int), (∀ p ∈ l, 7 ≤ p.2 ∧ p.2 ≤ 18) → binO tk s l = true → 7 ≤ binT tk s l ∧ binT tk s l ≤ 18 := by
  intro l
  induction l with
  | nil => intro _ h; cases h
  | cons p l ih =>
   intro hl h
   simp only [binO] at h
   simp only [binT]
   split
   ·exact hl p (by simp)
   ·rename_i ha
    rw [if_neg ha] at h
    exact ih (fun q hq => hl q (by simp [hq])) h
 refine key _ ?_ h
 unfold opLn
 repeat' split
 all_goals decide
theorem bin_some {tk : List Tk} {s : Pt} {l : List (List UInt8 × Int)} (h : binO tk s l = true) : ∃ t, tk[s.i]? = some t ∧ s.i < tk.length := by
 induction l with
 | nil => cases h
 | cons p l ih =>
  simp only [binO] at h
  split at h
  ·rename_i ha
   obtain ⟨t, ht, -⟩ := accB_some ha
   obtain ⟨-, h1, h2⟩ := tkAt_some ht
   exact ⟨t, h2, h1⟩
  ·exact ih h
theorem pe_nn (tk : List Tk) (f n : Nat) (hn : n = 1 ∨ n = 2 ∨ n = 5 ∨ n = 6) (a : Ex) (s : Pt) : pe tk (f + 1) n a s = pe tk f (10 + n) (pe tk f (n + 1) .no s).1 (pe tk f (n + 1) .no s).2 := by
 rcases hn with rfl | rfl | rfl | rfl <;> rfl
theorem pe_lp (tk : List Tk) (f n : Nat) (hn : n = 1 ∨ n = 2 ∨ n = 5 ∨ n = 6) (a : Ex) (s : Pt) : pe tk (f + 1) (10 + n) a s = if binO tk s (opLn (n : Int)) = true then pe tk f (10 + n) (trB (binT tk s (opLn (n : Int))) a (pe tk f (n + 1) .no s.adv).1) (pe tk f (n + 1) .no s.adv).2 else (a, s) := by
 rcases hn with rfl | rfl | rfl | rfl
 ·show pe tk (f + 1) 11 a s = _
  rw [pe_11]
  have e1 : binO tk s (opLn ((1 : Nat) : Int)) = accB tk kOr s := by show (if accB tk kOr s = true then true else false) = _; cases accB tk kOr s <;> rfl
  rw [e1]
  by_cases h : accB tk kOr s = true
  ·rw [if_pos h, if_pos h]
   have e2 : binT tk s (opLn ((1 : Nat) : Int)) = 18 := by show (if accB tk kOr s = true then (18 : Int) else 0) = _; rw [if_pos h]
   rw [e2]
  ·rw [if_neg h, if_neg h]
 ·show pe tk (f + 1) 12 a s = _
  rw [pe_12]
  have e1 : binO tk s (opLn ((2 : Nat) : Int)) = accB tk kAnd s := by show (if accB tk kAnd s = true then true else false) = _; cases accB tk kAnd s <;> rfl
  rw [e1]
  by_cases h : accB tk kAnd s = true
  ·rw [if_pos h, if_pos h]
   have e2 : binT tk s (opLn ((2 : Nat) : Int)) = 17 := by show (if accB tk kAnd s = true then (17 : Int) else 0) = _; rw [if_pos h]
   rw [e2]
  ·rw [if_neg h, if_neg h]
 ·rfl
 ·rfl
set_option maxRecDepth 20000 in
set_option maxHeartbeats 8000000 in
theorem rexprC_step (b G : Nat) (tk : List Tk) (E : Int) (hT : TksOk tk) (hH : TkHd tk) (f : Nat) (H : ∀ g, g ≤ f → ∀ m, m ≤ 7 → RC b G tk E m g) (n : Nat) (hn : n = 1 ∨ n = 2 ∨ n = 5 ∨ n = 6) : RC b G tk E n (f + 1) := by
 intro w s hP hf
 have hf' : 10 * rem tk s + cc n ≤ f + 1 := hf
 have HP := Lib.hid hP
 have hlt := hP.lt
 have hbw : w.heap.size ≠ b := by omega

 have HH := Lib.hid H
 have hmd : md n := by unfold md; omega
 have hcc : cc (n + 1) + 1 = cc n ∧ 1 ≤ cc (n + 1) ∧ cc (n + 1) ≤ 8 := by rcases hn with rfl | rfl | rfl | rfl <;> decide
 by_cases hok : s.ok = true
 rotate_left
 ·have := rexpr_bad b G tk E s (n : Int) w hP (by simpa using hok) (pe tk (f + 1) n .no s).1
  have e : pe tk (f + 1) n .no s = ((pe tk (f + 1) n .no s).1, s) := Prod.ext rfl (pe_bad tk (by simpa using hok) (f + 1) n .no hmd)
  rw [e]
  exact this
 have c3 := HP.out.c3
 rw [hok] at c3
 clear hP hf H

 have BR0 := Lib.hid (BoxAt.new (w := w) (g := w.heap.size) rfl (.int .i64 0) (.int .i64 0) (.int .i64 0) (.int .i64 0) (.string ⟨#[]⟩) (.slice none 0 0) 29)
 have P0 := Lib.hid (HP.out.rel ((Rel.refl _).alloc (.cells #[.int .i64 0, .int .i64 0, .int .i64 0, .int .i64 0, .string ⟨#[]⟩, .slice none 0 0] 29)))
 have R0 := Lib.hid ((Ro.refl b w).alloc (.cells #[.int .i64 0, .int .i64 0, .int .i64 0, .int .i64 0, .string ⟨#[]⟩, .slice none 0 0] 29))
 have z0 : w.heap.size + 1 ≤ (w.alloc (.cells #[.int .i64 0, .int .i64 0, .int .i64 0, .int .i64 0, .string ⟨#[]⟩, .slice none 0 0] 29)).heap.size := by simp

 have mm : md (n + 1) := by unfold md; omega
 have ml : md (10 + n) := by unfold md; omega
 have n7 : n + 1 ≤ 7 := by omega
 have C := Lib.hid (HH.out f (Nat.le_refl _) (n + 1) n7 _ s P0.out (by omega))
 have HC2 := Lib.hid fun g (hg : g ≤ f) w' s' h (hf : 10 * rem tk s' + cc (n + 1) ≤ g) => HH.out g hg (n + 1) n7 w' s' h hf
 have HPE := Lib.hid fun g a s' => pe_lp tk g n hn a s'
 have HBE := Lib.hid fun g s' => pe_beh tk g (n + 1) .no s' mm
 have HBD := Lib.hid fun g a (s' : Pt) (h : s'.ok = false) => pe_bad tk h g (10 + n) a ml
 rw [pe_nn tk f n hn]
 unfold RRes at C HC2
 obtain ⟨nI, hnI⟩ : ∃ z : Int, (n : Int) = z := ⟨_, rfl⟩
 obtain ⟨mI, hmI⟩ : ∃ z : Int, ((n + 1 : Nat) : Int) = z := ⟨_, rfl⟩
 have e0 : (nI == 0) = false := by rw [beq_eq_false_iff_ne]; omega
 have e3 : (nI == 3) = false := by rw [beq_eq_false_iff_ne]; omega
 have e7 : (nI == 7) = false := by rw [beq_eq_false_iff_ne]; omega
 have e4 : (nI == 4) = false := by rw [beq_eq_false_iff_ne]; omega
 have wn : IntKind.i64.wrap (nI + 1) = mI := by rw [IntWalk.i64_in _ ⟨by omega, by omega⟩]; omega
 rw [hmI] at C HC2
 rw [hnI] at HPE ⊢
 obtain ⟨T1, ht1⟩ : ∃ t, (pe tk f (n + 1) .no s).1 = t := ⟨_, rfl⟩
 obtain ⟨s1, hs1⟩ : ∃ t, (pe tk f (n + 1) .no s).2 = t := ⟨_, rfl⟩
 have b1 := (pe_beh tk f (n + 1) .no s mm).rem
 rw [hs1] at b1
 rw [ht1, hs1] at C ⊢
 obtain ⟨RES, hRES⟩ : ∃ r, pe tk f (10 + n) T1 s1 = r := ⟨_, rfl⟩
 rw [hRES]
 have HRES := Lib.hid hRES
 have hccm : cc (n + 1) ≤ 10 := by omega
 obtain ⟨cm', hcm'⟩ : ∃ c, cc (n + 1) = c := ⟨_, rfl⟩
 rw [hcm'] at HC2 hccm hcc
 have hf2 : 10 * rem tk s + cm' ≤ f := by omega
 have HN := Lib.hid hn
 clear hRES ht1 hs1 hnI hmI hn hmd mm ml hcm'
 unfold RRes
 go_enter Tryz.func44, Tryz.ntmps44
 go_wp2_with fail
 refine C.out.mono ?_
 rintro e w1 ⟨t1, x1, rfl, hK1, hq1, hP1, h1⟩
 obtain ⟨xa1, xc1, rfl⟩ := kids_slice (kidsB_to hK1)
 have Q1 := Lib.hid hq1
 clear C hq1
 have k1 : w.heap.size + 1 ≤ w1.heap.size := by have := h1.size; simpa using this
 have BR1 := Lib.hid ((BR0.out.ro h1 hbw).rel ((Rel.refl _).alloc (.cells #[.int .i64 t1.op, .int .i64 t1.va, .int .i64 t1.vb, .int .i64 t1.dm, .string t1.nm, .slice xa1 t1.cnt xc1] 29)))
 have BE1 := Lib.hid (BoxAt.new (w := w1) (g := w1.heap.size) rfl (.int .i64 t1.op) (.int .i64 t1.va) (.int .i64 t1.vb) (.int .i64 t1.dm) (.string t1.nm) (.slice xa1 t1.cnt xc1) 29)
 have P1 := Lib.hid (hP1.rel ((Rel.refl _).alloc (.cells #[.int .i64 t1.op, .int .i64 t1.va, .int .i64 t1.vb, .int .i64 t1.dm, .string t1.nm, .slice xa1 t1.cnt xc1] 29)))
 have K1 := Lib.hid (kidsB_rl (kidsB_mono (Q := fun q => w.heap.size < q ∧ q ≠ w1.heap.size) hK1 (fun q hq hp => ⟨by simp at hp; omega, by omega⟩)) ((Rel.refl _).alloc (.cells #[.int .i64 t1.op, .int .i64 t1.va, .int .i64 t1.vb, .int .i64 t1.dm, .string t1.nm, .slice xa1 t1.cnt xc1] 29)))
 have R1 := Lib.hid ((((Ro.refl b w).alloc _).trans h1).alloc (.cells #[.int .i64 t1.op, .int .i64 t1.va, .int .i64 t1.vb, .int .i64 t1.dm, .string t1.nm, .slice xa1 t1.cnt xc1] 29))
 have hbe : w1.heap.size ≠ b := by have := hP1.lt; omega
 clear hK1 hP1 h1
 go_wp2_with fail
 go_loopg [] f (fun g wx => ∃ (t a : Ex) (xa : Option Addr) (xc : Nat) (s' : Pt), g ≤ f ∧ 10 * rem tk s' + 1 ≤ g ∧ Hid (pe tk g (10 + n) a s' = RES) ∧ Hid (Pt.ok s' = true → t = a) ∧ Hid (BoxAt wx w.heap.size (.int .i64 0) (.int .i64 0) (.int .i64 0) (.int .i64 0) (.string ⟨#[]⟩) (.slice none 0 0)) ∧ Hid (BoxAt wx w1.heap.size (.int .i64 t.op) (.int .i64 t.va) (.int .i64 t.vb) (.int .i64 t.dm) (.string t.nm) (.slice xa t.cnt xc)) ∧ Hid (ExKidsB (fun q => w.heap.size < q ∧ q ≠ w1.heap.size) t wx (.slice xa t.cnt xc)) ∧ Hid (Rdr wx b G tk E s') ∧ Hid (Ro b w wx) ∧ w1.heap.size < wx.heap.size)
 case atStart => exact ⟨t1, T1, xa1, xc1, s1, Nat.le_refl _, by omega, HRES, Q1, BR1, BE1, K1, P1, R1, by simp⟩
 case round =>
  obtain ⟨t, a, xa, xc, s', hgf, hgr, hF, hQ, hBR, hBE, hK, hP, hR, hsz⟩ := hrel
  obtain ⟨g, hgk⟩ : ∃ g, gk = g + 1 := ⟨gk - 1, by omega⟩
  have b3 := hP.out.c3
  obtain ⟨kk, hkk⟩ : ∃ k, s'.ok = k := ⟨_, rfl⟩
  rw [hkk] at b3
  cases kk
  ·skip
   have Pr := hP
   have Rr := hR
   have BRr := hBR
   have BEr := hBE
   have Kr := hK
   have HKK := Lib.hid hkk
   obtain ⟨el, ec0, ec1, ec2, ec3, ec4, ec5, ef0, ef1, ef2, ef3, ef4, ef5⟩ := BEr.out
   obtain ⟨rl, rc0, rc1, rc2, rc3, rc4, rc5, rf0, rf1, rf2, rf3, rf4, rf5⟩ := BRr.out
   ((try simp only []); (repeat (first | go_values | go_skip | go_guarded | go_step | go_upon | go_in)))
   have hp := rdr_put6 Pr.out HP.out.toks Rr.out (Nat.le_refl w.heap.size) hbw (.int .i64 t.op) (.int .i64 t.va) (.int .i64 t.vb) (.int .i64 t.dm) (.string t.nm) (.slice xa t.cnt xc)
   have g0 : ((((((wr.setCell ⟨w.heap.size, 0, none⟩ (.int .i64 t.op)).setCell ⟨w.heap.size, 1, none⟩ (.int .i64 t.va)).setCell ⟨w.heap.size, 2, none⟩ (.int .i64 t.vb)).setCell ⟨w.heap.size, 3, none⟩ (.int .i64 t.dm)).setCell ⟨w.heap.size, 4, none⟩ (.string t.nm)).setCell ⟨w.heap.size, 5, none⟩ (.slice xa t.cnt xc)).cell? ⟨w.heap.size, 0, none⟩ = some (.int .i64 t.op) := by go_simp
   have g1 : ((((((wr.setCell ⟨w.heap.size, 0, none⟩ (.int .i64 t.op)).setCell ⟨w.heap.size, 1, none⟩ (.int .i64 t.va)).setCell ⟨w.heap.size, 2, none⟩ (.int .i64 t.vb)).setCell ⟨w.heap.size, 3, none⟩ (.int .i64 t.dm)).setCell ⟨w.heap.size, 4, none⟩ (.string t.nm)).setCell ⟨w.heap.size, 5, none⟩ (.slice xa t.cnt xc)).cell? ⟨w.heap.size, 1, none⟩ = some (.int .i64 t.va) := by go_simp
   have g2 : ((((((wr.setCell ⟨w.heap.size, 0, none⟩ (.int .i64 t.op)).setCell ⟨w.heap.size, 1, none⟩ (.int .i64 t.va)).setCell ⟨w.heap.size, 2, none⟩ (.int .i64 t.vb)).setCell ⟨w.heap.size, 3, none⟩ (.int .i64 t.dm)).setCell ⟨w.heap.size, 4, none⟩ (.string t.nm)).setCell ⟨w.heap.size, 5, none⟩ (.slice xa t.cnt xc)).cell? ⟨w.heap.size, 2, none⟩ = some (.int .i64 t.vb) := by go_simp
   have g3 : ((((((wr.setCell ⟨w.heap.size, 0, none⟩ (.int .i64 t.op)).setCell ⟨w.heap.size, 1, none⟩ (.int .i64 t.va)).setCell ⟨w.heap.size, 2, none⟩ (.int .i64 t.vb)).setCell ⟨w.heap.size, 3, none⟩ (.int .i64 t.dm)).setCell ⟨w.heap.size, 4, none⟩ (.string t.nm)).setCell ⟨w.heap.size, 5, none⟩ (.slice xa t.cnt xc)).cell? ⟨w.heap.size, 3, none⟩ = some (.int .i64 t.dm) := by go_simp
   have g4 : ((((((wr.setCell ⟨w.heap.size, 0, none⟩ (.int .i64 t.op)).setCell ⟨w.heap.size, 1, none⟩ (.int .i64 t.va)).setCell ⟨w.heap.size, 2, none⟩ (.int .i64 t.vb)).setCell ⟨w.heap.size, 3, none⟩ (.int .i64 t.dm)).setCell ⟨w.heap.size, 4, none⟩ (.string t.nm)).setCell ⟨w.heap.size, 5, none⟩ (.slice xa t.cnt xc)).cell? ⟨w.heap.size, 4, none⟩ = some (.string t.nm) := by go_simp
   have g5 : ((((((wr.setCell ⟨w.heap.size, 0, none⟩ (.int .i64 t.op)).setCell ⟨w.heap.size, 1, none⟩ (.int .i64 t.va)).setCell ⟨w.heap.size, 2, none⟩ (.int .i64 t.vb)).setCell ⟨w.heap.size, 3, none⟩ (.int .i64 t.dm)).setCell ⟨w.heap.size, 4, none⟩ (.string t.nm)).setCell ⟨w.heap.size, 5, none⟩ (.slice xa t.cnt xc)).cell? ⟨w.heap.size, 5, none⟩ = some (.slice xa t.cnt xc) := by go_simp
   have eR : RES.2 = s' := by rw [← hF.out]; exact HBD.out _ _ _ hkk
   rw [eR]
   refine bodyPost_ret (v := .agg #[.int .i64 t.op, .int .i64 t.va, .int .i64 t.vb, .int .i64 t.dm, .string t.nm, .slice xa t.cnt xc]) ?_ rfl ⟨_, _, rfl, kidsB_p6 Kr.out (fun q _ hq => ⟨by omega, by omega⟩) _ _ _ _ _ _, (fun h => by rw [hkk] at h; cases h), hp.1, hp.2⟩
   simp [results, Tryz.results44, go_sem, g0, g1, g2, g3, g4, g5]
  ·have HKK := Lib.hid hkk
   clear hkk
   have BN := Lib.hid (rbin_any b G tk E nI s' wr hP.out hT hH)
   unfold RInt at BN
   obtain ⟨op, hop⟩ : ∃ op, binT tk s' (opLn nI) = op := ⟨_, rfl⟩
   obtain ⟨k, hk⟩ : ∃ k, binO tk s' (opLn nI) = k := ⟨_, rfl⟩
   rw [hop] at BN
   cases k
   ·skip
    have hop0 : op = 0 := by rw [← hop]; exact opLn_zero (by exact hk)
    subst hop0
    go_wp2_with fail
    refine BN.out.mono ?_
    rintro e w2 ⟨rfl, h2⟩
    have BR2 := Lib.hid (hBR.out.rel h2)
    have BE2 := Lib.hid (hBE.out.rel h2)
    have K2 := Lib.hid (kidsB_rl hK.out h2)
    have P2 := Lib.hid (hP.out.rel h2)
    have R2 := Lib.hid (hR.out.trans (Ro.of h2))
    have sz2 := Nat.lt_of_lt_of_le hsz h2.size
    have d3 := h2.cell b3
    clear h2
    obtain ⟨el, ec0, ec1, ec2, ec3, ec4, ec5, ef0, ef1, ef2, ef3, ef4, ef5⟩ := BE2.out
    obtain ⟨rl, rc0, rc1, rc2, rc3, rc4, rc5, rf0, rf1, rf2, rf3, rf4, rf5⟩ := BR2.out
    ((try simp only []); (repeat (first | go_values | go_skip | go_guarded | go_step | go_upon | go_in)))
    have hp := rdr_put6 P2.out HP.out.toks R2.out (Nat.le_refl w.heap.size) hbw (.int .i64 t.op) (.int .i64 t.va) (.int .i64 t.vb) (.int .i64 t.dm) (.string t.nm) (.slice xa t.cnt xc)
    have g0 : ((((((w2.setCell ⟨w.heap.size, 0, none⟩ (.int .i64 t.op)).setCell ⟨w.heap.size, 1, none⟩ (.int .i64 t.va)).setCell ⟨w.heap.size, 2, none⟩ (.int .i64 t.vb)).setCell ⟨w.heap.size, 3, none⟩ (.int .i64 t.dm)).setCell ⟨w.heap.size, 4, none⟩ (.string t.nm)).setCell ⟨w.heap.size, 5, none⟩ (.slice xa t.cnt xc)).cell? ⟨w.heap.size, 0, none⟩ = some (.int .i64 t.op) := by go_simp
    have g1 : ((((((w2.setCell ⟨w.heap.size, 0, none⟩ (.int .i64 t.op)).setCell ⟨w.heap.size, 1, none⟩ (.int .i64 t.va)).setCell ⟨w.heap.size, 2, none⟩ (.int .i64 t.vb)).setCell ⟨w.heap.size, 3, none⟩ (.int .i64 t.dm)).setCell ⟨w.heap.size, 4, none⟩ (.string t.nm)).setCell ⟨w.heap.size, 5, none⟩ (.slice xa t.cnt xc)).cell? ⟨w.heap.size, 1, none⟩ = some (.int .i64 t.va) := by go_simp
    have g2 : ((((((w2.setCell ⟨w.heap.size, 0, none⟩ (.int .i64 t.op)).setCell ⟨w.heap.size, 1, none⟩ (.int .i64 t.va)).setCell ⟨w.heap.size, 2, none⟩ (.int .i64 t.vb)).setCell ⟨w.heap.size, 3, none⟩ (.int .i64 t.dm)).setCell ⟨w.heap.size, 4, none⟩ (.string t.nm)).setCell ⟨w.heap.size, 5, none⟩ (.slice xa t.cnt xc)).cell? ⟨w.heap.size, 2, none⟩ = some (.int .i64 t.vb) := by go_simp
    have g3 : ((((((w2.setCell ⟨w.heap.size, 0, none⟩ (.int .i64 t.op)).setCell ⟨w.heap.size, 1, none⟩ (.int .i64 t.va)).setCell ⟨w.heap.size, 2, none⟩ (.int .i64 t.vb)).setCell ⟨w.heap.size, 3, none⟩ (.int .i64 t.dm)).setCell ⟨w.heap.size, 4, none⟩ (.string t.nm)).setCell ⟨w.heap.size, 5, none⟩ (.slice xa t.cnt xc)).cell? ⟨w.heap.size, 3, none⟩ = some (.int .i64 t.dm) := by go_simp
    have g4 : ((((((w2.setCell ⟨w.heap.size, 0, none⟩ (.int .i64 t.op)).setCell ⟨w.heap.size, 1, none⟩ (.int .i64 t.va)).setCell ⟨w.heap.size, 2, none⟩ (.int .i64 t.vb)).setCell ⟨w.heap.size, 3, none⟩ (.int .i64 t.dm)).setCell ⟨w.heap.size, 4, none⟩ (.string t.nm)).setCell ⟨w.heap.size, 5, none⟩ (.slice xa t.cnt xc)).cell? ⟨w.heap.size, 4, none⟩ = some (.string t.nm) := by go_simp
    have g5 : ((((((w2.setCell ⟨w.heap.size, 0, none⟩ (.int .i64 t.op)).setCell ⟨w.heap.size, 1, none⟩ (.int .i64 t.va)).setCell ⟨w.heap.size, 2, none⟩ (.int .i64 t.vb)).setCell ⟨w.heap.size, 3, none⟩ (.int .i64 t.dm)).setCell ⟨w.heap.size, 4, none⟩ (.string t.nm)).setCell ⟨w.heap.size, 5, none⟩ (.slice xa t.cnt xc)).cell? ⟨w.heap.size, 5, none⟩ = some (.slice xa t.cnt xc) := by go_simp
    have eR : RES = (a, s') := by rw [← hF.out, hgk, HPE.out, if_neg (by simp [hk])]
    rw [eR]
    refine bodyPost_ret (v := .agg #[.int .i64 t.op, .int .i64 t.va, .int .i64 t.vb, .int .i64 t.dm, .string t.nm, .slice xa t.cnt xc]) ?_ rfl ⟨_, _, rfl, kidsB_p6 K2.out (fun q _ hq => ⟨by omega, by omega⟩) _ _ _ _ _ _, hQ.out, hp.1, hp.2⟩
    simp [results, Tryz.results44, go_sem, g0, g1, g2, g3, g4, g5]
   ·skip
    obtain ⟨op7, op18⟩ := opLn_pos (n := nI) hk
    rw [hop] at op7 op18
    have eop : (op == 0) = false := by rw [beq_eq_false_iff_ne]; omega
    have hop2 : 0 ≤ op ∧ op ≤ 100 := ⟨by omega, by omega⟩
    obtain ⟨tt, htt, hi⟩ := bin_some hk
    have hle := hT.len
    have wi : IntKind.i64.wrap ((s'.i : Int) + 1) = (s'.i : Int) + 1 := IntWalk.i64_in _ ⟨by omega, by omega⟩
    obtain ⟨-, hrem⟩ := bin_beh hk
    go_wp2_with fail
    refine BN.out.mono ?_
    rintro e w2 ⟨rfl, h2⟩
    have BR2 := Lib.hid (hBR.out.rel h2)
    have BE2 := Lib.hid (hBE.out.rel h2)
    have K2 := Lib.hid (kidsB_rl hK.out h2)
    have P2 := Lib.hid (hP.out.rel h2)
    have R2 := Lib.hid (hR.out.trans (Ro.of h2))
    have sz2 := Nat.lt_of_lt_of_le hsz h2.size
    have d3 := h2.cell b3
    clear h2
    have u1 := P2.out.c1
    have uf := P2.out.f1
    have ul := P2.out.lt
    have PA := Lib.hid (P2.out.adv hi)
    have RY : Ro b w2 (w2.setCell ⟨b, 1, none⟩ (.int .i64 ((s'.i : Int) + 1))) := (Ro.refl b w2).set 1 _
    have szY : w1.heap.size < (w2.setCell ⟨b, 1, none⟩ (.int .i64 ((s'.i : Int) + 1))).heap.size := by simpa [World.setCell] using sz2
    obtain ⟨Y, hY⟩ : ∃ Y, w2.setCell ⟨b, 1, none⟩ (.int .i64 ((s'.i : Int) + 1)) = Y := ⟨_, rfl⟩
    rw [hY] at PA RY szY
    have BRY := Lib.hid (BR2.out.ro RY hbw)
    have BEY := Lib.hid (BE2.out.ro RY hbe)
    have KY := Lib.hid (kidsB_ro K2.out RY (fun q hq => by have := hP.out.lt; have := HP.out.lt; omega))
    have ROY := Lib.hid (R2.out.trans RY)
    clear RY htt hi
    go_wp2_with fail
    (try rw [hY])
    clear hY u1 uf d3
    refine wp_region_calm (fun M w' => M.getD 8 false = false → BoxAt w' w1.heap.size (.int .i64 t.op) (.int .i64 t.va) (.int .i64 t.vb) (.int .i64 t.dm) (.string t.nm) (.slice xa t.cnt xc)) (fun i => i == 8) [0, 1, 2, 3, 4] 4 (by kernel_rfl) (by kernel_rfl) ?hst ?hS0 (fun w0 h0 => ?_)
    case hst => exact fun _ _ _ h r hM => (h hM).rel r
    case hS0 => exact fun _ => BEY.out
    iterate 5
     refine wpCalm_go rfl (by kernel_rfl) (fun K hK => ?_)
     apply Exists.intro
     refine ⟨fun M w hM hS => ?_, hK _ ?_⟩
     ·have bx := hS (hM 8 (by kernel_rfl))
      have d0 := bx.c0
      have d1 := bx.c1
      have d2 := bx.c2
      have d3 := bx.c3
      have d4 := bx.c4
      have d5 := bx.c5
      unfold calmAt
      go_simp
      exact ⟨rfl, Rel.refl _⟩
     clear hK K
    refine wpCalm_nil ?_
    have kz3 := h0.size
    (try simp only [World.size_alloc, World.size_setCell, World.size_drew] at kz3)
    have H3 := Lib.hid h0
    clear h0
    refine wpAnyR_ready (rs := [5]) (by kernel_rfl) (by simp) (AllR.cons rfl (fun w4 h4 K' hK' => ?_) AllR.nil)
    have kz4 := h4.size
    (try simp only [World.size_alloc, World.size_setCell, World.size_drew] at kz4)
    have H4 := Lib.hid h4
    clear h4
    have T4 := Lib.hid (H3.out.trans H4.out)
    have sz4 := Nat.lt_of_lt_of_le szY T4.out.size
    have P4 := Lib.hid (PA.out.rel T4.out)
    have C5 := Lib.hid (HC2.out g (by omega) w4 s'.adv P4.out (by omega))
    obtain ⟨T5, ht5⟩ : ∃ t, (pe tk g (n + 1) .no s'.adv).1 = t := ⟨_, rfl⟩
    obtain ⟨s5, hs5⟩ : ∃ t, (pe tk g (n + 1) .no s'.adv).2 = t := ⟨_, rfl⟩
    rw [ht5, hs5] at C5
    have b5 := (HBE.out g s'.adv).rem
    rw [hs5] at b5
    have HF5 : Hid (pe tk g (10 + n) (trB op a T5) s5 = RES) := by
     show _ = _
     rw [← hF.out, hgk, HPE.out, if_pos hk, hop, ht5, hs5]
    clear ht5 hs5
    go_simp
    refine C5.out.mono ?_
    rintro e w5 ⟨t5, x5, rfl, hK5, hq5, hP5, h5⟩
    obtain ⟨xa5, xc5, rfl⟩ := kids_slice (kidsB_to hK5)
    have Q5 := Lib.hid hq5
    clear C5 hq5
    have BR5 := Lib.hid ((BRY.out.rel T4.out).ro h5 hbw)
    have BE5 := Lib.hid ((BEY.out.rel T4.out).ro h5 hbe)
    have K5 := Lib.hid (kidsB_ro (kidsB_rl KY.out T4.out) h5 (fun q hq => by have := hP.out.lt; have := HP.out.lt; omega))
    have L5 := Lib.hid (kidsB_mono (Q := fun q => w.heap.size < q ∧ q ≠ w1.heap.size) hK5 (fun q hq hp => ⟨by omega, by omega⟩))
    have P5 := Lib.hid hP5
    have R5 := Lib.hid ((ROY.out.trans (Ro.of T4.out)).trans h5)
    have sz5 := Nat.lt_of_lt_of_le sz4 h5.size
    clear hK5 hP5 h5
    refine hK'.out _ _ (fun _ => BE5.out) ?_
    clear hK' K'
    refine wpAnyR_ready (rs := [6]) (by kernel_rfl) (by simp) (AllR.cons rfl (fun w6 h6 K' hK' => ?_) AllR.nil)
    have kz6 := h6.size
    (try simp only [World.size_alloc, World.size_setCell, World.size_drew] at kz6)
    have H6 := Lib.hid h6
    clear h6
    have sz6 := Nat.lt_of_lt_of_le sz5 H6.out.size
    go_simp
    refine hK'.out _ _ (fun _ => (BE5.out.rel H6.out).rel ((Rel.refl _).alloc _)) ?_
    clear hK' K'
    have TR := Lib.hid (pair_tree (op := op) (W := w6) (T := 29) rfl (P := fun q => w.heap.size < q ∧ q ≠ w1.heap.size) ⟨by omega, by omega⟩ hop2 (kidsB_rl K5.out H6.out) (kidsB_rl L5.out H6.out))
    refine wpAnyR_ready (rs := [7]) (by kernel_rfl) (by simp) (AllR.cons rfl (fun w7 h7 K' hK' => ?_) AllR.nil)
    have T7 := Lib.hid (((H6.out).alloc (.cells #[.int .i64 t.op, .int .i64 t.va, .int .i64 t.vb, .int .i64 t.dm, .string t.nm, .slice xa t.cnt xc, .int .i64 t5.op, .int .i64 t5.va, .int .i64 t5.vb, .int .i64 t5.dm, .string t5.nm, .slice xa5 t5.cnt xc5] 29)).trans h7)
    have TK7 := Lib.hid (kidsB_rl TR.out h7)
    clear h7
    go_simp
    refine hK'.out _ _ (fun _ => BE5.out.rel T7.out) ?_
    clear hK' K'
    refine wpAnyR_ready (rs := [8]) (by kernel_rfl) (by simp) (AllR.cons rfl (fun w8 h8 K' hK' => ?_) AllR.nil)
    have T8 := Lib.hid (T7.out.trans h8)
    have BE8 := Lib.hid (BE5.out.rel T8.out)
    obtain ⟨el, ec0, ec1, ec2, ec3, ec4, ec5, ef0, ef1, ef2, ef3, ef4, ef5⟩ := BE8.out
    have TK8 := Lib.hid (kidsB_rl TK7.out h8)
    clear h8
    go_simp
    refine hK'.out _ _ (fun h => absurd (h.symm.trans (by kernel_rfl : _ = true)) (by simp)) ?_
    clear hK' K'
    refine wpAnyR_end (by kernel_rfl) (fun w9 h9 => ?_)
    (try simp only [Act.put, List.setIfInBounds_toArray, List.set_cons_zero, List.set_cons_succ])
    have P8 := rdr_put6 (P5.out.rel T8.out) HP.out.toks (R5.out.trans (Ro.of T8.out)) (g := w1.heap.size) (by omega) hbe (.int .i64 op) (.int .i64 0) (.int .i64 0) (.int .i64 0) (.string ⟨#[]⟩) (.slice (some ⟨w6.heap.size, 0, none⟩) 2 2)
    have BR9 := Lib.hid ((((((((BR5.out.rel T8.out).other (by omega) 0 (.int .i64 op)).other (by omega) 1 (.int .i64 0)).other (by omega) 2 (.int .i64 0)).other (by omega) 3 (.int .i64 0)).other (by omega) 4 (.string ⟨#[]⟩)).other (by omega) 5 (.slice (some ⟨w6.heap.size, 0, none⟩) 2 2)).rel h9)
    have BE9 := Lib.hid ((BE8.out.put6 (.int .i64 op) (.int .i64 0) (.int .i64 0) (.int .i64 0) (.string ⟨#[]⟩) (.slice (some ⟨w6.heap.size, 0, none⟩) 2 2)).rel h9)
    have K9 := Lib.hid (kidsB_rl (kidsB_p6 TK8.out (g := w1.heap.size) (Q := fun q => w.heap.size < q ∧ q ≠ w1.heap.size) (fun q _ hq => ⟨hq.2, hq⟩) (.int .i64 op) (.int .i64 0) (.int .i64 0) (.int .i64 0) (.string ⟨#[]⟩) (.slice (some ⟨w6.heap.size, 0, none⟩) 2 2)) h9)
    have P9 := Lib.hid (P8.1.rel h9)
    have R9 := Lib.hid (P8.2.trans (Ro.of h9))
    have sz9 : w1.heap.size < w9.heap.size := by have := h9.size; have := T8.out.size; simp [World.setCell] at *; omega
    clear h9 P8 el ec0 ec1 ec2 ec3 ec4 ec5 ef0 ef1 ef2 ef3 ef4 ef5
    go_wp2
    go_roundg g
    case rel => exact ⟨trB op t t5, trB op a T5, some ⟨w6.heap.size, 0, none⟩, 2, s5, by omega, by omega, HF5, (by show _ → _; intro h; rw [Q5.out h, hQ.out HKK.out]), BR9, BE9, K9, P9, R9, sz9⟩
    case measure => omega
set_option maxRecDepth 20000 in
set_option maxHeartbeats 8000000 in
theorem rexpr4_step (b G : Nat) (tk : List Tk) (E : Int) (hT : TksOk tk) (hH : TkHd tk) (f : Nat) (H : ∀ g, g ≤ f → ∀ m, m ≤ 7 → RC b G tk E m g) : RC b G tk E 4 (f + 1) := by
 intro w s hP hf
 have hf' : 10 * rem tk s + 4 ≤ f + 1 := hf
 have HP := Lib.hid hP
 have hlt := hP.lt
 have hbw : w.heap.size ≠ b := by omega

 have HH := Lib.hid H
 by_cases hok : s.ok = true
 rotate_left
 ·have := rexpr_bad b G tk E s 4 w hP (by simpa using hok) (pe tk (f + 1) 4 .no s).1
  have e : pe tk (f + 1) 4 .no s = ((pe tk (f + 1) 4 .no s).1, s) := Prod.ext rfl (pe_bad tk (by simpa using hok) (f + 1) 4 .no (by unfold md; decide))
  rw [e]
  exact this

 have c3 := HP.out.c3
 rw [hok] at c3
 clear hP hf H
 show Calls Tryz.prog 44 #[.pointer (some ⟨b, 0, none⟩), .int .i64 4] w _

 have BR0 := Lib.hid (BoxAt.new (w := w) (g := w.heap.size) rfl (.int .i64 0) (.int .i64 0) (.int .i64 0) (.int .i64 0) (.string ⟨#[]⟩) (.slice none 0 0) 29)
 have P0 := Lib.hid (HP.out.rel ((Rel.refl _).alloc (.cells #[.int .i64 0, .int .i64 0, .int .i64 0, .int .i64 0, .string ⟨#[]⟩, .slice none 0 0] 29)))
 have R0 := Lib.hid ((Ro.refl b w).alloc (.cells #[.int .i64 0, .int .i64 0, .int .i64 0, .int .i64 0, .string ⟨#[]⟩, .slice none 0 0] 29))
 have z0 : w.heap.size + 1 ≤ (w.alloc (.cells #[.int .i64 0, .int .i64 0, .int .i64 0, .int .i64 0, .string ⟨#[]⟩, .slice none 0 0] 29)).heap.size := by simp

 have wn : IntKind.i64.wrap ((4 : Int) + 1) = 5 := by decide
 obtain ⟨T1, ht1⟩ : ∃ t, (pe tk f 5 .no s).1 = t := ⟨_, rfl⟩
 obtain ⟨s1, hs1⟩ : ∃ t, (pe tk f 5 .no s).2 = t := ⟨_, rfl⟩
 have b1 := (pe_beh tk f 5 .no s (by unfold md; decide)).rem
 rw [hs1] at b1
 have C := Lib.hid (show Calls Tryz.prog 44 #[.pointer (some ⟨b, 0, none⟩), .int .i64 5] _ _ from HH.out f (Nat.le_refl _) 5 (by decide) _ s P0.out (show 10 * rem tk s + 3 ≤ f by omega))
 unfold RRes at C
 rw [ht1, hs1] at C
 obtain ⟨RES, hRES⟩ : ∃ r, pe tk (f + 1) 4 .no s = r := ⟨_, rfl⟩
 rw [hRES]
 have hR0 : RES = if binO tk s1 relL = true then (trB (binT tk s1 relL) T1 (pe tk f 5 .no s1.adv).1, (pe tk f 5 .no s1.adv).2) else (T1, s1) := by
  rw [← hRES, pe_4, hs1, ht1]
  split
  ·rfl
  ·exact Prod.ext ht1 hs1
 have HRES := Lib.hid hR0
 have eOL : (opLn 4) = relL := rfl
 clear hRES hR0 ht1 hs1
 unfold RRes
 go_enter Tryz.func44, Tryz.ntmps44
 go_wp2_with fail
 refine C.out.mono ?_
 rintro e w1 ⟨t1, x1, rfl, hK1, hq1, hP1, h1⟩
 obtain ⟨xa1, xc1, rfl⟩ := kids_slice (kidsB_to hK1)
 have Q1 := Lib.hid hq1
 clear C hq1
 have k1 : w.heap.size + 1 ≤ w1.heap.size := by have := h1.size; simpa using this
 have BR1 := Lib.hid ((BR0.out.ro h1 hbw).rel ((Rel.refl _).alloc (.cells #[.int .i64 t1.op, .int .i64 t1.va, .int .i64 t1.vb, .int .i64 t1.dm, .string t1.nm, .slice xa1 t1.cnt xc1] 29)))
 have BE1 := Lib.hid (BoxAt.new (w := w1) (g := w1.heap.size) rfl (.int .i64 t1.op) (.int .i64 t1.va) (.int .i64 t1.vb) (.int .i64 t1.dm) (.string t1.nm) (.slice xa1 t1.cnt xc1) 29)
 have P1 := Lib.hid (hP1.rel ((Rel.refl _).alloc (.cells #[.int .i64 t1.op, .int .i64 t1.va, .int .i64 t1.vb, .int .i64 t1.dm, .string t1.nm, .slice xa1 t1.cnt xc1] 29)))
 have K1 := Lib.hid (kidsB_rl (kidsB_mono (Q := fun q => w.heap.size < q ∧ q ≠ w1.heap.size) hK1 (fun q hq hp => ⟨by simp at hp; omega, by omega⟩)) ((Rel.refl _).alloc (.cells #[.int .i64 t1.op, .int .i64 t1.va, .int .i64 t1.vb, .int .i64 t1.dm, .string t1.nm, .slice xa1 t1.cnt xc1] 29)))
 have R1 := Lib.hid ((((Ro.refl b w).alloc _).trans h1).alloc (.cells #[.int .i64 t1.op, .int .i64 t1.va, .int .i64 t1.vb, .int .i64 t1.dm, .string t1.nm, .slice xa1 t1.cnt xc1] 29))
 have hbe : w1.heap.size ≠ b := by have := hP1.lt; omega
 clear hK1 hP1 h1
 go_wp2_with fail
 go_loopg [] f (fun g wx => ∃ (t : Ex) (xa : Option Addr) (xc : Nat), Hid (Pt.ok s1 = true → t = T1) ∧ Hid (BoxAt wx w.heap.size (.int .i64 0) (.int .i64 0) (.int .i64 0) (.int .i64 0) (.string ⟨#[]⟩) (.slice none 0 0)) ∧ Hid (BoxAt wx w1.heap.size (.int .i64 t.op) (.int .i64 t.va) (.int .i64 t.vb) (.int .i64 t.dm) (.string t.nm) (.slice xa t.cnt xc)) ∧ Hid (ExKidsB (fun q => w.heap.size < q ∧ q ≠ w1.heap.size) t wx (.slice xa t.cnt xc)) ∧ Hid (Rdr wx b G tk E s1) ∧ Hid (Ro b w wx) ∧ w1.heap.size < wx.heap.size)
 case atStart => exact ⟨t1, xa1, xc1, Q1, BR1, BE1, K1, P1, R1, by simp⟩
 case round =>
  obtain ⟨t, xa, xc, hQ, hBR, hBE, hK, hP, hR, hsz⟩ := hrel
  have b3 := hP.out.c3
  obtain ⟨kk, hkk⟩ : ∃ k, s1.ok = k := ⟨_, rfl⟩
  rw [hkk] at b3
  cases kk
  ·skip
   have Pr := hP
   have Rr := hR
   have BRr := hBR
   have BEr := hBE
   have Kr := hK
   have HKK := Lib.hid hkk
   obtain ⟨el, ec0, ec1, ec2, ec3, ec4, ec5, ef0, ef1, ef2, ef3, ef4, ef5⟩ := BEr.out
   obtain ⟨rl, rc0, rc1, rc2, rc3, rc4, rc5, rf0, rf1, rf2, rf3, rf4, rf5⟩ := BRr.out
   ((try simp only []); (repeat (first | go_values | go_skip | go_guarded | go_step | go_upon | go_in)))
   have hp := rdr_put6 Pr.out HP.out.toks Rr.out (Nat.le_refl w.heap.size) hbw (.int .i64 t.op) (.int .i64 t.va) (.int .i64 t.vb) (.int .i64 t.dm) (.string t.nm) (.slice xa t.cnt xc)
   have g0 : ((((((wr.setCell ⟨w.heap.size, 0, none⟩ (.int .i64 t.op)).setCell ⟨w.heap.size, 1, none⟩ (.int .i64 t.va)).setCell ⟨w.heap.size, 2, none⟩ (.int .i64 t.vb)).setCell ⟨w.heap.size, 3, none⟩ (.int .i64 t.dm)).setCell ⟨w.heap.size, 4, none⟩ (.string t.nm)).setCell ⟨w.heap.size, 5, none⟩ (.slice xa t.cnt xc)).cell? ⟨w.heap.size, 0, none⟩ = some (.int .i64 t.op) := by go_simp
   have g1 : ((((((wr.setCell ⟨w.heap.size, 0, none⟩ (.int .i64 t.op)).setCell ⟨w.heap.size, 1, none⟩ (.int .i64 t.va)).setCell ⟨w.heap.size, 2, none⟩ (.int .i64 t.vb)).setCell ⟨w.heap.size, 3, none⟩ (.int .i64 t.dm)).setCell ⟨w.heap.size, 4, none⟩ (.string t.nm)).setCell ⟨w.heap.size, 5, none⟩ (.slice xa t.cnt xc)).cell? ⟨w.heap.size, 1, none⟩ = some (.int .i64 t.va) := by go_simp
   have g2 : ((((((wr.setCell ⟨w.heap.size, 0, none⟩ (.int .i64 t.op)).setCell ⟨w.heap.size, 1, none⟩ (.int .i64 t.va)).setCell ⟨w.heap.size, 2, none⟩ (.int .i64 t.vb)).setCell ⟨w.heap.size, 3, none⟩ (.int .i64 t.dm)).setCell ⟨w.heap.size, 4, none⟩ (.string t.nm)).setCell ⟨w.heap.size, 5, none⟩ (.slice xa t.cnt xc)).cell? ⟨w.heap.size, 2, none⟩ = some (.int .i64 t.vb) := by go_simp
   have g3 : ((((((wr.setCell ⟨w.heap.size, 0, none⟩ (.int .i64 t.op)).setCell ⟨w.heap.size, 1, none⟩ (.int .i64 t.va)).setCell ⟨w.heap.size, 2, none⟩ (.int .i64 t.vb)).setCell ⟨w.heap.size, 3, none⟩ (.int .i64 t.dm)).setCell ⟨w.heap.size, 4, none⟩ (.string t.nm)).setCell ⟨w.heap.size, 5, none⟩ (.slice xa t.cnt xc)).cell? ⟨w.heap.size, 3, none⟩ = some (.int .i64 t.dm) := by go_simp
   have g4 : ((((((wr.setCell ⟨w.heap.size, 0, none⟩ (.int .i64 t.op)).setCell ⟨w.heap.size, 1, none⟩ (.int .i64 t.va)).setCell ⟨w.heap.size, 2, none⟩ (.int .i64 t.vb)).setCell ⟨w.heap.size, 3, none⟩ (.int .i64 t.dm)).setCell ⟨w.heap.size, 4, none⟩ (.string t.nm)).setCell ⟨w.heap.size, 5, none⟩ (.slice xa t.cnt xc)).cell? ⟨w.heap.size, 4, none⟩ = some (.string t.nm) := by go_simp
   have g5 : ((((((wr.setCell ⟨w.heap.size, 0, none⟩ (.int .i64 t.op)).setCell ⟨w.heap.size, 1, none⟩ (.int .i64 t.va)).setCell ⟨w.heap.size, 2, none⟩ (.int .i64 t.vb)).setCell ⟨w.heap.size, 3, none⟩ (.int .i64 t.dm)).setCell ⟨w.heap.size, 4, none⟩ (.string t.nm)).setCell ⟨w.heap.size, 5, none⟩ (.slice xa t.cnt xc)).cell? ⟨w.heap.size, 5, none⟩ = some (.slice xa t.cnt xc) := by go_simp
   have eR : RES.2 = s1 := by rw [HRES.out, if_neg (by simp [bin_bad hkk])]
   rw [eR]
   refine bodyPost_ret (v := .agg #[.int .i64 t.op, .int .i64 t.va, .int .i64 t.vb, .int .i64 t.dm, .string t.nm, .slice xa t.cnt xc]) ?_ rfl ⟨_, _, rfl, kidsB_p6 Kr.out (fun q _ hq => ⟨by omega, by omega⟩) _ _ _ _ _ _, (fun h => by rw [hkk] at h; cases h), hp.1, hp.2⟩
   simp [results, Tryz.results44, go_sem, g0, g1, g2, g3, g4, g5]
  ·have HKK := Lib.hid hkk
   clear hkk
   have BN := Lib.hid (rbin_any b G tk E 4 s1 wr hP.out hT hH)
   unfold RInt at BN
   rw [eOL] at BN
   obtain ⟨op, hop⟩ : ∃ op, binT tk s1 relL = op := ⟨_, rfl⟩
   obtain ⟨k, hk⟩ : ∃ k, binO tk s1 relL = k := ⟨_, rfl⟩
   rw [hop] at BN
   cases k
   ·skip
    have hop0 : op = 0 := by rw [← hop]; exact opLn_zero (n := 4) (tk := tk) (s := s1) hk
    subst hop0
    go_wp2_with fail
    refine BN.out.mono ?_
    rintro e w2 ⟨rfl, h2⟩
    have BR2 := Lib.hid (hBR.out.rel h2)
    have BE2 := Lib.hid (hBE.out.rel h2)
    have K2 := Lib.hid (kidsB_rl hK.out h2)
    have P2 := Lib.hid (hP.out.rel h2)
    have R2 := Lib.hid (hR.out.trans (Ro.of h2))
    have sz2 := Nat.lt_of_lt_of_le hsz h2.size
    have d3 := h2.cell b3
    clear h2
    obtain ⟨el, ec0, ec1, ec2, ec3, ec4, ec5, ef0, ef1, ef2, ef3, ef4, ef5⟩ := BE2.out
    obtain ⟨rl, rc0, rc1, rc2, rc3, rc4, rc5, rf0, rf1, rf2, rf3, rf4, rf5⟩ := BR2.out
    ((try simp only []); (repeat (first | go_values | go_skip | go_guarded | go_step | go_upon | go_in)))
    have hp := rdr_put6 P2.out HP.out.toks R2.out (Nat.le_refl w.heap.size) hbw (.int .i64 t.op) (.int .i64 t.va) (.int .i64 t.vb) (.int .i64 t.dm) (.string t.nm) (.slice xa t.cnt xc)
    have g0 : ((((((w2.setCell ⟨w.heap.size, 0, none⟩ (.int .i64 t.op)).setCell ⟨w.heap.size, 1, none⟩ (.int .i64 t.va)).setCell ⟨w.heap.size, 2, none⟩ (.int .i64 t.vb)).setCell ⟨w.heap.size, 3, none⟩ (.int .i64 t.dm)).setCell ⟨w.heap.size, 4, none⟩ (.string t.nm)).setCell ⟨w.heap.size, 5, none⟩ (.slice xa t.cnt xc)).cell? ⟨w.heap.size, 0, none⟩ = some (.int .i64 t.op) := by go_simp
    have g1 : ((((((w2.setCell ⟨w.heap.size, 0, none⟩ (.int .i64 t.op)).setCell ⟨w.heap.size, 1, none⟩ (.int .i64 t.va)).setCell ⟨w.heap.size, 2, none⟩ (.int .i64 t.vb)).setCell ⟨w.heap.size, 3, none⟩ (.int .i64 t.dm)).setCell ⟨w.heap.size, 4, none⟩ (.string t.nm)).setCell ⟨w.heap.size, 5, none⟩ (.slice xa t.cnt xc)).cell? ⟨w.heap.size, 1, none⟩ = some (.int .i64 t.va) := by go_simp
    have g2 : ((((((w2.setCell ⟨w.heap.size, 0, none⟩ (.int .i64 t.op)).setCell ⟨w.heap.size, 1, none⟩ (.int .i64 t.va)).setCell ⟨w.heap.size, 2, none⟩ (.int .i64 t.vb)).setCell ⟨w.heap.size, 3, none⟩ (.int .i64 t.dm)).setCell ⟨w.heap.size, 4, none⟩ (.string t.nm)).setCell ⟨w.heap.size, 5, none⟩ (.slice xa t.cnt xc)).cell? ⟨w.heap.size, 2, none⟩ = some (.int .i64 t.vb) := by go_simp
    have g3 : ((((((w2.setCell ⟨w.heap.size, 0, none⟩ (.int .i64 t.op)).setCell ⟨w.heap.size, 1, none⟩ (.int .i64 t.va)).setCell ⟨w.heap.size, 2, none⟩ (.int .i64 t.vb)).setCell ⟨w.heap.size, 3, none⟩ (.int .i64 t.dm)).setCell ⟨w.heap.size, 4, none⟩ (.string t.nm)).setCell ⟨w.heap.size, 5, none⟩ (.slice xa t.cnt xc)).cell? ⟨w.heap.size, 3, none⟩ = some (.int .i64 t.dm) := by go_simp
    have g4 : ((((((w2.setCell ⟨w.heap.size, 0, none⟩ (.int .i64 t.op)).setCell ⟨w.heap.size, 1, none⟩ (.int .i64 t.va)).setCell ⟨w.heap.size, 2, none⟩ (.int .i64 t.vb)).setCell ⟨w.heap.size, 3, none⟩ (.int .i64 t.dm)).setCell ⟨w.heap.size, 4, none⟩ (.string t.nm)).setCell ⟨w.heap.size, 5, none⟩ (.slice xa t.cnt xc)).cell? ⟨w.heap.size, 4, none⟩ = some (.string t.nm) := by go_simp
    have g5 : ((((((w2.setCell ⟨w.heap.size, 0, none⟩ (.int .i64 t.op)).setCell ⟨w.heap.size, 1, none⟩ (.int .i64 t.va)).setCell ⟨w.heap.size, 2, none⟩ (.int .i64 t.vb)).setCell ⟨w.heap.size, 3, none⟩ (.int .i64 t.dm)).setCell ⟨w.heap.size, 4, none⟩ (.string t.nm)).setCell ⟨w.heap.size, 5, none⟩ (.slice xa t.cnt xc)).cell? ⟨w.heap.size, 5, none⟩ = some (.slice xa t.cnt xc) := by go_simp
    have eR : RES = (T1, s1) := by rw [HRES.out, if_neg (by simp [hk])]
    rw [eR]
    refine bodyPost_ret (v := .agg #[.int .i64 t.op, .int .i64 t.va, .int .i64 t.vb, .int .i64 t.dm, .string t.nm, .slice xa t.cnt xc]) ?_ rfl ⟨_, _, rfl, kidsB_p6 K2.out (fun q _ hq => ⟨by omega, by omega⟩) _ _ _ _ _ _, hQ.out, hp.1, hp.2⟩
    simp [results, Tryz.results44, go_sem, g0, g1, g2, g3, g4, g5]
   ·skip
    obtain ⟨op7, op18⟩ := opLn_pos (n := 4) hk
    rw [show binT tk s1 (opLn 4) = op from hop] at op7 op18
    have eop : (op == 0) = false := by rw [beq_eq_false_iff_ne]; omega
    have hop2 : 0 ≤ op ∧ op ≤ 100 := ⟨by omega, by omega⟩
    obtain ⟨tt, htt, hi⟩ := bin_some hk
    have hle := hT.len
    have wi : IntKind.i64.wrap ((s1.i : Int) + 1) = (s1.i : Int) + 1 := IntWalk.i64_in _ ⟨by omega, by omega⟩
    obtain ⟨-, hrem⟩ := bin_beh hk
    go_wp2_with fail
    refine BN.out.mono ?_
    rintro e w2 ⟨rfl, h2⟩
    have BR2 := Lib.hid (hBR.out.rel h2)
    have BE2 := Lib.hid (hBE.out.rel h2)
    have K2 := Lib.hid (kidsB_rl hK.out h2)
    have P2 := Lib.hid (hP.out.rel h2)
    have R2 := Lib.hid (hR.out.trans (Ro.of h2))
    have sz2 := Nat.lt_of_lt_of_le hsz h2.size
    have d3 := h2.cell b3
    clear h2
    have u1 := P2.out.c1
    have uf := P2.out.f1
    have ul := P2.out.lt
    have PA := Lib.hid (P2.out.adv hi)
    have RY : Ro b w2 (w2.setCell ⟨b, 1, none⟩ (.int .i64 ((s1.i : Int) + 1))) := (Ro.refl b w2).set 1 _
    have szY : w1.heap.size < (w2.setCell ⟨b, 1, none⟩ (.int .i64 ((s1.i : Int) + 1))).heap.size := by simpa [World.setCell] using sz2
    obtain ⟨Y, hY⟩ : ∃ Y, w2.setCell ⟨b, 1, none⟩ (.int .i64 ((s1.i : Int) + 1)) = Y := ⟨_, rfl⟩
    rw [hY] at PA RY szY
    have BRY := Lib.hid (BR2.out.ro RY hbw)
    have BEY := Lib.hid (BE2.out.ro RY hbe)
    have KY := Lib.hid (kidsB_ro K2.out RY (fun q hq => by have := hP.out.lt; have := HP.out.lt; omega))
    have ROY := Lib.hid (R2.out.trans RY)
    clear RY htt hi
    go_wp2_with fail
    (try rw [hY])
    clear hY u1 uf d3
    refine wp_region_calm (fun M w' => M.getD 8 false = false → BoxAt w' w1.heap.size (.int .i64 t.op) (.int .i64 t.va) (.int .i64 t.vb) (.int .i64 t.dm) (.string t.nm) (.slice xa t.cnt xc)) (fun i => i == 8) [0, 1, 2, 3, 4] 4 (by kernel_rfl) (by kernel_rfl) ?hst ?hS0 (fun w0 h0 => ?_)
    case hst => exact fun _ _ _ h r hM => (h hM).rel r
    case hS0 => exact fun _ => BEY.out
    iterate 5
     refine wpCalm_go rfl (by kernel_rfl) (fun K hK => ?_)
     apply Exists.intro
     refine ⟨fun M w hM hS => ?_, hK _ ?_⟩
     ·have bx := hS (hM 8 (by kernel_rfl))
      have d0 := bx.c0
      have d1 := bx.c1
      have d2 := bx.c2
      have d3 := bx.c3
      have d4 := bx.c4
      have d5 := bx.c5
      unfold calmAt
      go_simp
      exact ⟨rfl, Rel.refl _⟩
     clear hK K
    refine wpCalm_nil ?_
    have kz3 := h0.size
    (try simp only [World.size_alloc, World.size_setCell, World.size_drew] at kz3)
    have H3 := Lib.hid h0
    clear h0
    refine wpAnyR_ready (rs := [5]) (by kernel_rfl) (by simp) (AllR.cons rfl (fun w4 h4 K' hK' => ?_) AllR.nil)
    have kz4 := h4.size
    (try simp only [World.size_alloc, World.size_setCell, World.size_drew] at kz4)
    have H4 := Lib.hid h4
    clear h4
    have T4 := Lib.hid (H3.out.trans H4.out)
    have sz4 := Nat.lt_of_lt_of_le szY T4.out.size
    have P4 := Lib.hid (PA.out.rel T4.out)
    have C5 := Lib.hid (show Calls Tryz.prog 44 #[.pointer (some ⟨b, 0, none⟩), .int .i64 5] w4 _ from HH.out f (Nat.le_refl _) 5 (by decide) w4 s1.adv P4.out (show 10 * rem tk s1.adv + 3 ≤ f by omega))
    unfold RRes at C5
    obtain ⟨T5, ht5⟩ : ∃ t, (pe tk f 5 .no s1.adv).1 = t := ⟨_, rfl⟩
    obtain ⟨s5, hs5⟩ : ∃ t, (pe tk f 5 .no s1.adv).2 = t := ⟨_, rfl⟩
    rw [ht5, hs5] at C5
    have HR5 : Hid (RES = (trB op T1 T5, s5)) := by
     show _ = _
     rw [HRES.out, if_pos hk, hop, ht5, hs5]
    clear ht5 hs5
    go_simp
    refine C5.out.mono ?_
    rintro e w5 ⟨t5, x5, rfl, hK5, hq5, hP5, h5⟩
    obtain ⟨xa5, xc5, rfl⟩ := kids_slice (kidsB_to hK5)
    have Q5 := Lib.hid hq5
    clear C5 hq5
    have BR5 := Lib.hid ((BRY.out.rel T4.out).ro h5 hbw)
    have BE5 := Lib.hid ((BEY.out.rel T4.out).ro h5 hbe)
    have K5 := Lib.hid (kidsB_ro (kidsB_rl KY.out T4.out) h5 (fun q hq => by have := hP.out.lt; have := HP.out.lt; omega))
    have L5 := Lib.hid (kidsB_mono (Q := fun q => w.heap.size < q ∧ q ≠ w1.heap.size) hK5 (fun q hq hp => ⟨by omega, by omega⟩))
    have P5 := Lib.hid hP5
    have R5 := Lib.hid ((ROY.out.trans (Ro.of T4.out)).trans h5)
    have sz5 := Nat.lt_of_lt_of_le sz4 h5.size
    clear hK5 hP5 h5
    refine hK'.out _ _ (fun _ => BE5.out) ?_
    clear hK' K'
    refine wpAnyR_ready (rs := [6]) (by kernel_rfl) (by simp) (AllR.cons rfl (fun w6 h6 K' hK' => ?_) AllR.nil)
    have kz6 := h6.size
    (try simp only [World.size_alloc, World.size_setCell, World.size_drew] at kz6)
    have H6 := Lib.hid h6
    clear h6
    have sz6 := Nat.lt_of_lt_of_le sz5 H6.out.size
    go_simp
    refine hK'.out _ _ (fun _ => (BE5.out.rel H6.out).rel ((Rel.refl _).alloc _)) ?_
    clear hK' K'
    have TR := Lib.hid (pair_tree (op := op) (W := w6) (T := 29) rfl (P := fun q => w.heap.size < q ∧ q ≠ w1.heap.size) ⟨by omega, by omega⟩ hop2 (kidsB_rl K5.out H6.out) (kidsB_rl L5.out H6.out))
    refine wpAnyR_ready (rs := [7]) (by kernel_rfl) (by simp) (AllR.cons rfl (fun w7 h7 K' hK' => ?_) AllR.nil)
    have T7 := Lib.hid (((H6.out).alloc (.cells #[.int .i64 t.op, .int .i64 t.va, .int .i64 t.vb, .int .i64 t.dm, .string t.nm, .slice xa t.cnt xc, .int .i64 t5.op, .int .i64 t5.va, .int .i64 t5.vb, .int .i64 t5.dm, .string t5.nm, .slice xa5 t5.cnt xc5] 29)).trans h7)
    have TK7 := Lib.hid (kidsB_rl TR.out h7)
    clear h7
    go_simp
    refine hK'.out _ _ (fun _ => BE5.out.rel T7.out) ?_
    clear hK' K'
    refine wpAnyR_ready (rs := [8]) (by kernel_rfl) (by simp) (AllR.cons rfl (fun w8 h8 K' hK' => ?_) AllR.nil)
    have T8 := Lib.hid (T7.out.trans h8)
    have BE8 := Lib.hid (BE5.out.rel T8.out)
    obtain ⟨el, ec0, ec1, ec2, ec3, ec4, ec5, ef0, ef1, ef2, ef3, ef4, ef5⟩ := BE8.out
    have TK8 := Lib.hid (kidsB_rl TK7.out h8)
    clear h8
    go_simp
    refine hK'.out _ _ (fun h => absurd (h.symm.trans (by kernel_rfl : _ = true)) (by simp)) ?_
    clear hK' K'
    refine wpAnyR_end (by kernel_rfl) (fun w9 h9 => ?_)
    (try simp only [Act.put, List.setIfInBounds_toArray, List.set_cons_zero, List.set_cons_succ])
    have P8 := rdr_put6 (P5.out.rel T8.out) HP.out.toks (R5.out.trans (Ro.of T8.out)) (g := w1.heap.size) (by omega) hbe (.int .i64 op) (.int .i64 0) (.int .i64 0) (.int .i64 0) (.string ⟨#[]⟩) (.slice (some ⟨w6.heap.size, 0, none⟩) 2 2)
    have BR9 := Lib.hid ((((((((BR5.out.rel T8.out).other (by omega) 0 (.int .i64 op)).other (by omega) 1 (.int .i64 0)).other (by omega) 2 (.int .i64 0)).other (by omega) 3 (.int .i64 0)).other (by omega) 4 (.string ⟨#[]⟩)).other (by omega) 5 (.slice (some ⟨w6.heap.size, 0, none⟩) 2 2)).rel h9)
    have BE9 := Lib.hid ((BE8.out.put6 (.int .i64 op) (.int .i64 0) (.int .i64 0) (.int .i64 0) (.string ⟨#[]⟩) (.slice (some ⟨w6.heap.size, 0, none⟩) 2 2)).rel h9)
    have K9 := Lib.hid (kidsB_rl (kidsB_p6 TK8.out (g := w1.heap.size) (Q := fun q => w.heap.size < q ∧ q ≠ w1.heap.size) (fun q _ hq => ⟨hq.2, hq⟩) (.int .i64 op) (.int .i64 0) (.int .i64 0) (.int .i64 0) (.string ⟨#[]⟩) (.slice (some ⟨w6.heap.size, 0, none⟩) 2 2)) h9)
    have P9 := Lib.hid (P8.1.rel h9)
    have R9 := Lib.hid (P8.2.trans (Ro.of h9))
    have sz9 : w1.heap.size < w9.heap.size := by have := h9.size; have := T8.out.size; simp [World.setCell] at *; omega
    clear h9 P8 el ec0 ec1 ec2 ec3 ec4 ec5 ef0 ef1 ef2 ef3 ef4 ef5
    obtain ⟨el, ec0, ec1, ec2, ec3, ec4, ec5, ef0, ef1, ef2, ef3, ef4, ef5⟩ := BE9.out
    obtain ⟨rl, rc0, rc1, rc2, rc3, rc4, rc5, rf0, rf1, rf2, rf3, rf4, rf5⟩ := BR9.out
    ((try simp only []); (repeat (first | go_values | go_skip | go_guarded | go_step | go_upon | go_in)))
    have hp := rdr_put6 P9.out HP.out.toks R9.out (Nat.le_refl w.heap.size) hbw (.int .i64 op) (.int .i64 0) (.int .i64 0) (.int .i64 0) (.string ⟨#[]⟩) (.slice (some ⟨w6.heap.size, 0, none⟩) 2 2)
    have g0 : ((((((w9.setCell ⟨w.heap.size, 0, none⟩ (.int .i64 op)).setCell ⟨w.heap.size, 1, none⟩ (.int .i64 0)).setCell ⟨w.heap.size, 2, none⟩ (.int .i64 0)).setCell ⟨w.heap.size, 3, none⟩ (.int .i64 0)).setCell ⟨w.heap.size, 4, none⟩ (.string ⟨#[]⟩)).setCell ⟨w.heap.size, 5, none⟩ (.slice (some ⟨w6.heap.size, 0, none⟩) 2 2)).cell? ⟨w.heap.size, 0, none⟩ = some (.int .i64 op) := by go_simp
    have g1 : ((((((w9.setCell ⟨w.heap.size, 0, none⟩ (.int .i64 op)).setCell ⟨w.heap.size, 1, none⟩ (.int .i64 0)).setCell ⟨w.heap.size, 2, none⟩ (.int .i64 0)).setCell ⟨w.heap.size, 3, none⟩ (.int .i64 0)).setCell ⟨w.heap.size, 4, none⟩ (.string ⟨#[]⟩)).setCell ⟨w.heap.size, 5, none⟩ (.slice (some ⟨w6.heap.size, 0, none⟩) 2 2)).cell? ⟨w.heap.size, 1, none⟩ = some (.int .i64 0) := by go_simp
    have g2 : ((((((w9.setCell ⟨w.heap.size, 0, none⟩ (.int .i64 op)).setCell ⟨w.heap.size, 1, none⟩ (.int .i64 0)).setCell ⟨w.heap.size, 2, none⟩ (.int .i64 0)).setCell ⟨w.heap.size, 3, none⟩ (.int .i64 0)).setCell ⟨w.heap.size, 4, none⟩ (.string ⟨#[]⟩)).setCell ⟨w.heap.size, 5, none⟩ (.slice (some ⟨w6.heap.size, 0, none⟩) 2 2)).cell? ⟨w.heap.size, 2, none⟩ = some (.int .i64 0) := by go_simp
    have g3 : ((((((w9.setCell ⟨w.heap.size, 0, none⟩ (.int .i64 op)).setCell ⟨w.heap.size, 1, none⟩ (.int .i64 0)).setCell ⟨w.heap.size, 2, none⟩ (.int .i64 0)).setCell ⟨w.heap.size, 3, none⟩ (.int .i64 0)).setCell ⟨w.heap.size, 4, none⟩ (.string ⟨#[]⟩)).setCell ⟨w.heap.size, 5, none⟩ (.slice (some ⟨w6.heap.size, 0, none⟩) 2 2)).cell? ⟨w.heap.size, 3, none⟩ = some (.int .i64 0) := by go_simp
    have g4 : ((((((w9.setCell ⟨w.heap.size, 0, none⟩ (.int .i64 op)).setCell ⟨w.heap.size, 1, none⟩ (.int .i64 0)).setCell ⟨w.heap.size, 2, none⟩ (.int .i64 0)).setCell ⟨w.heap.size, 3, none⟩ (.int .i64 0)).setCell ⟨w.heap.size, 4, none⟩ (.string ⟨#[]⟩)).setCell ⟨w.heap.size, 5, none⟩ (.slice (some ⟨w6.heap.size, 0, none⟩) 2 2)).cell? ⟨w.heap.size, 4, none⟩ = some (.string ⟨#[]⟩) := by go_simp
    have g5 : ((((((w9.setCell ⟨w.heap.size, 0, none⟩ (.int .i64 op)).setCell ⟨w.heap.size, 1, none⟩ (.int .i64 0)).setCell ⟨w.heap.size, 2, none⟩ (.int .i64 0)).setCell ⟨w.heap.size, 3, none⟩ (.int .i64 0)).setCell ⟨w.heap.size, 4, none⟩ (.string ⟨#[]⟩)).setCell ⟨w.heap.size, 5, none⟩ (.slice (some ⟨w6.heap.size, 0, none⟩) 2 2)).cell? ⟨w.heap.size, 5, none⟩ = some (.slice (some ⟨w6.heap.size, 0, none⟩) 2 2) := by go_simp
    rw [HR5.out]
    refine bodyPost_ret (v := .agg #[.int .i64 op, .int .i64 0, .int .i64 0, .int .i64 0, .string ⟨#[]⟩, .slice (some ⟨w6.heap.size, 0, none⟩) 2 2]) ?_ rfl ⟨trB op t t5, _, rfl, kidsB_p6 K9.out (fun q _ hq => ⟨by omega, by omega⟩) _ _ _ _ _ _, (fun h => by rw [Q5.out h, hQ.out HKK.out]), hp.1, hp.2⟩
    simp [results, Tryz.results44, go_sem, g0, g1, g2, g3, g4, g5]
end Go.Proofs.YtkghmghjgikihaaGreatDoor

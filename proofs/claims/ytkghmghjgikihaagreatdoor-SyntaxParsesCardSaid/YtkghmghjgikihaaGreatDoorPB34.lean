/- Bundle of texts: each says at its head what it proves; no conditions but those printed. -/
import Derived.Test.YtkghmghjgikihaaGreatDoorPB33
import Derived.Test.YtkghmghjgikihaaGreatDoorPB13
/- The reference's call, by fuel. No conditions but those printed. -/
namespace Go.Proofs.YtkghmghjgikihaaGreatDoor
open Go.RowKit Cal Str Tok Frac Txt Tree
attribute [local go_sem] calmUpon
set_option linter.unusedVariables false
set_option linter.unusedSimpArgs false
theorem BoxAt.put5 {W : World} {g : Nat} {v0 v1 v2 v3 v4 v5 : Value} (h : BoxAt W g v0 v1 v2 v3 v4 v5) (u : Value) : BoxAt (W.setCell ⟨g, 5, none⟩ u) g v0 v1 v2 v3 v4 u := by
 have o : ∀ {j : Nat}, ¬ j = 5 → (W.setCell ⟨g, 5, none⟩ u).cell? ⟨g, j, none⟩ = W.cell? ⟨g, j, none⟩ := fun hne => World.cell?_setCell_other _ _ _ _ (by intro e; injection e; omega)
 refine ⟨by simpa [World.setCell] using h.lt, (o (by decide)).trans h.c0, (o (by decide)).trans h.c1, (o (by decide)).trans h.c2, (o (by decide)).trans h.c3, (o (by decide)).trans h.c4, World.cell?_setCell_same _ _ _ h.c5, ?_, ?_, ?_, ?_, ?_, ?_⟩
 all_goals simp only [World.frozen?_setCell]
 ·exact h.f0
 ·exact h.f1
 ·exact h.f2
 ·exact h.f3
 ·exact h.f4
 ·exact h.f5
theorem kidsB_p1 {P Q : Nat → Prop} {t : Ex} {w : World} {x : Value} (h : ExKidsB P t w x) {g i : Nat} (hg : ∀ q, q < w.heap.size → P q → q ≠ g ∧ Q q) (v : Value) : ExKidsB Q t (w.setCell ⟨g, i, none⟩ v) x :=
 kidsB_keep (by simp [World.setCell]) (fun q hq hp => ⟨Below.heap_setCell _ _ _ _ (hg q hq hp).1, (hg q hq hp).2⟩) h
set_option maxRecDepth 20000 in
set_option maxHeartbeats 8000000 in
theorem rcall6 (b G : Nat) (tk : List Tk) (E : Int) (hT : TksOk tk) (hH : TkHd tk) (f : Nat) (H : ∀ g, g ≤ f → ∀ m, m ≤ 7 → RC b G tk E m g) (w : World) (s : Pt) (hP : Rdr w b G tk E s) (hi : s.i < tk.length) (hrem : rem tk s.adv + 1 ≤ rem tk s) (hf' : 10 * rem tk s + 1 ≤ f + 1) :
  Calls Tryz.prog 156 #[.pointer (some ⟨b, 0, none⟩), .int .i64 6] w (RRes b G tk E (trU 6 (pe tk f 0 .no (expP tk kOpen s.adv)).1, expP tk kShut (pe tk f 0 .no (expP tk kOpen s.adv)).2) w) := by
 have HP := Lib.hid hP
 have hlt := hP.lt
 have hbw : w.heap.size ≠ b := by omega
 have HH := Lib.hid H
 have hle := hT.len
 have wi : IntKind.i64.wrap ((s.i : Int) + 1) = (s.i : Int) + 1 := IntWalk.i64_in _ ⟨by omega, by omega⟩
 have AR := Lib.hid fun w => Args_any 6 w
 rw [show arI 6 = 1 from rfl] at AR
 clear hP H

 have BR0 := Lib.hid (BoxAt.new (w := w) (g := w.heap.size) rfl (.int .i64 0) (.int .i64 0) (.int .i64 0) (.int .i64 0) (.string ⟨#[]⟩) (.slice none 0 0) 29)
 have P0 := Lib.hid (HP.out.rel ((Rel.refl _).alloc (.cells #[.int .i64 0, .int .i64 0, .int .i64 0, .int .i64 0, .string ⟨#[]⟩, .slice none 0 0] 29)))
 have R0 := Lib.hid ((Ro.refl b w).alloc (.cells #[.int .i64 0, .int .i64 0, .int .i64 0, .int .i64 0, .string ⟨#[]⟩, .slice none 0 0] 29))
 have z0 : w.heap.size + 1 ≤ (w.alloc (.cells #[.int .i64 0, .int .i64 0, .int .i64 0, .int .i64 0, .string ⟨#[]⟩, .slice none 0 0] 29)).heap.size := by simp
 have e1 := (exp_beh tk kOpen s.adv).rem

 obtain ⟨T3, ht3⟩ : ∃ t, (pe tk f 0 .no (expP tk kOpen s.adv)).1 = t := ⟨_, rfl⟩
 obtain ⟨s3, hs3⟩ : ∃ t, (pe tk f 0 .no (expP tk kOpen s.adv)).2 = t := ⟨_, rfl⟩
 (try rw [ht3])
 (try rw [hs3])
 have b3 := (pe_beh tk f 0 .no (expP tk kOpen s.adv) (by unfold md; decide)).rem
 rw [hs3] at b3
 have U3 : Hid (s3.ok = true → Pt.ok (expP tk kOpen s.adv) = true) := by
  show _ → _
  rw [← hs3]; exact (pe_beh tk f 0 .no (expP tk kOpen s.adv) (by unfold md; decide)).2.1
 have Ht3 := Lib.hid ht3
 have Hs3 := Lib.hid hs3
 clear ht3 hs3
 have uS := (exp_beh tk kShut s3).2.1

 have u1 := P0.out.c1
 have uf := P0.out.f1
 have ul := P0.out.lt
 have v1 := HP.out.c1
 have vf := HP.out.f1
 have hP1 := P0.out.adv hi
 have h1 : Ro b (w.alloc (.cells #[.int .i64 0, .int .i64 0, .int .i64 0, .int .i64 0, .string ⟨#[]⟩, .slice none 0 0] 29)) ((w.alloc (.cells #[.int .i64 0, .int .i64 0, .int .i64 0, .int .i64 0, .string ⟨#[]⟩, .slice none 0 0] 29)).setCell ⟨b, 1, none⟩ (.int .i64 ((s.i : Int) + 1))) := (Ro.refl b _).set 1 _
 obtain ⟨w1, hw1⟩ : ∃ Y, (w.alloc (.cells #[.int .i64 0, .int .i64 0, .int .i64 0, .int .i64 0, .string ⟨#[]⟩, .slice none 0 0] 29)).setCell ⟨b, 1, none⟩ (.int .i64 ((s.i : Int) + 1)) = Y := ⟨_, rfl⟩
 rw [hw1] at hP1 h1
 have P1 := Lib.hid (hP1)
 have R1 := Lib.hid (R0.out.trans h1)
 have BR1 := Lib.hid (BR0.out.ro h1 hbw)
 have y1 : w.heap.size + 1 ≤ w1.heap.size := Nat.le_trans z0 h1.size
 have z1 := y1
 have HW1 := Lib.hid hw1
 clear hP1 h1
 (try unfold RRes)
 go_enter Tryz.func156, Tryz.ntmps156
 go_wp2_with fail
 (try rw [HW1.out])
 clear hw1 HW1 u1 uf v1 vf

 have X := Lib.hid (rwant_any b G tk E s.adv ⟨#[40]⟩ _ P1.out (txOk_of hH hT (by decide)) hT.len)
 have eK : (⟨#[40]⟩ : ByteArray).data.toList = kOpen := rfl
 rw [eK] at X
 clear eK
 go_wp2_with fail
 refine X.out.mono ?_
 unfold RUn
 rintro e w2 ⟨⟨v2, rfl⟩, hP2, h2⟩
 clear X
 have P2 := Lib.hid (hP2)
 have R2 := Lib.hid (R1.out.trans h2)
 have BR2 := Lib.hid (BR1.out.ro h2 hbw)
 have y2 : w.heap.size + 1 ≤ w2.heap.size := Nat.le_trans z1 h2.size
 have z2 := y2
 clear hP2 h2
 have C := Lib.hid (show Calls Tryz.prog 44 #[.pointer (some ⟨b, 0, none⟩), .int .i64 0] _ _ from HH.out f (Nat.le_refl _) 0 (by decide) _ (expP tk kOpen s.adv) P2.out (show 10 * rem tk (expP tk kOpen s.adv) + 8 ≤ f by omega))
 unfold RRes at C
 rw [Ht3.out, Hs3.out] at C
 go_wp2_with fail
 refine C.out.mono ?_
 rintro e w3 ⟨t3, x3, rfl, hK3, hq3, hP3, h3⟩
 obtain ⟨xa3, xc3, rfl⟩ := kids_slice (kidsB_to hK3)
 have Q3 := Lib.hid hq3
 clear C hq3
 have P3 := Lib.hid (hP3)
 have R3 := Lib.hid (R2.out.trans h3)
 have BR3 := Lib.hid (BR2.out.ro h3 hbw)
 have K3_3 := Lib.hid (kidsB_mono (Q := fun q => w.heap.size < q) hK3 (fun q hq hp => by omega))
 have y3 : w.heap.size + 1 ≤ w3.heap.size := Nat.le_trans z2 h3.size
 have z3 := y3
 clear hP3 h3 hK3
 have RA := (Rel.refl w3).alloc (.cells #[.int .i64 t3.op, .int .i64 t3.va, .int .i64 t3.vb, .int .i64 t3.dm, .string t3.nm, .slice xa3 t3.cnt xc3] 29)
 have RB := RA.alloc (.cells #[.int .i64 6, .int .i64 0, .int .i64 0, .int .i64 0, .string ⟨#[]⟩, .slice (some ⟨w3.heap.size, 0, none⟩) 1 1] 29)
 have SB := Lib.hid (BoxAt.new (w := w3) (g := w3.heap.size) rfl (.int .i64 t3.op) (.int .i64 t3.va) (.int .i64 t3.vb) (.int .i64 t3.dm) (.string t3.nm) (.slice xa3 t3.cnt xc3) 29)
 have SE := Lib.hid (BoxAt.new (w := w3.alloc (.cells #[.int .i64 t3.op, .int .i64 t3.va, .int .i64 t3.vb, .int .i64 t3.dm, .string t3.nm, .slice xa3 t3.cnt xc3] 29)) (g := w3.heap.size + 1) (by simp) (.int .i64 6) (.int .i64 0) (.int .i64 0) (.int .i64 0) (.string ⟨#[]⟩) (.slice (some ⟨w3.heap.size, 0, none⟩) 1 1) 29)
 have SB2 := Lib.hid (SB.out.rel ((Rel.refl _).alloc (.cells #[.int .i64 6, .int .i64 0, .int .i64 0, .int .i64 0, .string ⟨#[]⟩, .slice (some ⟨w3.heap.size, 0, none⟩) 1 1] 29)))
 obtain ⟨X, hX⟩ : ∃ X, (w3.alloc (.cells #[.int .i64 t3.op, .int .i64 t3.va, .int .i64 t3.vb, .int .i64 t3.dm, .string t3.nm, .slice xa3 t3.cnt xc3] 29)).alloc (.cells #[.int .i64 6, .int .i64 0, .int .i64 0, .int .i64 0, .string ⟨#[]⟩, .slice (some ⟨w3.heap.size, 0, none⟩) 1 1] 29) = X := ⟨_, rfl⟩
 rw [hX] at RB SE SB2
 have zX : w3.heap.size + 2 ≤ X.heap.size := by rw [← hX]; simp
 have PX := Lib.hid (P3.out.rel RB)
 have RX := Lib.hid (R3.out.trans (Ro.of RB))
 have BRX := Lib.hid (BR3.out.rel RB)
 have KX := Lib.hid (kidsB_rl K3_3.out RB)
 clear SB RA RB

 have TX : Hid (ExKidsB (fun q => w.heap.size < q) (trU 6 t3) X (.slice (some ⟨w3.heap.size, 0, none⟩) 1 1)) := by
  show ExKidsB _ _ _ _
  rw [← hX]
  exact kidsB_rl (one_tree (op := 6) rfl (by omega) ⟨by decide, by decide⟩ K3_3.out) ((Rel.refl _).alloc _)
 have HX := Lib.hid hX
 have W := Lib.hid (rwant_any b G tk E s3 ⟨#[41]⟩ _ PX.out (txOk_of hH hT (by decide)) hT.len)
 have eK : (⟨#[41]⟩ : ByteArray).data.toList = kShut := rfl
 rw [eK] at W
 clear eK
 go_wp2_with fail
 (try rw [HX.out])
 refine (AR.out _).mono ?_
 rintro e w9 ⟨rfl, rfl⟩
 clear hX HX
 go_wp2_with fail
 refine W.out.mono ?_
 unfold RUn
 rintro e w5 ⟨⟨v5, rfl⟩, hP5, h5⟩
 clear W
 have P5 := Lib.hid hP5
 have R5 := Lib.hid (RX.out.trans h5)
 have BR5 := Lib.hid (BRX.out.ro h5 hbw)
 have BE5 := Lib.hid (SE.out.ro h5 (by have := P3.out.lt; omega))
 have K5 := Lib.hid (kidsB_ro TX.out h5 (fun q hq => by have := HP.out.lt; omega))
 have y5 := h5.size
 clear hP5 h5
 obtain ⟨el, ec0, ec1, ec2, ec3, ec4, ec5, ef0, ef1, ef2, ef3, ef4, ef5⟩ := BE5.out
 obtain ⟨rl, rc0, rc1, rc2, rc3, rc4, rc5, rf0, rf1, rf2, rf3, rf4, rf5⟩ := BR5.out
 ((try simp only []); (repeat (first | go_values | go_skip | go_guarded | go_step | go_upon | go_in)))
 have hp := rdr_put6 P5.out HP.out.toks R5.out (Nat.le_refl w.heap.size) hbw (.int .i64 6) (.int .i64 0) (.int .i64 0) (.int .i64 0) (.string ⟨#[]⟩) (.slice (some ⟨w3.heap.size, 0, none⟩) 1 1)
 have g0 : ((((((w5.setCell ⟨w.heap.size, 0, none⟩ (.int .i64 6)).setCell ⟨w.heap.size, 1, none⟩ (.int .i64 0)).setCell ⟨w.heap.size, 2, none⟩ (.int .i64 0)).setCell ⟨w.heap.size, 3, none⟩ (.int .i64 0)).setCell ⟨w.heap.size, 4, none⟩ (.string ⟨#[]⟩)).setCell ⟨w.heap.size, 5, none⟩ (.slice (some ⟨w3.heap.size, 0, none⟩) 1 1)).cell? ⟨w.heap.size, 0, none⟩ = some (.int .i64 6) := by go_simp
 have g1 : ((((((w5.setCell ⟨w.heap.size, 0, none⟩ (.int .i64 6)).setCell ⟨w.heap.size, 1, none⟩ (.int .i64 0)).setCell ⟨w.heap.size, 2, none⟩ (.int .i64 0)).setCell ⟨w.heap.size, 3, none⟩ (.int .i64 0)).setCell ⟨w.heap.size, 4, none⟩ (.string ⟨#[]⟩)).setCell ⟨w.heap.size, 5, none⟩ (.slice (some ⟨w3.heap.size, 0, none⟩) 1 1)).cell? ⟨w.heap.size, 1, none⟩ = some (.int .i64 0) := by go_simp
 have g2 : ((((((w5.setCell ⟨w.heap.size, 0, none⟩ (.int .i64 6)).setCell ⟨w.heap.size, 1, none⟩ (.int .i64 0)).setCell ⟨w.heap.size, 2, none⟩ (.int .i64 0)).setCell ⟨w.heap.size, 3, none⟩ (.int .i64 0)).setCell ⟨w.heap.size, 4, none⟩ (.string ⟨#[]⟩)).setCell ⟨w.heap.size, 5, none⟩ (.slice (some ⟨w3.heap.size, 0, none⟩) 1 1)).cell? ⟨w.heap.size, 2, none⟩ = some (.int .i64 0) := by go_simp
 have g3 : ((((((w5.setCell ⟨w.heap.size, 0, none⟩ (.int .i64 6)).setCell ⟨w.heap.size, 1, none⟩ (.int .i64 0)).setCell ⟨w.heap.size, 2, none⟩ (.int .i64 0)).setCell ⟨w.heap.size, 3, none⟩ (.int .i64 0)).setCell ⟨w.heap.size, 4, none⟩ (.string ⟨#[]⟩)).setCell ⟨w.heap.size, 5, none⟩ (.slice (some ⟨w3.heap.size, 0, none⟩) 1 1)).cell? ⟨w.heap.size, 3, none⟩ = some (.int .i64 0) := by go_simp
 have g4 : ((((((w5.setCell ⟨w.heap.size, 0, none⟩ (.int .i64 6)).setCell ⟨w.heap.size, 1, none⟩ (.int .i64 0)).setCell ⟨w.heap.size, 2, none⟩ (.int .i64 0)).setCell ⟨w.heap.size, 3, none⟩ (.int .i64 0)).setCell ⟨w.heap.size, 4, none⟩ (.string ⟨#[]⟩)).setCell ⟨w.heap.size, 5, none⟩ (.slice (some ⟨w3.heap.size, 0, none⟩) 1 1)).cell? ⟨w.heap.size, 4, none⟩ = some (.string ⟨#[]⟩) := by go_simp
 have g5 : ((((((w5.setCell ⟨w.heap.size, 0, none⟩ (.int .i64 6)).setCell ⟨w.heap.size, 1, none⟩ (.int .i64 0)).setCell ⟨w.heap.size, 2, none⟩ (.int .i64 0)).setCell ⟨w.heap.size, 3, none⟩ (.int .i64 0)).setCell ⟨w.heap.size, 4, none⟩ (.string ⟨#[]⟩)).setCell ⟨w.heap.size, 5, none⟩ (.slice (some ⟨w3.heap.size, 0, none⟩) 1 1)).cell? ⟨w.heap.size, 5, none⟩ = some (.slice (some ⟨w3.heap.size, 0, none⟩) 1 1) := by go_simp
 refine bodyPost_ret (v := .agg #[.int .i64 6, .int .i64 0, .int .i64 0, .int .i64 0, .string ⟨#[]⟩, .slice (some ⟨w3.heap.size, 0, none⟩) 1 1]) ?_ rfl ⟨trU 6 t3, _, rfl, kidsB_p6 K5.out (fun q _ hq => ⟨by omega, by omega⟩) _ _ _ _ _ _, (fun h => by rw [Q3.out (uS h)]), hp.1, hp.2⟩
 simp [results, Tryz.results156, go_sem, g0, g1, g2, g3, g4, g5]
set_option maxRecDepth 20000 in
set_option maxHeartbeats 8000000 in
theorem rcallmm (b G : Nat) (tk : List Tk) (E : Int) (hT : TksOk tk) (hH : TkHd tk) (f : Nat) (op : Int) (hop : op = 19 ∨ op = 20) (H : ∀ g, g ≤ f → ∀ m, m ≤ 7 → RC b G tk E m g) (w : World) (s : Pt) (hP : Rdr w b G tk E s) (hi : s.i < tk.length) (hrem : rem tk s.adv + 1 ≤ rem tk s) (hf' : 10 * rem tk s + 1 ≤ f + 1) :
  Calls Tryz.prog 156 #[.pointer (some ⟨b, 0, none⟩), .int .i64 op] w (RRes b G tk E (trB op (pe tk f 0 .no (expP tk kOpen s.adv)).1 (pe tk f 0 .no (expP tk kComma (pe tk f 0 .no (expP tk kOpen s.adv)).2)).1, expP tk kShut (pe tk f 0 .no (expP tk kComma (pe tk f 0 .no (expP tk kOpen s.adv)).2)).2) w) := by
 have HP := Lib.hid hP
 have hlt := hP.lt
 have hbw : w.heap.size ≠ b := by omega
 have HH := Lib.hid H
 have hle := hT.len
 have wi : IntKind.i64.wrap ((s.i : Int) + 1) = (s.i : Int) + 1 := IntWalk.i64_in _ ⟨by omega, by omega⟩
 have AR := Lib.hid fun w => Args_any op w
 rw [show arI op = 2 by rcases hop with rfl | rfl <;> rfl] at AR
 clear hP H

 have BR0 := Lib.hid (BoxAt.new (w := w) (g := w.heap.size) rfl (.int .i64 0) (.int .i64 0) (.int .i64 0) (.int .i64 0) (.string ⟨#[]⟩) (.slice none 0 0) 29)
 have P0 := Lib.hid (HP.out.rel ((Rel.refl _).alloc (.cells #[.int .i64 0, .int .i64 0, .int .i64 0, .int .i64 0, .string ⟨#[]⟩, .slice none 0 0] 29)))
 have R0 := Lib.hid ((Ro.refl b w).alloc (.cells #[.int .i64 0, .int .i64 0, .int .i64 0, .int .i64 0, .string ⟨#[]⟩, .slice none 0 0] 29))
 have z0 : w.heap.size + 1 ≤ (w.alloc (.cells #[.int .i64 0, .int .i64 0, .int .i64 0, .int .i64 0, .string ⟨#[]⟩, .slice none 0 0] 29)).heap.size := by simp
 have hop2 : 0 ≤ op ∧ op ≤ 100 := by omega
 have e1 := (exp_beh tk kOpen s.adv).rem

 obtain ⟨T3, ht3⟩ : ∃ t, (pe tk f 0 .no (expP tk kOpen s.adv)).1 = t := ⟨_, rfl⟩
 obtain ⟨s3, hs3⟩ : ∃ t, (pe tk f 0 .no (expP tk kOpen s.adv)).2 = t := ⟨_, rfl⟩
 (try rw [ht3])
 (try rw [hs3])
 have b3 := (pe_beh tk f 0 .no (expP tk kOpen s.adv) (by unfold md; decide)).rem
 rw [hs3] at b3
 have U3 : Hid (s3.ok = true → Pt.ok (expP tk kOpen s.adv) = true) := by
  show _ → _
  rw [← hs3]; exact (pe_beh tk f 0 .no (expP tk kOpen s.adv) (by unfold md; decide)).2.1
 have Ht3 := Lib.hid ht3
 have Hs3 := Lib.hid hs3
 clear ht3 hs3
 have e3 := (exp_beh tk kComma s3).rem

 obtain ⟨T8, ht8⟩ : ∃ t, (pe tk f 0 .no (expP tk kComma s3)).1 = t := ⟨_, rfl⟩
 obtain ⟨s8, hs8⟩ : ∃ t, (pe tk f 0 .no (expP tk kComma s3)).2 = t := ⟨_, rfl⟩
 (try rw [ht8])
 (try rw [hs8])
 have b8 := (pe_beh tk f 0 .no (expP tk kComma s3) (by unfold md; decide)).rem
 rw [hs8] at b8
 have U8 : Hid (s8.ok = true → Pt.ok (expP tk kComma s3) = true) := by
  show _ → _
  rw [← hs8]; exact (pe_beh tk f 0 .no (expP tk kComma s3) (by unfold md; decide)).2.1
 have Ht8 := Lib.hid ht8
 have Hs8 := Lib.hid hs8
 clear ht8 hs8
 have uC := (exp_beh tk kComma s3).2.1
 have uS := (exp_beh tk kShut s8).2.1

 have u1 := P0.out.c1
 have uf := P0.out.f1
 have ul := P0.out.lt
 have v1 := HP.out.c1
 have vf := HP.out.f1
 have hP1 := P0.out.adv hi
 have h1 : Ro b (w.alloc (.cells #[.int .i64 0, .int .i64 0, .int .i64 0, .int .i64 0, .string ⟨#[]⟩, .slice none 0 0] 29)) ((w.alloc (.cells #[.int .i64 0, .int .i64 0, .int .i64 0, .int .i64 0, .string ⟨#[]⟩, .slice none 0 0] 29)).setCell ⟨b, 1, none⟩ (.int .i64 ((s.i : Int) + 1))) := (Ro.refl b _).set 1 _
 obtain ⟨w1, hw1⟩ : ∃ Y, (w.alloc (.cells #[.int .i64 0, .int .i64 0, .int .i64 0, .int .i64 0, .string ⟨#[]⟩, .slice none 0 0] 29)).setCell ⟨b, 1, none⟩ (.int .i64 ((s.i : Int) + 1)) = Y := ⟨_, rfl⟩
 rw [hw1] at hP1 h1
 have P1 := Lib.hid (hP1)
 have R1 := Lib.hid (R0.out.trans h1)
 have BR1 := Lib.hid (BR0.out.ro h1 hbw)
 have y1 : w.heap.size + 1 ≤ w1.heap.size := Nat.le_trans z0 h1.size
 have z1 := y1
 have HW1 := Lib.hid hw1
 clear hP1 h1
 (try unfold RRes)
 go_enter Tryz.func156, Tryz.ntmps156
 go_wp2_with fail
 (try rw [HW1.out])
 clear hw1 HW1 u1 uf v1 vf

 have X := Lib.hid (rwant_any b G tk E s.adv ⟨#[40]⟩ _ P1.out (txOk_of hH hT (by decide)) hT.len)
 have eK : (⟨#[40]⟩ : ByteArray).data.toList = kOpen := rfl
 rw [eK] at X
 clear eK
 go_wp2_with fail
 refine X.out.mono ?_
 unfold RUn
 rintro e w2 ⟨⟨v2, rfl⟩, hP2, h2⟩
 clear X
 have P2 := Lib.hid (hP2)
 have R2 := Lib.hid (R1.out.trans h2)
 have BR2 := Lib.hid (BR1.out.ro h2 hbw)
 have y2 : w.heap.size + 1 ≤ w2.heap.size := Nat.le_trans z1 h2.size
 have z2 := y2
 clear hP2 h2
 have C := Lib.hid (show Calls Tryz.prog 44 #[.pointer (some ⟨b, 0, none⟩), .int .i64 0] _ _ from HH.out f (Nat.le_refl _) 0 (by decide) _ (expP tk kOpen s.adv) P2.out (show 10 * rem tk (expP tk kOpen s.adv) + 8 ≤ f by omega))
 unfold RRes at C
 rw [Ht3.out, Hs3.out] at C
 go_wp2_with fail
 refine C.out.mono ?_
 rintro e w3 ⟨t3, x3, rfl, hK3, hq3, hP3, h3⟩
 obtain ⟨xa3, xc3, rfl⟩ := kids_slice (kidsB_to hK3)
 have Q3 := Lib.hid hq3
 clear C hq3
 have P3 := Lib.hid (hP3)
 have R3 := Lib.hid (R2.out.trans h3)
 have BR3 := Lib.hid (BR2.out.ro h3 hbw)
 have K3_3 := Lib.hid (kidsB_mono (Q := fun q => w.heap.size < q ∧ q < w3.heap.size) hK3 (fun q hq hp => by omega))
 have y3 : w.heap.size + 1 ≤ w3.heap.size := Nat.le_trans z2 h3.size
 have z3 := y3
 clear hP3 h3 hK3
 have RA := (Rel.refl w3).alloc (.cells #[.int .i64 t3.op, .int .i64 t3.va, .int .i64 t3.vb, .int .i64 t3.dm, .string t3.nm, .slice xa3 t3.cnt xc3] 29)
 have RB := RA.alloc (.cells #[.int .i64 op, .int .i64 0, .int .i64 0, .int .i64 0, .string ⟨#[]⟩, .slice (some ⟨w3.heap.size, 0, none⟩) 1 1] 29)
 have SB := Lib.hid (BoxAt.new (w := w3) (g := w3.heap.size) rfl (.int .i64 t3.op) (.int .i64 t3.va) (.int .i64 t3.vb) (.int .i64 t3.dm) (.string t3.nm) (.slice xa3 t3.cnt xc3) 29)
 have SE := Lib.hid (BoxAt.new (w := w3.alloc (.cells #[.int .i64 t3.op, .int .i64 t3.va, .int .i64 t3.vb, .int .i64 t3.dm, .string t3.nm, .slice xa3 t3.cnt xc3] 29)) (g := w3.heap.size + 1) (by simp) (.int .i64 op) (.int .i64 0) (.int .i64 0) (.int .i64 0) (.string ⟨#[]⟩) (.slice (some ⟨w3.heap.size, 0, none⟩) 1 1) 29)
 have SB2 := Lib.hid (SB.out.rel ((Rel.refl _).alloc (.cells #[.int .i64 op, .int .i64 0, .int .i64 0, .int .i64 0, .string ⟨#[]⟩, .slice (some ⟨w3.heap.size, 0, none⟩) 1 1] 29)))
 obtain ⟨X, hX⟩ : ∃ X, (w3.alloc (.cells #[.int .i64 t3.op, .int .i64 t3.va, .int .i64 t3.vb, .int .i64 t3.dm, .string t3.nm, .slice xa3 t3.cnt xc3] 29)).alloc (.cells #[.int .i64 op, .int .i64 0, .int .i64 0, .int .i64 0, .string ⟨#[]⟩, .slice (some ⟨w3.heap.size, 0, none⟩) 1 1] 29) = X := ⟨_, rfl⟩
 rw [hX] at RB SE SB2
 have zX : w3.heap.size + 2 ≤ X.heap.size := by rw [← hX]; simp
 have PX := Lib.hid (P3.out.rel RB)
 have RX := Lib.hid (R3.out.trans (Ro.of RB))
 have BRX := Lib.hid (BR3.out.rel RB)
 have KX := Lib.hid (kidsB_rl K3_3.out RB)
 clear SB RA RB

 have HX := Lib.hid hX
 have W := Lib.hid (rwant_any b G tk E s3 ⟨#[44]⟩ _ PX.out (txOk_of hH hT (by decide)) hT.len)
 have eK : (⟨#[44]⟩ : ByteArray).data.toList = kComma := rfl
 rw [eK] at W
 clear eK
 go_wp2_with fail
 (try rw [HX.out])
 refine (AR.out _).mono ?_
 rintro e w9 ⟨rfl, rfl⟩
 clear hX HX
 go_wp2_with fail
 refine W.out.mono ?_
 unfold RUn
 rintro e w5 ⟨⟨v5, rfl⟩, hP5, h5⟩
 clear W
 have nb3 : w3.heap.size ≠ b := by have := P3.out.lt; omega
 have P5 := Lib.hid hP5
 have R5 := Lib.hid (RX.out.trans h5)
 have BR5 := Lib.hid (BRX.out.ro h5 hbw)
 have BE5 := Lib.hid (SE.out.ro h5 (by have := P3.out.lt; omega))
 have BS5 := Lib.hid (SB2.out.ro h5 nb3)
 have K5 := Lib.hid (kidsB_ro (kidsB_mono (Q := fun q => w.heap.size < q ∧ q < w3.heap.size) KX.out (fun q _ hq => hq)) h5 (fun q hq => by have := HP.out.lt; omega))
 have y5 : w3.heap.size + 2 ≤ w5.heap.size := Nat.le_trans zX h5.size
 clear hP5 h5
 go_wp2_with fail
 refine wp_region_calm (fun M w' => M.getD 8 false = false → BoxAt w' (w3.heap.size + 1) (.int .i64 op) (.int .i64 0) (.int .i64 0) (.int .i64 0) (.string ⟨#[]⟩) (.slice (some ⟨w3.heap.size, 0, none⟩) 1 1) ∧ BoxAt w' w3.heap.size (.int .i64 t3.op) (.int .i64 t3.va) (.int .i64 t3.vb) (.int .i64 t3.dm) (.string t3.nm) (.slice xa3 t3.cnt xc3)) (fun i => i == 8) [0, 1, 2, 3, 4] 4 (by kernel_rfl) (by kernel_rfl) ?hst ?hS0 (fun w0 h0 => ?_)
 case hst => exact fun _ _ _ h r hM => ⟨(h hM).1.rel r, (h hM).2.rel r⟩
 case hS0 => exact fun _ => ⟨BE5.out, BS5.out⟩
 iterate 5
  refine wpCalm_go rfl (by kernel_rfl) (fun K hK => ?_)
  apply Exists.intro
  refine ⟨fun M w hM hS => ?_, hK _ ?_⟩
  ·have bb := hS (hM 8 (by kernel_rfl))
   have bx := bb.1
   have by' := bb.2
   have d0 := bx.c0
   have d1 := bx.c1
   have d2 := bx.c2
   have d3 := bx.c3
   have d4 := bx.c4
   have d5 := bx.c5
   have f0 := by'.c0
   have f1 := by'.c1
   have f2 := by'.c2
   have f3 := by'.c3
   have f4 := by'.c4
   have f5 := by'.c5
   unfold calmAt
   go_simp
   exact ⟨rfl, Rel.refl _⟩
  clear hK K
 refine wpCalm_nil ?_
 have kz13 := h0.size
 (try simp only [World.size_alloc, World.size_setCell, World.size_drew] at kz13)
 have H13 := Lib.hid h0
 clear h0
 refine wpAnyR_ready (rs := [5]) (by kernel_rfl) (by simp) (AllR.cons rfl (fun w14 h14 K' hK' => ?_) AllR.nil)
 have kz14 := h14.size
 (try simp only [World.size_alloc, World.size_setCell, World.size_drew] at kz14)
 have H14 := Lib.hid h14
 clear h14
 have T14 := Lib.hid (H13.out.trans H14.out)
 have P14 := Lib.hid (P5.out.rel T14.out)
 have y14 := Nat.le_trans y5 T14.out.size

 have C := Lib.hid (show Calls Tryz.prog 44 #[.pointer (some ⟨b, 0, none⟩), .int .i64 0] w14 _ from HH.out f (Nat.le_refl _) 0 (by decide) _ (expP tk kComma s3) P14.out (show 10 * rem tk (expP tk kComma s3) + 8 ≤ f by omega))
 unfold RRes at C
 rw [Ht8.out, Hs8.out] at C

 go_simp

 refine C.out.mono ?_
 rintro e w8 ⟨t8, x8, rfl, hK8, hq8, hP8, h8⟩
 obtain ⟨xa8, xc8, rfl⟩ := kids_slice (kidsB_to hK8)
 have Q8 := Lib.hid hq8
 clear C hq8

 have BR8 := Lib.hid ((BR5.out.rel T14.out).ro h8 hbw)
 have BE8 := Lib.hid ((BE5.out.rel T14.out).ro h8 (by have := P3.out.lt; omega))
 have BS8 := Lib.hid ((BS5.out.rel T14.out).ro h8 nb3)
 have K8 := Lib.hid (kidsB_ro (kidsB_rl K5.out T14.out) h8 (fun q hq => by have := HP.out.lt; omega))
 have L8 := Lib.hid (kidsB_mono (Q := fun q => w.heap.size < q ∧ q ≠ w3.heap.size + 1) hK8 (fun q hq hp => ⟨by omega, by omega⟩))
 have M8 := Lib.hid (kidsB_mono (Q := fun q => w.heap.size < q ∧ q ≠ w3.heap.size + 1) K8.out (fun q hq hp => ⟨by omega, by omega⟩))
 have P8 := Lib.hid hP8
 have R8 := Lib.hid ((R5.out.trans (Ro.of T14.out)).trans h8)
 have y8 := Nat.le_trans y14 h8.size
 clear hK8 hP8 h8
 refine hK'.out _ _ (fun _ => ⟨BE8.out, BS8.out⟩) ?_
 clear hK' K'
 refine wpAnyR_ready (rs := [6]) (by kernel_rfl) (by simp) (AllR.cons rfl (fun w9 h9 K' hK' => ?_) AllR.nil)
 have y9 := Nat.le_trans y8 h9.size
 have TR := Lib.hid (pair_tree (op := op) (W := w9) (T := 29) rfl (P := fun q => w.heap.size < q ∧ q ≠ w3.heap.size + 1) ⟨by omega, by omega⟩ hop2 (kidsB_rl M8.out h9) (kidsB_rl L8.out h9))
 have kz9 := h9.size
 (try simp only [World.size_alloc, World.size_setCell, World.size_drew] at kz9)
 have H9 := Lib.hid h9
 clear h9
 go_simp
 refine hK'.out _ _ (fun _ => ⟨(BE8.out.rel H9.out).rel ((Rel.refl _).alloc _), (BS8.out.rel H9.out).rel ((Rel.refl _).alloc _)⟩) ?_
 clear hK' K'
 refine wpAnyR_ready (rs := [7]) (by kernel_rfl) (by simp) (AllR.cons rfl (fun w20 h20 K' hK' => ?_) AllR.nil)
 have T20 := Lib.hid (((H9.out).alloc (.cells #[.int .i64 t3.op, .int .i64 t3.va, .int .i64 t3.vb, .int .i64 t3.dm, .string t3.nm, .slice xa3 t3.cnt xc3, .int .i64 t8.op, .int .i64 t8.va, .int .i64 t8.vb, .int .i64 t8.dm, .string t8.nm, .slice xa8 t8.cnt xc8] 29)).trans h20)
 have TK20 := Lib.hid (kidsB_rl TR.out h20)
 clear h20
 go_simp
 refine hK'.out _ _ (fun _ => ⟨BE8.out.rel T20.out, BS8.out.rel T20.out⟩) ?_
 clear hK' K'
 refine wpAnyR_ready (rs := [8]) (by kernel_rfl) (by simp) (AllR.cons rfl (fun w10 h10 K' hK' => ?_) AllR.nil)
 have T10 := Lib.hid (T20.out.trans h10)
 have TK10 := Lib.hid (kidsB_rl TK20.out h10)
 have BE10 := Lib.hid (BE8.out.rel T10.out)
 obtain ⟨el, ec0, ec1, ec2, ec3, ec4, ec5, ef0, ef1, ef2, ef3, ef4, ef5⟩ := BE10.out
 clear h10
 go_simp
 refine hK'.out _ _ (fun h => absurd (h.symm.trans (by kernel_rfl : _ = true)) (by simp)) ?_
 clear hK' K'
 refine wpAnyR_end (by kernel_rfl) (fun w11 h11 => ?_)
 (try simp only [Act.put, List.setIfInBounds_toArray, List.set_cons_zero, List.set_cons_succ])
 have nE : w3.heap.size + 1 ≠ b := by have := P3.out.lt; omega
 have ST : Ro b w (w10.setCell ⟨w3.heap.size + 1, 5, none⟩ (.slice (some ⟨w9.heap.size, 0, none⟩) 2 2)) := (R8.out.trans (Ro.of T10.out)).setNew (p := ⟨w3.heap.size + 1, 5, none⟩) (by show w.heap.size ≤ w3.heap.size + 1; omega) _
 have P11 := Lib.hid (((P8.out.rel T10.out).other nE (HP.out.toks.ro ST)).rel h11)
 have R11 := Lib.hid (ST.trans (Ro.of h11))
 have BR11 := Lib.hid (((BR8.out.rel T10.out).other (by omega) 5 (.slice (some ⟨w9.heap.size, 0, none⟩) 2 2)).rel h11)
 have BE11 := Lib.hid ((BE10.out.put5 (.slice (some ⟨w9.heap.size, 0, none⟩) 2 2)).rel h11)
 have K11 := Lib.hid (kidsB_rl (kidsB_p1 TK10.out (g := w3.heap.size + 1) (i := 5) (Q := fun q => w.heap.size < q) (fun q _ hq => ⟨hq.2, hq.1⟩) (.slice (some ⟨w9.heap.size, 0, none⟩) 2 2)) h11)
 have y11 : w.heap.size + 1 ≤ w11.heap.size := by have := R11.out.size; have := BR11.out.lt; omega
 clear h11 ST el ec0 ec1 ec2 ec3 ec4 ec5 ef0 ef1 ef2 ef3 ef4 ef5
 have W := Lib.hid (rwant_any b G tk E s8 ⟨#[41]⟩ _ P11.out (txOk_of hH hT (by decide)) hT.len)
 have eK : (⟨#[41]⟩ : ByteArray).data.toList = kShut := rfl
 rw [eK] at W
 clear eK
 go_wp2_with fail
 refine W.out.mono ?_
 unfold RUn
 rintro e w12 ⟨⟨v12, rfl⟩, hP12, h12⟩
 clear W
 have P12 := Lib.hid hP12
 have R12 := Lib.hid (R11.out.trans h12)
 have BR12 := Lib.hid (BR11.out.ro h12 hbw)
 have BE12 := Lib.hid (BE11.out.ro h12 nE)
 have K12 := Lib.hid (kidsB_ro K11.out h12 (fun q hq => by have := HP.out.lt; omega))
 clear hP12 h12
 obtain ⟨el, ec0, ec1, ec2, ec3, ec4, ec5, ef0, ef1, ef2, ef3, ef4, ef5⟩ := BE12.out
 obtain ⟨rl, rc0, rc1, rc2, rc3, rc4, rc5, rf0, rf1, rf2, rf3, rf4, rf5⟩ := BR12.out
 ((try simp only []); (repeat (first | go_values | go_skip | go_guarded | go_step | go_upon | go_in)))
 have hp := rdr_put6 P12.out HP.out.toks R12.out (Nat.le_refl w.heap.size) hbw (.int .i64 op) (.int .i64 0) (.int .i64 0) (.int .i64 0) (.string ⟨#[]⟩) (.slice (some ⟨w9.heap.size, 0, none⟩) 2 2)
 have g0 : ((((((w12.setCell ⟨w.heap.size, 0, none⟩ (.int .i64 op)).setCell ⟨w.heap.size, 1, none⟩ (.int .i64 0)).setCell ⟨w.heap.size, 2, none⟩ (.int .i64 0)).setCell ⟨w.heap.size, 3, none⟩ (.int .i64 0)).setCell ⟨w.heap.size, 4, none⟩ (.string ⟨#[]⟩)).setCell ⟨w.heap.size, 5, none⟩ (.slice (some ⟨w9.heap.size, 0, none⟩) 2 2)).cell? ⟨w.heap.size, 0, none⟩ = some (.int .i64 op) := by go_simp
 have g1 : ((((((w12.setCell ⟨w.heap.size, 0, none⟩ (.int .i64 op)).setCell ⟨w.heap.size, 1, none⟩ (.int .i64 0)).setCell ⟨w.heap.size, 2, none⟩ (.int .i64 0)).setCell ⟨w.heap.size, 3, none⟩ (.int .i64 0)).setCell ⟨w.heap.size, 4, none⟩ (.string ⟨#[]⟩)).setCell ⟨w.heap.size, 5, none⟩ (.slice (some ⟨w9.heap.size, 0, none⟩) 2 2)).cell? ⟨w.heap.size, 1, none⟩ = some (.int .i64 0) := by go_simp
 have g2 : ((((((w12.setCell ⟨w.heap.size, 0, none⟩ (.int .i64 op)).setCell ⟨w.heap.size, 1, none⟩ (.int .i64 0)).setCell ⟨w.heap.size, 2, none⟩ (.int .i64 0)).setCell ⟨w.heap.size, 3, none⟩ (.int .i64 0)).setCell ⟨w.heap.size, 4, none⟩ (.string ⟨#[]⟩)).setCell ⟨w.heap.size, 5, none⟩ (.slice (some ⟨w9.heap.size, 0, none⟩) 2 2)).cell? ⟨w.heap.size, 2, none⟩ = some (.int .i64 0) := by go_simp
 have g3 : ((((((w12.setCell ⟨w.heap.size, 0, none⟩ (.int .i64 op)).setCell ⟨w.heap.size, 1, none⟩ (.int .i64 0)).setCell ⟨w.heap.size, 2, none⟩ (.int .i64 0)).setCell ⟨w.heap.size, 3, none⟩ (.int .i64 0)).setCell ⟨w.heap.size, 4, none⟩ (.string ⟨#[]⟩)).setCell ⟨w.heap.size, 5, none⟩ (.slice (some ⟨w9.heap.size, 0, none⟩) 2 2)).cell? ⟨w.heap.size, 3, none⟩ = some (.int .i64 0) := by go_simp
 have g4 : ((((((w12.setCell ⟨w.heap.size, 0, none⟩ (.int .i64 op)).setCell ⟨w.heap.size, 1, none⟩ (.int .i64 0)).setCell ⟨w.heap.size, 2, none⟩ (.int .i64 0)).setCell ⟨w.heap.size, 3, none⟩ (.int .i64 0)).setCell ⟨w.heap.size, 4, none⟩ (.string ⟨#[]⟩)).setCell ⟨w.heap.size, 5, none⟩ (.slice (some ⟨w9.heap.size, 0, none⟩) 2 2)).cell? ⟨w.heap.size, 4, none⟩ = some (.string ⟨#[]⟩) := by go_simp
 have g5 : ((((((w12.setCell ⟨w.heap.size, 0, none⟩ (.int .i64 op)).setCell ⟨w.heap.size, 1, none⟩ (.int .i64 0)).setCell ⟨w.heap.size, 2, none⟩ (.int .i64 0)).setCell ⟨w.heap.size, 3, none⟩ (.int .i64 0)).setCell ⟨w.heap.size, 4, none⟩ (.string ⟨#[]⟩)).setCell ⟨w.heap.size, 5, none⟩ (.slice (some ⟨w9.heap.size, 0, none⟩) 2 2)).cell? ⟨w.heap.size, 5, none⟩ = some (.slice (some ⟨w9.heap.size, 0, none⟩) 2 2) := by go_simp
 refine bodyPost_ret (v := .agg #[.int .i64 op, .int .i64 0, .int .i64 0, .int .i64 0, .string ⟨#[]⟩, .slice (some ⟨w9.heap.size, 0, none⟩) 2 2]) ?_ rfl ⟨trB op t3 t8, _, rfl, kidsB_p6 K12.out (fun q _ hq => ⟨by omega, by omega⟩) _ _ _ _ _ _, (fun h => by have h8 := uS h; have h3 := uC (U8.out h8); rw [Q8.out h8, Q3.out h3]), hp.1, hp.2⟩
 simp [results, Tryz.results156, go_sem, g0, g1, g2, g3, g4, g5]
end Go.Proofs.YtkghmghjgikihaaGreatDoor

/- The reference's factor, by fuel. No conditions but those printed. -/
namespace Go.Proofs.YtkghmghjgikihaaGreatDoor
open Go.RowKit Cal Str Tok Frac Txt Tree
attribute [local go_sem] calmUpon
set_option linter.unusedVariables false
set_option linter.unusedSimpArgs false
theorem accB_two {tk : List Tk} {s : Pt} (h : pkK tk s = 2) (x : List UInt8) : accB tk x s = false := by rw [accB_pk, h]; rfl
theorem mm_two {tk : List Tk} {s : Pt} {a b : Bool} (h1 : accB tk [109, 105, 110] s = a) (h2 : accB tk [109, 97, 120] s = b) : binO tk s mmL = (a || b) ∧ binT tk s mmL = (if a = true then 19 else if b = true then 20 else 0) := by
 unfold mmL
 simp only [binO, binT, h1, h2]
 cases a <;> cases b <;> simp
set_option maxRecDepth 20000 in
set_option maxHeartbeats 16000000 in
theorem rfactor_step (b G : Nat) (tk : List Tk) (E : Int) (hT : TksOk tk) (hH : TkHd tk) (f : Nat) (H : ∀ g, g ≤ f → ∀ m, m ≤ 7 → RC b G tk E m g) : RF b G tk E (f + 1) := by
 intro w s hP hok hf'
 have HP := Lib.hid hP
 have hlt := hP.lt
 have hbw : w.heap.size ≠ b := by omega
 have HH := Lib.hid H
 have hle := hT.len
 clear H
 rw [pe_7]

 have BR0 := Lib.hid (BoxAt.new (w := w) (g := w.heap.size) rfl (.int .i64 0) (.int .i64 0) (.int .i64 0) (.int .i64 0) (.string ⟨#[]⟩) (.slice none 0 0) 29)
 have P0 := Lib.hid (HP.out.rel ((Rel.refl _).alloc (.cells #[.int .i64 0, .int .i64 0, .int .i64 0, .int .i64 0, .string ⟨#[]⟩, .slice none 0 0] 29)))
 have R0 := Lib.hid ((Ro.refl b w).alloc (.cells #[.int .i64 0, .int .i64 0, .int .i64 0, .int .i64 0, .string ⟨#[]⟩, .slice none 0 0] 29))
 have z0 : w.heap.size + 1 ≤ (w.alloc (.cells #[.int .i64 0, .int .i64 0, .int .i64 0, .int .i64 0, .string ⟨#[]⟩, .slice none 0 0] 29)).heap.size := by simp
 by_cases hK : pkK tk s = 2
 ·skip
  have ek : (pkK tk s == 2) = true := by rw [beq_iff_eq]; exact hK
  rw [if_neg (by rw [accB_two hK]; simp), if_neg (by rw [accB_two hK]; simp), if_neg (by rw [accB_two hK]; simp), if_neg (by rw [accB_two hK]; simp), if_neg (by rw [(mm_two (accB_two hK _) (accB_two hK _)).1]; simp), if_pos hK]
  obtain ⟨-, hi0⟩ := pkK_some (tk := tk) (s := s) (by omega)
  obtain ⟨tt, cap, htt, c0, q0, q1, q2⟩ := rdr_at P0.out hi0
  have c1 := P0.out.c1
  obtain ⟨eK, eT⟩ := pk_tok hok htt
  have hz := (hT.each tt (List.mem_of_getElem? htt)).1
  have hdB : decB tt.T = true := (hT.each tt (List.mem_of_getElem? htt)).2.2.2.2 (by rw [← eK]; exact hK)
  rw [eT]
  obtain ⟨TX, hTX⟩ : ∃ T, tt.T = T := ⟨_, rfl⟩
  rw [hTX] at q1 hz hdB ⊢
  have D := Lib.hid fun w => rDecimal_any TX w (by unfold maxLen; omega)
  unfold DecRes at D
  rw [hdB] at D
  obtain ⟨⟨n0, n1⟩, d0, d1⟩ := dec_bd TX
  obtain ⟨x0, x1⟩ := decX_bd TX
  obtain ⟨N, hN⟩ : ∃ N, decN TX = N := ⟨_, rfl⟩
  obtain ⟨DD, hDD⟩ : ∃ N, decD TX = N := ⟨_, rfl⟩
  obtain ⟨XX, hXX⟩ : ∃ N, decX TX = N := ⟨_, rfl⟩
  rw [hN, hDD, hXX] at D ⊢
  rw [hN] at n0 n1
  rw [hDD] at d0 d1
  rw [hXX] at x0 x1
  obtain ⟨n, hn⟩ : ∃ n, tk.length = n := ⟨_, rfl⟩
  rw [hn] at c0
  have HI := Lib.hid hi0
  rw [hn] at hi0
  obtain ⟨i, hi'⟩ : ∃ i, s.i = i := ⟨_, rfl⟩
  rw [hi'] at q0 q1 q2 c1 hi0
  have HII := Lib.hid hi'
  have ii : (i : Int) < (n : Int) := by omega
  have wi : IntKind.i64.wrap ((i : Int) + 1) = (i : Int) + 1 := IntWalk.i64_in _ ⟨by omega, by omega⟩

  have KD := Lib.hid (rkind_any b G tk E s 2 _ P0.out (by decide))
  unfold BRes at KD
  rw [ek] at KD

  clear htt hTX eT eK hi' hdB hN hDD hXX hP ek hz
  (try unfold RRes)
  go_enter Tryz.func91, Tryz.ntmps91
  go_wp2_with fail

  refine KD.out.mono ?_
  rintro e w1 ⟨rfl, h1⟩
  clear KD
  have k0 := h1.cell c0
  have k1 := h1.cell c1
  have kq := h1.cell q1
  have r1 := Lib.hid h1
  have BR1 := Lib.hid (BR0.out.rel h1)
  have y1 : w.heap.size + 1 ≤ w1.heap.size := Nat.le_trans z0 h1.size
  clear h1 c0 c1 q0 q1 q2
  go_wp2_with fail
  refine wp_region_calm (fun _ w' => Rel w1 w') (fun _ => false) [0, 1, 2, 3, 4, 5, 6, 7, 8, 9, 10, 11, 12, 13, 14, 15] 4 (by kernel_rfl) (by kernel_rfl) ?hst ?hS0 (fun w0 h0 => ?_)
  case hst => exact fun _ _ _ h r => h.trans r
  case hS0 => exact Rel.refl _
  iterate 11
   refine wpCalm_go rfl (by kernel_rfl) (fun K hK => ?_)
   apply Exists.intro
   refine ⟨fun M w hM hS => ?_, hK _ ?_⟩
   ·have d0 := hS.cell k0
    have d1 := hS.cell k1
    have e1 := hS.cell kq
    unfold calmAt
    go_simp
    exact ⟨rfl, Rel.refl _⟩
   clear hK K
  refine wpCalm_go rfl (by kernel_rfl) (fun K hK => ?_)
  apply Exists.intro
  refine ⟨fun M w hM hS => ?_, hK _ ?_⟩
  ·unfold calmAt
   go_simp
   with_reducible refine (D.out _).mono ?_
   rintro e w1 ⟨rfl, hb⟩
   exact ⟨rfl, hb⟩
  clear hK K
  iterate 4
   refine wpCalm_go rfl (by kernel_rfl) (fun K hK => ?_)
   apply Exists.intro
   refine ⟨fun M w hM hS => ?_, hK _ ?_⟩
   ·unfold calmAt
    go_simp
    exact ⟨rfl, Rel.refl _⟩
   clear hK K
  refine wpCalm_nil ?_
  have kz3 := h0.size
  (try simp only [World.size_alloc, World.size_setCell, World.size_drew] at kz3)
  have H3 := Lib.hid h0
  clear h0
  refine wpAnyR_ready (rs := [16]) (by kernel_rfl) (by simp) (AllR.cons rfl (fun w4 h4 K' hK' => ?_) AllR.nil)
  have kz4 := h4.size
  (try simp only [World.size_alloc, World.size_setCell, World.size_drew] at kz4)
  have H4 := Lib.hid h4
  clear h4
  go_simp
  refine hK'.out _ _ (by (show Rel _ _; repeat (first | with_reducible exact Rel.refl _ | with_reducible refine Rel.alloc ?_ _ | with_reducible refine Rel.setCell ?_ (by first | (simp; done) | (simp; omega)) _ | with_reducible refine Rel.drew ?_ | with_reducible refine Rel.trans ?_ H4.out | with_reducible refine Rel.trans ?_ H3.out | with_reducible refine Rel.trans ?_ H2.out | with_reducible refine Rel.trans ?_ H1.out | with_reducible refine Rel.trans ?_ H0.out))) ?_
  clear hK' K'
  refine wpAnyR_ready (rs := [17]) (by kernel_rfl) (by simp) (AllR.cons rfl (fun w5 h5 K' hK' => ?_) AllR.nil)
  have q := keep2 h5 (b := w4.heap.size) (by first | (simp; done) | (simp; omega) | omega)
  have kc5_0_0 := q.1
  have kc5_0_1 := q.2.1
  have kf5_0_0 := q.2.2.1
  have kf5_0_1 := q.2.2.2.1
  have kl5_0 := q.2.2.2.2.1
  have kn5_0 := q.2.2.2.2.2.1
  have km5_0 := q.2.2.2.2.2.2
  clear q
  have kz5 := h5.size
  (try simp only [World.size_alloc, World.size_setCell, World.size_drew] at kz5)
  have H5 := Lib.hid h5
  clear h5
  go_simp
  refine hK'.out _ _ (by (show Rel _ _; repeat (first | with_reducible exact Rel.refl _ | with_reducible refine Rel.alloc ?_ _ | with_reducible refine Rel.setCell ?_ (by first | (simp; done) | (simp; omega)) _ | with_reducible refine Rel.drew ?_ | with_reducible refine Rel.trans ?_ H5.out | with_reducible refine Rel.trans ?_ H4.out | with_reducible refine Rel.trans ?_ H3.out | with_reducible refine Rel.trans ?_ H2.out | with_reducible refine Rel.trans ?_ H1.out | with_reducible refine Rel.trans ?_ H0.out))) ?_
  clear hK' K'
  refine wpAnyR_ready (rs := [18]) (by kernel_rfl) (by simp) (AllR.cons rfl (fun w6 h6 K' hK' => ?_) AllR.nil)
  have q := keep2 h6 (b := w4.heap.size) (by first | (simp; done) | (simp; omega) | omega)
  have kc6_0_0 := q.1
  have kc6_0_1 := q.2.1
  have kf6_0_0 := q.2.2.1
  have kf6_0_1 := q.2.2.2.1
  have kl6_0 := q.2.2.2.2.1
  have kn6_0 := q.2.2.2.2.2.1
  have km6_0 := q.2.2.2.2.2.2
  clear q
  have kz6 := h6.size
  (try simp only [World.size_alloc, World.size_setCell, World.size_drew] at kz6)
  have H6 := Lib.hid h6
  clear h6
  go_simp
  refine hK'.out _ _ (by (show Rel _ _; repeat (first | with_reducible exact Rel.refl _ | with_reducible refine Rel.alloc ?_ _ | with_reducible refine Rel.setCell ?_ (by first | (simp; done) | (simp; omega)) _ | with_reducible refine Rel.drew ?_ | with_reducible refine Rel.trans ?_ H6.out | with_reducible refine Rel.trans ?_ H5.out | with_reducible refine Rel.trans ?_ H4.out | with_reducible refine Rel.trans ?_ H3.out | with_reducible refine Rel.trans ?_ H2.out | with_reducible refine Rel.trans ?_ H1.out | with_reducible refine Rel.trans ?_ H0.out))) ?_
  clear hK' K'
  refine wpAnyR_ready (rs := [19]) (by kernel_rfl) (by simp) (AllR.cons rfl (fun w7 h7 K' hK' => ?_) AllR.nil)
  have q := keep2 h7 (b := w4.heap.size) (by first | (simp; done) | (simp; omega) | omega)
  have kc7_0_0 := q.1
  have kc7_0_1 := q.2.1
  have kf7_0_0 := q.2.2.1
  have kf7_0_1 := q.2.2.2.1
  have kl7_0 := q.2.2.2.2.1
  have kn7_0 := q.2.2.2.2.2.1
  have km7_0 := q.2.2.2.2.2.2
  clear q
  have kz7 := h7.size
  (try simp only [World.size_alloc, World.size_setCell, World.size_drew] at kz7)
  have H7 := Lib.hid h7
  clear h7
  go_simp
  refine hK'.out _ _ (by (show Rel _ _; repeat (first | with_reducible exact Rel.refl _ | with_reducible refine Rel.alloc ?_ _ | with_reducible refine Rel.setCell ?_ (by first | (simp; done) | (simp; omega)) _ | with_reducible refine Rel.drew ?_ | with_reducible refine Rel.trans ?_ H7.out | with_reducible refine Rel.trans ?_ H6.out | with_reducible refine Rel.trans ?_ H5.out | with_reducible refine Rel.trans ?_ H4.out | with_reducible refine Rel.trans ?_ H3.out | with_reducible refine Rel.trans ?_ H2.out | with_reducible refine Rel.trans ?_ H1.out | with_reducible refine Rel.trans ?_ H0.out))) ?_
  clear hK' K'
  refine wpAnyR_end (by kernel_rfl) (fun w8 h8 => ?_)
  (try simp only [Act.put, List.setIfInBounds_toArray, List.set_cons_zero, List.set_cons_succ])
  have q := keep2 h8 (b := w4.heap.size) (by first | (simp; done) | (simp; omega) | omega)
  have kc8_0_0 := q.1
  have kc8_0_1 := q.2.1
  have kf8_0_0 := q.2.2.1
  have kf8_0_1 := q.2.2.2.1
  have kl8_0 := q.2.2.2.2.1
  have kn8_0 := q.2.2.2.2.2.1
  have km8_0 := q.2.2.2.2.2.2
  clear q
  have kz8 := h8.size
  (try simp only [World.size_alloc, World.size_setCell, World.size_drew] at kz8)
  have H8 := Lib.hid h8
  clear h8
  have RL : Hid (Rel w1 w8) := by (show Rel _ _; repeat (first | with_reducible exact Rel.refl _ | with_reducible refine Rel.alloc ?_ _ | with_reducible refine Rel.setCell ?_ (by first | (simp; done) | (simp; omega)) _ | with_reducible refine Rel.drew ?_ | with_reducible refine Rel.trans ?_ H8.out | with_reducible refine Rel.trans ?_ H7.out | with_reducible refine Rel.trans ?_ H6.out | with_reducible refine Rel.trans ?_ H5.out | with_reducible refine Rel.trans ?_ H4.out | with_reducible refine Rel.trans ?_ H3.out | with_reducible refine Rel.trans ?_ H2.out | with_reducible refine Rel.trans ?_ H1.out | with_reducible refine Rel.trans ?_ H0.out))
  have r8 := Lib.hid (r1.out.trans RL.out)
  have P8 := Lib.hid (P0.out.rel r8.out)
  have BR8 := Lib.hid (BR1.out.rel RL.out)
  have R8 := Lib.hid (R0.out.trans (Ro.of r8.out))
  have f1 := P8.out.f1
  have l8 := P8.out.lt
  have j1 := P8.out.c1
  rw [HII.out] at j1
  have z8 : w.heap.size + 1 ≤ w8.heap.size := Nat.le_trans y1 RL.out.size
  have nb4 : ¬ w4.heap.size = b := by have := r1.out.size; have := H3.out.size; have := H4.out.size; omega
  have hP9 := P8.out.adv HI.out
  have h9 : Ro b w8 (w8.setCell ⟨b, 1, none⟩ (.int .i64 ((s.i : Int) + 1))) := (Ro.refl b _).set 1 _
  rw [HII.out] at hP9 h9
  obtain ⟨w9, hw9⟩ : ∃ Y, w8.setCell ⟨b, 1, none⟩ (.int .i64 ((i : Int) + 1)) = Y := ⟨_, rfl⟩
  rw [hw9] at hP9 h9
  have P9 := Lib.hid hP9
  have R9 := Lib.hid (R8.out.trans h9)
  have BR9 := Lib.hid (BR8.out.ro h9 hbw)
  have m0 : w9.cell? ⟨w4.heap.size, 0, none⟩ = some (.int .i64 N) := h9.cell (by omega) nb4 (by go_simp)
  have m1 : w9.cell? ⟨w4.heap.size, 1, none⟩ = some (.int .i64 DD) := h9.cell (by omega) nb4 (by go_simp)
  obtain ⟨rl, rc0, rc1, rc2, rc3, rc4, rc5, rf0, rf1, rf2, rf3, rf4, rf5⟩ := BR9.out
  clear hP9 h9
  ((try simp only []); (repeat (first | go_values | go_skip | go_guarded | go_step | go_upon | go_in)))
  have hp := rdr_put6 P9.out HP.out.toks R9.out (Nat.le_refl w.heap.size) hbw (.int .i64 1) (.int .i64 N) (.int .i64 DD) (.int .i64 XX) (.string ⟨#[]⟩) (.slice none 0 0)
  have g0 : ((((((w9.setCell ⟨w.heap.size, 0, none⟩ (.int .i64 1)).setCell ⟨w.heap.size, 1, none⟩ (.int .i64 N)).setCell ⟨w.heap.size, 2, none⟩ (.int .i64 DD)).setCell ⟨w.heap.size, 3, none⟩ (.int .i64 XX)).setCell ⟨w.heap.size, 4, none⟩ (.string ⟨#[]⟩)).setCell ⟨w.heap.size, 5, none⟩ (.slice none 0 0)).cell? ⟨w.heap.size, 0, none⟩ = some (.int .i64 1) := by go_simp
  have g1 : ((((((w9.setCell ⟨w.heap.size, 0, none⟩ (.int .i64 1)).setCell ⟨w.heap.size, 1, none⟩ (.int .i64 N)).setCell ⟨w.heap.size, 2, none⟩ (.int .i64 DD)).setCell ⟨w.heap.size, 3, none⟩ (.int .i64 XX)).setCell ⟨w.heap.size, 4, none⟩ (.string ⟨#[]⟩)).setCell ⟨w.heap.size, 5, none⟩ (.slice none 0 0)).cell? ⟨w.heap.size, 1, none⟩ = some (.int .i64 N) := by go_simp
  have g2 : ((((((w9.setCell ⟨w.heap.size, 0, none⟩ (.int .i64 1)).setCell ⟨w.heap.size, 1, none⟩ (.int .i64 N)).setCell ⟨w.heap.size, 2, none⟩ (.int .i64 DD)).setCell ⟨w.heap.size, 3, none⟩ (.int .i64 XX)).setCell ⟨w.heap.size, 4, none⟩ (.string ⟨#[]⟩)).setCell ⟨w.heap.size, 5, none⟩ (.slice none 0 0)).cell? ⟨w.heap.size, 2, none⟩ = some (.int .i64 DD) := by go_simp
  have g3 : ((((((w9.setCell ⟨w.heap.size, 0, none⟩ (.int .i64 1)).setCell ⟨w.heap.size, 1, none⟩ (.int .i64 N)).setCell ⟨w.heap.size, 2, none⟩ (.int .i64 DD)).setCell ⟨w.heap.size, 3, none⟩ (.int .i64 XX)).setCell ⟨w.heap.size, 4, none⟩ (.string ⟨#[]⟩)).setCell ⟨w.heap.size, 5, none⟩ (.slice none 0 0)).cell? ⟨w.heap.size, 3, none⟩ = some (.int .i64 XX) := by go_simp
  have g4 : ((((((w9.setCell ⟨w.heap.size, 0, none⟩ (.int .i64 1)).setCell ⟨w.heap.size, 1, none⟩ (.int .i64 N)).setCell ⟨w.heap.size, 2, none⟩ (.int .i64 DD)).setCell ⟨w.heap.size, 3, none⟩ (.int .i64 XX)).setCell ⟨w.heap.size, 4, none⟩ (.string ⟨#[]⟩)).setCell ⟨w.heap.size, 5, none⟩ (.slice none 0 0)).cell? ⟨w.heap.size, 4, none⟩ = some (.string ⟨#[]⟩) := by go_simp
  have g5 : ((((((w9.setCell ⟨w.heap.size, 0, none⟩ (.int .i64 1)).setCell ⟨w.heap.size, 1, none⟩ (.int .i64 N)).setCell ⟨w.heap.size, 2, none⟩ (.int .i64 DD)).setCell ⟨w.heap.size, 3, none⟩ (.int .i64 XX)).setCell ⟨w.heap.size, 4, none⟩ (.string ⟨#[]⟩)).setCell ⟨w.heap.size, 5, none⟩ (.slice none 0 0)).cell? ⟨w.heap.size, 5, none⟩ = some (.slice none 0 0) := by go_simp
  refine bodyPost_ret (v := .agg #[.int .i64 1, .int .i64 N, .int .i64 DD, .int .i64 XX, .string ⟨#[]⟩, .slice none 0 0]) ?_ rfl ⟨trL N DD XX, _, rfl, leaf_tree ⟨by decide, by decide, by omega, by omega, by omega, by omega, by omega, by omega, by decide⟩, (fun _ => rfl), hp.1, hp.2⟩
  simp [results, Tryz.results91, go_sem, g0, g1, g2, g3, g4, g5]
 have ek : (pkK tk s == 2) = false := by rw [beq_eq_false_iff_ne]; exact hK
 clear hP
 obtain ⟨k1, a1⟩ : ∃ k, accB tk kNeg s = k := ⟨_, rfl⟩
 rw [a1]
 cases k1
 rotate_left
 ·skip
  rw [if_pos rfl]
  obtain ⟨-, hrem⟩ := acc_beh a1

  obtain ⟨T9, ht9⟩ : ∃ t, (pe tk f 7 .no s.adv).1 = t := ⟨_, rfl⟩
  obtain ⟨s9, hs9⟩ : ∃ t, (pe tk f 7 .no s.adv).2 = t := ⟨_, rfl⟩
  (try rw [ht9])
  (try rw [hs9])
  have b9 := (pe_beh tk f 7 .no s.adv (by unfold md; decide)).rem
  rw [hs9] at b9
  have U9 : Hid (s9.ok = true → Pt.ok s.adv = true) := by
   show _ → _
   rw [← hs9]; exact (pe_beh tk f 7 .no s.adv (by unfold md; decide)).2.1
  have Ht9 := Lib.hid ht9
  have Hs9 := Lib.hid hs9
  clear ht9 hs9

  have KD := Lib.hid (rkind_any b G tk E s 2 _ P0.out (by decide))
  unfold BRes at KD
  rw [ek] at KD
  (try unfold RRes)
  go_enter Tryz.func91, Tryz.ntmps91
  go_wp2_with fail

  refine KD.out.mono ?_
  rintro e w1 ⟨rfl, h1'⟩
  clear KD
  have hP1 := P0.out.rel h1'
  have h1 := Ro.of (b := b) h1'
  clear h1'
  have P1 := Lib.hid (hP1)
  have R1 := Lib.hid (R0.out.trans h1)
  have BR1 := Lib.hid (BR0.out.ro h1 hbw)
  have y1 : w.heap.size + 1 ≤ w1.heap.size := Nat.le_trans z0 h1.size
  have z1 := y1
  clear hP1 h1
  have A := Lib.hid (rtake_any b G tk E s ⟨#[45]⟩ _ P1.out (txOk_of hH hT (by decide)) hT.len)
  unfold RAcc accP at A
  have eK : (⟨#[45]⟩ : ByteArray).data.toList = kNeg := rfl
  rw [eK] at A
  clear eK
  rw [a1, if_pos rfl] at A

  go_wp2_with fail
  refine A.out.mono ?_
  rintro e w2 ⟨rfl, hP2, h2⟩
  clear A
  have P2 := Lib.hid (hP2)
  have R2 := Lib.hid (R1.out.trans h2)
  have BR2 := Lib.hid (BR1.out.ro h2 hbw)
  have y2 : w.heap.size + 1 ≤ w2.heap.size := Nat.le_trans z1 h2.size
  have z2 := y2
  clear hP2 h2
  have C := Lib.hid (show Calls Tryz.prog 44 #[.pointer (some ⟨b, 0, none⟩), .int .i64 7] _ _ from HH.out f (Nat.le_refl _) 7 (by decide) _ s.adv P2.out (show 10 * rem tk s.adv + 1 ≤ f by omega))
  unfold RRes at C
  rw [Ht9.out, Hs9.out] at C
  go_wp2_with fail
  refine C.out.mono ?_
  rintro e w9 ⟨t9, x9, rfl, hK9, hq9, hP9, h9⟩
  obtain ⟨xa9, xc9, rfl⟩ := kids_slice (kidsB_to hK9)
  have Q9 := Lib.hid hq9
  clear C hq9
  have P9 := Lib.hid (hP9)
  have R9 := Lib.hid (R2.out.trans h9)
  have BR9 := Lib.hid (BR2.out.ro h9 hbw)
  have K9_9 := Lib.hid (kidsB_mono (Q := fun q => w.heap.size < q) hK9 (fun q hq hp => by omega))
  have y9 : w.heap.size + 1 ≤ w9.heap.size := Nat.le_trans z2 h9.size
  have z9 := y9
  clear hP9 h9 hK9
  obtain ⟨rl, rc0, rc1, rc2, rc3, rc4, rc5, rf0, rf1, rf2, rf3, rf4, rf5⟩ := BR9.out
  ((try simp only []); (repeat (first | go_values | go_skip | go_guarded | go_step | go_upon | go_in)))
  have hp := rdr_put6 P9.out HP.out.toks R9.out (Nat.le_refl w.heap.size) hbw (.int .i64 4) (.int .i64 0) (.int .i64 0) (.int .i64 0) (.string ⟨#[]⟩) (.slice (some ⟨w9.heap.size, 0, none⟩) 1 1)
  have g0 : (((((((w9.setCell ⟨w.heap.size, 0, none⟩ (.int .i64 4)).setCell ⟨w.heap.size, 1, none⟩ (.int .i64 0)).setCell ⟨w.heap.size, 2, none⟩ (.int .i64 0)).setCell ⟨w.heap.size, 3, none⟩ (.int .i64 0)).setCell ⟨w.heap.size, 4, none⟩ (.string ⟨#[]⟩)).setCell ⟨w.heap.size, 5, none⟩ (.slice (some ⟨w9.heap.size, 0, none⟩) 1 1)).alloc (.cells #[.int .i64 t9.op, .int .i64 t9.va, .int .i64 t9.vb, .int .i64 t9.dm, .string t9.nm, .slice xa9 t9.cnt xc9] 29)).cell? ⟨w.heap.size, 0, none⟩ = some (.int .i64 4) := by go_simp
  have g1 : (((((((w9.setCell ⟨w.heap.size, 0, none⟩ (.int .i64 4)).setCell ⟨w.heap.size, 1, none⟩ (.int .i64 0)).setCell ⟨w.heap.size, 2, none⟩ (.int .i64 0)).setCell ⟨w.heap.size, 3, none⟩ (.int .i64 0)).setCell ⟨w.heap.size, 4, none⟩ (.string ⟨#[]⟩)).setCell ⟨w.heap.size, 5, none⟩ (.slice (some ⟨w9.heap.size, 0, none⟩) 1 1)).alloc (.cells #[.int .i64 t9.op, .int .i64 t9.va, .int .i64 t9.vb, .int .i64 t9.dm, .string t9.nm, .slice xa9 t9.cnt xc9] 29)).cell? ⟨w.heap.size, 1, none⟩ = some (.int .i64 0) := by go_simp
  have g2 : (((((((w9.setCell ⟨w.heap.size, 0, none⟩ (.int .i64 4)).setCell ⟨w.heap.size, 1, none⟩ (.int .i64 0)).setCell ⟨w.heap.size, 2, none⟩ (.int .i64 0)).setCell ⟨w.heap.size, 3, none⟩ (.int .i64 0)).setCell ⟨w.heap.size, 4, none⟩ (.string ⟨#[]⟩)).setCell ⟨w.heap.size, 5, none⟩ (.slice (some ⟨w9.heap.size, 0, none⟩) 1 1)).alloc (.cells #[.int .i64 t9.op, .int .i64 t9.va, .int .i64 t9.vb, .int .i64 t9.dm, .string t9.nm, .slice xa9 t9.cnt xc9] 29)).cell? ⟨w.heap.size, 2, none⟩ = some (.int .i64 0) := by go_simp
  have g3 : (((((((w9.setCell ⟨w.heap.size, 0, none⟩ (.int .i64 4)).setCell ⟨w.heap.size, 1, none⟩ (.int .i64 0)).setCell ⟨w.heap.size, 2, none⟩ (.int .i64 0)).setCell ⟨w.heap.size, 3, none⟩ (.int .i64 0)).setCell ⟨w.heap.size, 4, none⟩ (.string ⟨#[]⟩)).setCell ⟨w.heap.size, 5, none⟩ (.slice (some ⟨w9.heap.size, 0, none⟩) 1 1)).alloc (.cells #[.int .i64 t9.op, .int .i64 t9.va, .int .i64 t9.vb, .int .i64 t9.dm, .string t9.nm, .slice xa9 t9.cnt xc9] 29)).cell? ⟨w.heap.size, 3, none⟩ = some (.int .i64 0) := by go_simp
  have g4 : (((((((w9.setCell ⟨w.heap.size, 0, none⟩ (.int .i64 4)).setCell ⟨w.heap.size, 1, none⟩ (.int .i64 0)).setCell ⟨w.heap.size, 2, none⟩ (.int .i64 0)).setCell ⟨w.heap.size, 3, none⟩ (.int .i64 0)).setCell ⟨w.heap.size, 4, none⟩ (.string ⟨#[]⟩)).setCell ⟨w.heap.size, 5, none⟩ (.slice (some ⟨w9.heap.size, 0, none⟩) 1 1)).alloc (.cells #[.int .i64 t9.op, .int .i64 t9.va, .int .i64 t9.vb, .int .i64 t9.dm, .string t9.nm, .slice xa9 t9.cnt xc9] 29)).cell? ⟨w.heap.size, 4, none⟩ = some (.string ⟨#[]⟩) := by go_simp
  have g5 : (((((((w9.setCell ⟨w.heap.size, 0, none⟩ (.int .i64 4)).setCell ⟨w.heap.size, 1, none⟩ (.int .i64 0)).setCell ⟨w.heap.size, 2, none⟩ (.int .i64 0)).setCell ⟨w.heap.size, 3, none⟩ (.int .i64 0)).setCell ⟨w.heap.size, 4, none⟩ (.string ⟨#[]⟩)).setCell ⟨w.heap.size, 5, none⟩ (.slice (some ⟨w9.heap.size, 0, none⟩) 1 1)).alloc (.cells #[.int .i64 t9.op, .int .i64 t9.va, .int .i64 t9.vb, .int .i64 t9.dm, .string t9.nm, .slice xa9 t9.cnt xc9] 29)).cell? ⟨w.heap.size, 5, none⟩ = some (.slice (some ⟨w9.heap.size, 0, none⟩) 1 1) := by go_simp
  refine bodyPost_ret (v := .agg #[.int .i64 4, .int .i64 0, .int .i64 0, .int .i64 0, .string ⟨#[]⟩, .slice (some ⟨w9.heap.size, 0, none⟩) 1 1]) ?_ rfl ⟨_, _, rfl, one_tree (op := 4) (by simp [World.setCell]) (by omega) ⟨by decide, by decide⟩ (kidsB_p6 K9_9.out (g := w.heap.size) (Q := fun q => w.heap.size ≤ q) (fun q _ hq => ⟨by omega, by omega⟩) _ _ _ _ _ _), (fun h => by rw [Q9.out h]), hp.1.rel ((Rel.refl _).alloc _), hp.2.alloc _⟩
  simp [results, Tryz.results91, go_sem, g0, g1, g2, g3, g4, g5]
 rw [if_neg (by simp)]
 obtain ⟨k2, a2⟩ : ∃ k, accB tk kOpen s = k := ⟨_, rfl⟩
 rw [a2]
 cases k2
 rotate_left
 ·skip
  rw [if_pos rfl]
  obtain ⟨-, hrem⟩ := acc_beh a2

  obtain ⟨T9, ht9⟩ : ∃ t, (pe tk f 0 .no s.adv).1 = t := ⟨_, rfl⟩
  obtain ⟨s9, hs9⟩ : ∃ t, (pe tk f 0 .no s.adv).2 = t := ⟨_, rfl⟩
  (try rw [ht9])
  (try rw [hs9])
  have b9 := (pe_beh tk f 0 .no s.adv (by unfold md; decide)).rem
  rw [hs9] at b9
  have U9 : Hid (s9.ok = true → Pt.ok s.adv = true) := by
   show _ → _
   rw [← hs9]; exact (pe_beh tk f 0 .no s.adv (by unfold md; decide)).2.1
  have Ht9 := Lib.hid ht9
  have Hs9 := Lib.hid hs9
  clear ht9 hs9
  have e9 := (exp_beh tk kShut s9).rem
  have uS := (exp_beh tk kShut s9).2.1

  have KD := Lib.hid (rkind_any b G tk E s 2 _ P0.out (by decide))
  unfold BRes at KD
  rw [ek] at KD
  (try unfold RRes)
  go_enter Tryz.func91, Tryz.ntmps91
  go_wp2_with fail

  refine KD.out.mono ?_
  rintro e w1 ⟨rfl, h1'⟩
  clear KD
  have hP1 := P0.out.rel h1'
  have h1 := Ro.of (b := b) h1'
  clear h1'
  have P1 := Lib.hid (hP1)
  have R1 := Lib.hid (R0.out.trans h1)
  have BR1 := Lib.hid (BR0.out.ro h1 hbw)
  have y1 : w.heap.size + 1 ≤ w1.heap.size := Nat.le_trans z0 h1.size
  have z1 := y1
  clear hP1 h1
  have A := Lib.hid (rtake_any b G tk E s ⟨#[45]⟩ _ P1.out (txOk_of hH hT (by decide)) hT.len)
  unfold RAcc accP at A
  have eK : (⟨#[45]⟩ : ByteArray).data.toList = kNeg := rfl
  rw [eK] at A
  clear eK
  rw [a1, if_neg (by simp)] at A

  go_wp2_with fail
  refine A.out.mono ?_
  rintro e w2 ⟨rfl, hP2, h2⟩
  clear A
  have P2 := Lib.hid (hP2)
  have R2 := Lib.hid (R1.out.trans h2)
  have BR2 := Lib.hid (BR1.out.ro h2 hbw)
  have y2 : w.heap.size + 1 ≤ w2.heap.size := Nat.le_trans z1 h2.size
  have z2 := y2
  clear hP2 h2
  have A := Lib.hid (rtake_any b G tk E s ⟨#[40]⟩ _ P2.out (txOk_of hH hT (by decide)) hT.len)
  unfold RAcc accP at A
  have eK : (⟨#[40]⟩ : ByteArray).data.toList = kOpen := rfl
  rw [eK] at A
  clear eK
  rw [a2, if_pos rfl] at A

  go_wp2_with fail
  refine A.out.mono ?_
  rintro e w3 ⟨rfl, hP3, h3⟩
  clear A
  have P3 := Lib.hid (hP3)
  have R3 := Lib.hid (R2.out.trans h3)
  have BR3 := Lib.hid (BR2.out.ro h3 hbw)
  have y3 : w.heap.size + 1 ≤ w3.heap.size := Nat.le_trans z2 h3.size
  have z3 := y3
  clear hP3 h3
  have C := Lib.hid (show Calls Tryz.prog 44 #[.pointer (some ⟨b, 0, none⟩), .int .i64 0] _ _ from HH.out f (Nat.le_refl _) 0 (by decide) _ s.adv P3.out (show 10 * rem tk s.adv + 8 ≤ f by omega))
  unfold RRes at C
  rw [Ht9.out, Hs9.out] at C
  go_wp2_with fail
  refine C.out.mono ?_
  rintro e w9 ⟨t9, x9, rfl, hK9, hq9, hP9, h9⟩
  obtain ⟨xa9, xc9, rfl⟩ := kids_slice (kidsB_to hK9)
  have Q9 := Lib.hid hq9
  clear C hq9
  have P9 := Lib.hid ((hP9).rel ((Rel.refl _).alloc (.cells #[.int .i64 t9.op, .int .i64 t9.va, .int .i64 t9.vb, .int .i64 t9.dm, .string t9.nm, .slice xa9 t9.cnt xc9] 29)))
  have R9 := Lib.hid ((R3.out.trans h9).alloc (.cells #[.int .i64 t9.op, .int .i64 t9.va, .int .i64 t9.vb, .int .i64 t9.dm, .string t9.nm, .slice xa9 t9.cnt xc9] 29))
  have BR9 := Lib.hid ((BR3.out.ro h9 hbw).rel ((Rel.refl _).alloc (.cells #[.int .i64 t9.op, .int .i64 t9.va, .int .i64 t9.vb, .int .i64 t9.dm, .string t9.nm, .slice xa9 t9.cnt xc9] 29)))
  have K9_9 := Lib.hid (kidsB_rl (kidsB_mono (Q := fun q => w.heap.size < q) hK9 (fun q hq hp => by omega)) ((Rel.refl _).alloc (.cells #[.int .i64 t9.op, .int .i64 t9.va, .int .i64 t9.vb, .int .i64 t9.dm, .string t9.nm, .slice xa9 t9.cnt xc9] 29)))
  have y9 : w.heap.size + 1 ≤ w9.heap.size := Nat.le_trans z3 h9.size
  have z9 : w.heap.size + 1 ≤ (w9.alloc (.cells #[.int .i64 t9.op, .int .i64 t9.va, .int .i64 t9.vb, .int .i64 t9.dm, .string t9.nm, .slice xa9 t9.cnt xc9] 29)).heap.size := by simp; omega
  have E9_9 := Lib.hid (BoxAt.new (w := w9) (g := w9.heap.size) rfl (.int .i64 t9.op) (.int .i64 t9.va) (.int .i64 t9.vb) (.int .i64 t9.dm) (.string t9.nm) (.slice xa9 t9.cnt xc9) 29)
  clear hP9 h9 hK9
  have X := Lib.hid (rwant_any b G tk E s9 ⟨#[41]⟩ _ P9.out (txOk_of hH hT (by decide)) hT.len)
  have eK : (⟨#[41]⟩ : ByteArray).data.toList = kShut := rfl
  rw [eK] at X
  clear eK
  go_wp2_with fail
  refine X.out.mono ?_
  unfold RUn
  rintro e w10 ⟨⟨v10, rfl⟩, hP10, h10⟩
  clear X
  have P10 := Lib.hid (hP10)
  have R10 := Lib.hid (R9.out.trans h10)
  have BR10 := Lib.hid (BR9.out.ro h10 hbw)
  have E9_10 := Lib.hid (E9_9.out.ro h10 (by omega))
  have K9_10 := Lib.hid (kidsB_ro K9_9.out h10 (fun q hq => by omega))
  have y10 : w.heap.size + 1 ≤ w10.heap.size := Nat.le_trans z9 h10.size
  have z10 := y10
  clear hP10 h10
  obtain ⟨rl, rc0, rc1, rc2, rc3, rc4, rc5, rf0, rf1, rf2, rf3, rf4, rf5⟩ := BR10.out
  obtain ⟨l9, c90, c91, c92, c93, c94, c95, q90, q91, q92, q93, q94, q95⟩ := E9_10.out
  ((try simp only []); (repeat (first | go_values | go_skip | go_guarded | go_step | go_upon | go_in)))
  have hp := rdr_put6 P10.out HP.out.toks R10.out (Nat.le_refl w.heap.size) hbw (.int .i64 t9.op) (.int .i64 t9.va) (.int .i64 t9.vb) (.int .i64 t9.dm) (.string t9.nm) (.slice xa9 t9.cnt xc9)
  have g0 : ((((((w10.setCell ⟨w.heap.size, 0, none⟩ (.int .i64 t9.op)).setCell ⟨w.heap.size, 1, none⟩ (.int .i64 t9.va)).setCell ⟨w.heap.size, 2, none⟩ (.int .i64 t9.vb)).setCell ⟨w.heap.size, 3, none⟩ (.int .i64 t9.dm)).setCell ⟨w.heap.size, 4, none⟩ (.string t9.nm)).setCell ⟨w.heap.size, 5, none⟩ (.slice xa9 t9.cnt xc9)).cell? ⟨w.heap.size, 0, none⟩ = some (.int .i64 t9.op) := by go_simp
  have g1 : ((((((w10.setCell ⟨w.heap.size, 0, none⟩ (.int .i64 t9.op)).setCell ⟨w.heap.size, 1, none⟩ (.int .i64 t9.va)).setCell ⟨w.heap.size, 2, none⟩ (.int .i64 t9.vb)).setCell ⟨w.heap.size, 3, none⟩ (.int .i64 t9.dm)).setCell ⟨w.heap.size, 4, none⟩ (.string t9.nm)).setCell ⟨w.heap.size, 5, none⟩ (.slice xa9 t9.cnt xc9)).cell? ⟨w.heap.size, 1, none⟩ = some (.int .i64 t9.va) := by go_simp
  have g2 : ((((((w10.setCell ⟨w.heap.size, 0, none⟩ (.int .i64 t9.op)).setCell ⟨w.heap.size, 1, none⟩ (.int .i64 t9.va)).setCell ⟨w.heap.size, 2, none⟩ (.int .i64 t9.vb)).setCell ⟨w.heap.size, 3, none⟩ (.int .i64 t9.dm)).setCell ⟨w.heap.size, 4, none⟩ (.string t9.nm)).setCell ⟨w.heap.size, 5, none⟩ (.slice xa9 t9.cnt xc9)).cell? ⟨w.heap.size, 2, none⟩ = some (.int .i64 t9.vb) := by go_simp
  have g3 : ((((((w10.setCell ⟨w.heap.size, 0, none⟩ (.int .i64 t9.op)).setCell ⟨w.heap.size, 1, none⟩ (.int .i64 t9.va)).setCell ⟨w.heap.size, 2, none⟩ (.int .i64 t9.vb)).setCell ⟨w.heap.size, 3, none⟩ (.int .i64 t9.dm)).setCell ⟨w.heap.size, 4, none⟩ (.string t9.nm)).setCell ⟨w.heap.size, 5, none⟩ (.slice xa9 t9.cnt xc9)).cell? ⟨w.heap.size, 3, none⟩ = some (.int .i64 t9.dm) := by go_simp
  have g4 : ((((((w10.setCell ⟨w.heap.size, 0, none⟩ (.int .i64 t9.op)).setCell ⟨w.heap.size, 1, none⟩ (.int .i64 t9.va)).setCell ⟨w.heap.size, 2, none⟩ (.int .i64 t9.vb)).setCell ⟨w.heap.size, 3, none⟩ (.int .i64 t9.dm)).setCell ⟨w.heap.size, 4, none⟩ (.string t9.nm)).setCell ⟨w.heap.size, 5, none⟩ (.slice xa9 t9.cnt xc9)).cell? ⟨w.heap.size, 4, none⟩ = some (.string t9.nm) := by go_simp
  have g5 : ((((((w10.setCell ⟨w.heap.size, 0, none⟩ (.int .i64 t9.op)).setCell ⟨w.heap.size, 1, none⟩ (.int .i64 t9.va)).setCell ⟨w.heap.size, 2, none⟩ (.int .i64 t9.vb)).setCell ⟨w.heap.size, 3, none⟩ (.int .i64 t9.dm)).setCell ⟨w.heap.size, 4, none⟩ (.string t9.nm)).setCell ⟨w.heap.size, 5, none⟩ (.slice xa9 t9.cnt xc9)).cell? ⟨w.heap.size, 5, none⟩ = some (.slice xa9 t9.cnt xc9) := by go_simp
  refine bodyPost_ret (v := .agg #[.int .i64 t9.op, .int .i64 t9.va, .int .i64 t9.vb, .int .i64 t9.dm, .string t9.nm, .slice xa9 t9.cnt xc9]) ?_ rfl ⟨_, _, rfl, kidsB_p6 K9_10.out (g := w.heap.size) (Q := fun q => w.heap.size ≤ q) (fun q _ hq => ⟨by omega, by omega⟩) _ _ _ _ _ _, (fun h => Q9.out (uS h)), hp.1, hp.2⟩
  simp [results, Tryz.results91, go_sem, g0, g1, g2, g3, g4, g5]
 rw [if_neg (by simp)]
 obtain ⟨k3, a3⟩ : ∃ k, accB tk kBest s = k := ⟨_, rfl⟩
 rw [a3]
 cases k3
 rotate_left
 ·skip
  rw [if_pos rfl]
  obtain ⟨-, hrem⟩ := acc_beh a3
  have e8 := (exp_beh tk kOpen s.adv).rem
  have nb := numT_bd tk (expP tk kOpen s.adv)
  obtain ⟨n, hn⟩ : ∃ n, numT tk 1 45 (expP tk kOpen s.adv) = n := ⟨_, rfl⟩
  rw [hn] at nb ⊢
  have HNn := Lib.hid hn
  clear hn

  have KD := Lib.hid (rkind_any b G tk E s 2 _ P0.out (by decide))
  unfold BRes at KD
  rw [ek] at KD
  (try unfold RRes)
  go_enter Tryz.func91, Tryz.ntmps91
  go_wp2_with fail

  refine KD.out.mono ?_
  rintro e w1 ⟨rfl, h1'⟩
  clear KD
  have hP1 := P0.out.rel h1'
  have h1 := Ro.of (b := b) h1'
  clear h1'
  have P1 := Lib.hid (hP1)
  have R1 := Lib.hid (R0.out.trans h1)
  have BR1 := Lib.hid (BR0.out.ro h1 hbw)
  have y1 : w.heap.size + 1 ≤ w1.heap.size := Nat.le_trans z0 h1.size
  have z1 := y1
  clear hP1 h1
  have A := Lib.hid (rtake_any b G tk E s ⟨#[45]⟩ _ P1.out (txOk_of hH hT (by decide)) hT.len)
  unfold RAcc accP at A
  have eK : (⟨#[45]⟩ : ByteArray).data.toList = kNeg := rfl
  rw [eK] at A
  clear eK
  rw [a1, if_neg (by simp)] at A

  go_wp2_with fail
  refine A.out.mono ?_
  rintro e w2 ⟨rfl, hP2, h2⟩
  clear A
  have P2 := Lib.hid (hP2)
  have R2 := Lib.hid (R1.out.trans h2)
  have BR2 := Lib.hid (BR1.out.ro h2 hbw)
  have y2 : w.heap.size + 1 ≤ w2.heap.size := Nat.le_trans z1 h2.size
  have z2 := y2
  clear hP2 h2
  have A := Lib.hid (rtake_any b G tk E s ⟨#[40]⟩ _ P2.out (txOk_of hH hT (by decide)) hT.len)
  unfold RAcc accP at A
  have eK : (⟨#[40]⟩ : ByteArray).data.toList = kOpen := rfl
  rw [eK] at A
  clear eK
  rw [a2, if_neg (by simp)] at A

  go_wp2_with fail
  refine A.out.mono ?_
  rintro e w3 ⟨rfl, hP3, h3⟩
  clear A
  have P3 := Lib.hid (hP3)
  have R3 := Lib.hid (R2.out.trans h3)
  have BR3 := Lib.hid (BR2.out.ro h3 hbw)
  have y3 : w.heap.size + 1 ≤ w3.heap.size := Nat.le_trans z2 h3.size
  have z3 := y3
  clear hP3 h3
  have A := Lib.hid (rtake_any b G tk E s ⟨#[98, 101, 115, 116]⟩ _ P3.out (txOk_of hH hT (by decide)) hT.len)
  unfold RAcc accP at A
  have eK : (⟨#[98, 101, 115, 116]⟩ : ByteArray).data.toList = kBest := rfl
  rw [eK] at A
  clear eK
  rw [a3, if_pos rfl] at A

  go_wp2_with fail
  refine A.out.mono ?_
  rintro e w4 ⟨rfl, hP4, h4⟩
  clear A
  have P4 := Lib.hid (hP4)
  have R4 := Lib.hid (R3.out.trans h4)
  have BR4 := Lib.hid (BR3.out.ro h4 hbw)
  have y4 : w.heap.size + 1 ≤ w4.heap.size := Nat.le_trans z3 h4.size
  have z4 := y4
  clear hP4 h4
  have X := Lib.hid (rwant_any b G tk E s.adv ⟨#[40]⟩ _ P4.out (txOk_of hH hT (by decide)) hT.len)
  have eK : (⟨#[40]⟩ : ByteArray).data.toList = kOpen := rfl
  rw [eK] at X
  clear eK
  go_wp2_with fail
  refine X.out.mono ?_
  unfold RUn
  rintro e w5 ⟨⟨v5, rfl⟩, hP5, h5⟩
  clear X
  have P5 := Lib.hid (hP5)
  have R5 := Lib.hid (R4.out.trans h5)
  have BR5 := Lib.hid (BR4.out.ro h5 hbw)
  have y5 : w.heap.size + 1 ≤ w5.heap.size := Nat.le_trans z4 h5.size
  have z5 := y5
  clear hP5 h5
  have N := Lib.hid (rwhole_any b G tk E 1 45 (expP tk kOpen s.adv) _ P5.out hT)
  unfold RNum at N
  rw [HNn.out] at N
  go_wp2_with fail
  refine N.out.mono ?_
  rintro e w6 ⟨rfl, hP6, h6⟩
  clear N
  have P6 := Lib.hid (hP6)
  have R6 := Lib.hid (R5.out.trans h6)
  have BR6 := Lib.hid (BR5.out.ro h6 hbw)
  have y6 : w.heap.size + 1 ≤ w6.heap.size := Nat.le_trans z5 h6.size
  have z6 := y6
  clear hP6 h6
  have X := Lib.hid (rwant_any b G tk E (numP tk 1 45 (expP tk kOpen s.adv)) ⟨#[41]⟩ _ P6.out (txOk_of hH hT (by decide)) hT.len)
  have eK : (⟨#[41]⟩ : ByteArray).data.toList = kShut := rfl
  rw [eK] at X
  clear eK
  go_wp2_with fail
  refine X.out.mono ?_
  unfold RUn
  rintro e w7 ⟨⟨v7, rfl⟩, hP7, h7⟩
  clear X
  have P7 := Lib.hid (hP7)
  have R7 := Lib.hid (R6.out.trans h7)
  have BR7 := Lib.hid (BR6.out.ro h7 hbw)
  have y7 : w.heap.size + 1 ≤ w7.heap.size := Nat.le_trans z6 h7.size
  have z7 := y7
  clear hP7 h7
  obtain ⟨rl, rc0, rc1, rc2, rc3, rc4, rc5, rf0, rf1, rf2, rf3, rf4, rf5⟩ := BR7.out
  ((try simp only []); (repeat (first | go_values | go_skip | go_guarded | go_step | go_upon | go_in)))
  have hp := rdr_put6 P7.out HP.out.toks R7.out (Nat.le_refl w.heap.size) hbw (.int .i64 3) (.int .i64 n) (.int .i64 1) (.int .i64 0) (.string ⟨#[]⟩) (.slice none 0 0)
  have g0 : ((((((w7.setCell ⟨w.heap.size, 0, none⟩ (.int .i64 3)).setCell ⟨w.heap.size, 1, none⟩ (.int .i64 n)).setCell ⟨w.heap.size, 2, none⟩ (.int .i64 1)).setCell ⟨w.heap.size, 3, none⟩ (.int .i64 0)).setCell ⟨w.heap.size, 4, none⟩ (.string ⟨#[]⟩)).setCell ⟨w.heap.size, 5, none⟩ (.slice none 0 0)).cell? ⟨w.heap.size, 0, none⟩ = some (.int .i64 3) := by go_simp
  have g1 : ((((((w7.setCell ⟨w.heap.size, 0, none⟩ (.int .i64 3)).setCell ⟨w.heap.size, 1, none⟩ (.int .i64 n)).setCell ⟨w.heap.size, 2, none⟩ (.int .i64 1)).setCell ⟨w.heap.size, 3, none⟩ (.int .i64 0)).setCell ⟨w.heap.size, 4, none⟩ (.string ⟨#[]⟩)).setCell ⟨w.heap.size, 5, none⟩ (.slice none 0 0)).cell? ⟨w.heap.size, 1, none⟩ = some (.int .i64 n) := by go_simp
  have g2 : ((((((w7.setCell ⟨w.heap.size, 0, none⟩ (.int .i64 3)).setCell ⟨w.heap.size, 1, none⟩ (.int .i64 n)).setCell ⟨w.heap.size, 2, none⟩ (.int .i64 1)).setCell ⟨w.heap.size, 3, none⟩ (.int .i64 0)).setCell ⟨w.heap.size, 4, none⟩ (.string ⟨#[]⟩)).setCell ⟨w.heap.size, 5, none⟩ (.slice none 0 0)).cell? ⟨w.heap.size, 2, none⟩ = some (.int .i64 1) := by go_simp
  have g3 : ((((((w7.setCell ⟨w.heap.size, 0, none⟩ (.int .i64 3)).setCell ⟨w.heap.size, 1, none⟩ (.int .i64 n)).setCell ⟨w.heap.size, 2, none⟩ (.int .i64 1)).setCell ⟨w.heap.size, 3, none⟩ (.int .i64 0)).setCell ⟨w.heap.size, 4, none⟩ (.string ⟨#[]⟩)).setCell ⟨w.heap.size, 5, none⟩ (.slice none 0 0)).cell? ⟨w.heap.size, 3, none⟩ = some (.int .i64 0) := by go_simp
  have g4 : ((((((w7.setCell ⟨w.heap.size, 0, none⟩ (.int .i64 3)).setCell ⟨w.heap.size, 1, none⟩ (.int .i64 n)).setCell ⟨w.heap.size, 2, none⟩ (.int .i64 1)).setCell ⟨w.heap.size, 3, none⟩ (.int .i64 0)).setCell ⟨w.heap.size, 4, none⟩ (.string ⟨#[]⟩)).setCell ⟨w.heap.size, 5, none⟩ (.slice none 0 0)).cell? ⟨w.heap.size, 4, none⟩ = some (.string ⟨#[]⟩) := by go_simp
  have g5 : ((((((w7.setCell ⟨w.heap.size, 0, none⟩ (.int .i64 3)).setCell ⟨w.heap.size, 1, none⟩ (.int .i64 n)).setCell ⟨w.heap.size, 2, none⟩ (.int .i64 1)).setCell ⟨w.heap.size, 3, none⟩ (.int .i64 0)).setCell ⟨w.heap.size, 4, none⟩ (.string ⟨#[]⟩)).setCell ⟨w.heap.size, 5, none⟩ (.slice none 0 0)).cell? ⟨w.heap.size, 5, none⟩ = some (.slice none 0 0) := by go_simp
  refine bodyPost_ret (v := .agg #[.int .i64 3, .int .i64 n, .int .i64 1, .int .i64 0, .string ⟨#[]⟩, .slice none 0 0]) ?_ rfl ⟨trS n, _, rfl, leaf_tree ⟨by decide, by decide, by omega, by omega, by decide, by decide, by decide, by decide, by decide⟩, (fun _ => rfl), hp.1, hp.2⟩
  simp [results, Tryz.results91, go_sem, g0, g1, g2, g3, g4, g5]
 rw [if_neg (by simp)]
 obtain ⟨k4, a4⟩ : ∃ k, accB tk kFloor s = k := ⟨_, rfl⟩
 rw [a4]
 cases k4
 rotate_left
 ·skip
  rw [if_pos rfl]
  obtain ⟨-, hrem⟩ := acc_beh a4
  obtain ⟨tt, htt, -⟩ := accB_some a4
  obtain ⟨-, hi, -⟩ := tkAt_some htt
  clear htt

  obtain ⟨R9, hR9⟩ : ∃ r, (trU 6 (pe tk f 0 .no (expP tk kOpen s.adv)).1, expP tk kShut (pe tk f 0 .no (expP tk kOpen s.adv)).2) = r := ⟨_, rfl⟩
  rw [hR9]
  have HR9 := Lib.hid hR9
  clear hR9

  have KD := Lib.hid (rkind_any b G tk E s 2 _ P0.out (by decide))
  unfold BRes at KD
  rw [ek] at KD
  (try unfold RRes)
  go_enter Tryz.func91, Tryz.ntmps91
  go_wp2_with fail

  refine KD.out.mono ?_
  rintro e w1 ⟨rfl, h1'⟩
  clear KD
  have hP1 := P0.out.rel h1'
  have h1 := Ro.of (b := b) h1'
  clear h1'
  have P1 := Lib.hid (hP1)
  have R1 := Lib.hid (R0.out.trans h1)
  have BR1 := Lib.hid (BR0.out.ro h1 hbw)
  have y1 : w.heap.size + 1 ≤ w1.heap.size := Nat.le_trans z0 h1.size
  have z1 := y1
  clear hP1 h1
  have A := Lib.hid (rtake_any b G tk E s ⟨#[45]⟩ _ P1.out (txOk_of hH hT (by decide)) hT.len)
  unfold RAcc accP at A
  have eK : (⟨#[45]⟩ : ByteArray).data.toList = kNeg := rfl
  rw [eK] at A
  clear eK
  rw [a1, if_neg (by simp)] at A

  go_wp2_with fail
  refine A.out.mono ?_
  rintro e w2 ⟨rfl, hP2, h2⟩
  clear A
  have P2 := Lib.hid (hP2)
  have R2 := Lib.hid (R1.out.trans h2)
  have BR2 := Lib.hid (BR1.out.ro h2 hbw)
  have y2 : w.heap.size + 1 ≤ w2.heap.size := Nat.le_trans z1 h2.size
  have z2 := y2
  clear hP2 h2
  have A := Lib.hid (rtake_any b G tk E s ⟨#[40]⟩ _ P2.out (txOk_of hH hT (by decide)) hT.len)
  unfold RAcc accP at A
  have eK : (⟨#[40]⟩ : ByteArray).data.toList = kOpen := rfl
  rw [eK] at A
  clear eK
  rw [a2, if_neg (by simp)] at A

  go_wp2_with fail
  refine A.out.mono ?_
  rintro e w3 ⟨rfl, hP3, h3⟩
  clear A
  have P3 := Lib.hid (hP3)
  have R3 := Lib.hid (R2.out.trans h3)
  have BR3 := Lib.hid (BR2.out.ro h3 hbw)
  have y3 : w.heap.size + 1 ≤ w3.heap.size := Nat.le_trans z2 h3.size
  have z3 := y3
  clear hP3 h3
  have A := Lib.hid (rtake_any b G tk E s ⟨#[98, 101, 115, 116]⟩ _ P3.out (txOk_of hH hT (by decide)) hT.len)
  unfold RAcc accP at A
  have eK : (⟨#[98, 101, 115, 116]⟩ : ByteArray).data.toList = kBest := rfl
  rw [eK] at A
  clear eK
  rw [a3, if_neg (by simp)] at A

  go_wp2_with fail
  refine A.out.mono ?_
  rintro e w4 ⟨rfl, hP4, h4⟩
  clear A
  have P4 := Lib.hid (hP4)
  have R4 := Lib.hid (R3.out.trans h4)
  have BR4 := Lib.hid (BR3.out.ro h4 hbw)
  have y4 : w.heap.size + 1 ≤ w4.heap.size := Nat.le_trans z3 h4.size
  have z4 := y4
  clear hP4 h4
  have A := Lib.hid (ris_any b G tk E s ⟨#[102, 108, 111, 111, 114]⟩ _ P4.out (txOk_of hH hT (by decide)))
  have eK : (⟨#[102, 108, 111, 111, 114]⟩ : ByteArray).data.toList = kFloor := rfl
  rw [eK, a4] at A
  unfold BRes at A
  clear eK
  go_wp2_with fail
  refine A.out.mono ?_
  rintro e w5 ⟨rfl, h5'⟩
  clear A
  have hP5 := P4.out.rel h5'
  have h5 := Ro.of (b := b) h5'
  clear h5'
  have P5 := Lib.hid (hP5)
  have R5 := Lib.hid (R4.out.trans h5)
  have BR5 := Lib.hid (BR4.out.ro h5 hbw)
  have y5 : w.heap.size + 1 ≤ w5.heap.size := Nat.le_trans z4 h5.size
  have z5 := y5
  clear hP5 h5
  have C := Lib.hid (rcall6 b G tk E hT hH f HH.out _ s P5.out hi hrem hf')
  unfold RRes at C
  rw [HR9.out] at C
  go_wp2_with fail
  refine C.out.mono ?_
  rintro e w9 ⟨t9, x9, rfl, hK9, hq9, hP9, h9⟩
  obtain ⟨xa9, xc9, rfl⟩ := kids_slice (kidsB_to hK9)
  have Q9 := Lib.hid hq9
  clear C hq9
  have P9 := Lib.hid (hP9)
  have R9 := Lib.hid (R5.out.trans h9)
  have BR9 := Lib.hid (BR5.out.ro h9 hbw)
  have K9_9 := Lib.hid (kidsB_mono (Q := fun q => w.heap.size < q) hK9 (fun q hq hp => by omega))
  have y9 : w.heap.size + 1 ≤ w9.heap.size := Nat.le_trans z5 h9.size
  have z9 := y9
  clear hP9 h9 hK9
  obtain ⟨rl, rc0, rc1, rc2, rc3, rc4, rc5, rf0, rf1, rf2, rf3, rf4, rf5⟩ := BR9.out
  ((try simp only []); (repeat (first | go_values | go_skip | go_guarded | go_step | go_upon | go_in)))
  have hp := rdr_put6 P9.out HP.out.toks R9.out (Nat.le_refl w.heap.size) hbw (.int .i64 t9.op) (.int .i64 t9.va) (.int .i64 t9.vb) (.int .i64 t9.dm) (.string t9.nm) (.slice xa9 t9.cnt xc9)
  have g0 : ((((((w9.setCell ⟨w.heap.size, 0, none⟩ (.int .i64 t9.op)).setCell ⟨w.heap.size, 1, none⟩ (.int .i64 t9.va)).setCell ⟨w.heap.size, 2, none⟩ (.int .i64 t9.vb)).setCell ⟨w.heap.size, 3, none⟩ (.int .i64 t9.dm)).setCell ⟨w.heap.size, 4, none⟩ (.string t9.nm)).setCell ⟨w.heap.size, 5, none⟩ (.slice xa9 t9.cnt xc9)).cell? ⟨w.heap.size, 0, none⟩ = some (.int .i64 t9.op) := by go_simp
  have g1 : ((((((w9.setCell ⟨w.heap.size, 0, none⟩ (.int .i64 t9.op)).setCell ⟨w.heap.size, 1, none⟩ (.int .i64 t9.va)).setCell ⟨w.heap.size, 2, none⟩ (.int .i64 t9.vb)).setCell ⟨w.heap.size, 3, none⟩ (.int .i64 t9.dm)).setCell ⟨w.heap.size, 4, none⟩ (.string t9.nm)).setCell ⟨w.heap.size, 5, none⟩ (.slice xa9 t9.cnt xc9)).cell? ⟨w.heap.size, 1, none⟩ = some (.int .i64 t9.va) := by go_simp
  have g2 : ((((((w9.setCell ⟨w.heap.size, 0, none⟩ (.int .i64 t9.op)).setCell ⟨w.heap.size, 1, none⟩ (.int .i64 t9.va)).setCell ⟨w.heap.size, 2, none⟩ (.int .i64 t9.vb)).setCell ⟨w.heap.size, 3, none⟩ (.int .i64 t9.dm)).setCell ⟨w.heap.size, 4, none⟩ (.string t9.nm)).setCell ⟨w.heap.size, 5, none⟩ (.slice xa9 t9.cnt xc9)).cell? ⟨w.heap.size, 2, none⟩ = some (.int .i64 t9.vb) := by go_simp
  have g3 : ((((((w9.setCell ⟨w.heap.size, 0, none⟩ (.int .i64 t9.op)).setCell ⟨w.heap.size, 1, none⟩ (.int .i64 t9.va)).setCell ⟨w.heap.size, 2, none⟩ (.int .i64 t9.vb)).setCell ⟨w.heap.size, 3, none⟩ (.int .i64 t9.dm)).setCell ⟨w.heap.size, 4, none⟩ (.string t9.nm)).setCell ⟨w.heap.size, 5, none⟩ (.slice xa9 t9.cnt xc9)).cell? ⟨w.heap.size, 3, none⟩ = some (.int .i64 t9.dm) := by go_simp
  have g4 : ((((((w9.setCell ⟨w.heap.size, 0, none⟩ (.int .i64 t9.op)).setCell ⟨w.heap.size, 1, none⟩ (.int .i64 t9.va)).setCell ⟨w.heap.size, 2, none⟩ (.int .i64 t9.vb)).setCell ⟨w.heap.size, 3, none⟩ (.int .i64 t9.dm)).setCell ⟨w.heap.size, 4, none⟩ (.string t9.nm)).setCell ⟨w.heap.size, 5, none⟩ (.slice xa9 t9.cnt xc9)).cell? ⟨w.heap.size, 4, none⟩ = some (.string t9.nm) := by go_simp
  have g5 : ((((((w9.setCell ⟨w.heap.size, 0, none⟩ (.int .i64 t9.op)).setCell ⟨w.heap.size, 1, none⟩ (.int .i64 t9.va)).setCell ⟨w.heap.size, 2, none⟩ (.int .i64 t9.vb)).setCell ⟨w.heap.size, 3, none⟩ (.int .i64 t9.dm)).setCell ⟨w.heap.size, 4, none⟩ (.string t9.nm)).setCell ⟨w.heap.size, 5, none⟩ (.slice xa9 t9.cnt xc9)).cell? ⟨w.heap.size, 5, none⟩ = some (.slice xa9 t9.cnt xc9) := by go_simp
  refine bodyPost_ret (v := .agg #[.int .i64 t9.op, .int .i64 t9.va, .int .i64 t9.vb, .int .i64 t9.dm, .string t9.nm, .slice xa9 t9.cnt xc9]) ?_ rfl ⟨_, _, rfl, kidsB_p6 K9_9.out (g := w.heap.size) (Q := fun q => w.heap.size ≤ q) (fun q _ hq => ⟨by omega, by omega⟩) _ _ _ _ _ _, Q9.out, hp.1, hp.2⟩
  simp [results, Tryz.results91, go_sem, g0, g1, g2, g3, g4, g5]
 rw [if_neg (by simp)]
 obtain ⟨k5, a5⟩ : ∃ k, accB tk [109, 105, 110] s = k := ⟨_, rfl⟩
 obtain ⟨k6, a6⟩ : ∃ k, accB tk [109, 97, 120] s = k := ⟨_, rfl⟩
 obtain ⟨m1, m2⟩ := mm_two a5 a6
 rw [m1, m2]
 clear m1 m2
 cases k5
 rotate_left
 ·skip
  rw [if_pos (by simp), if_pos rfl]
  obtain ⟨-, hrem⟩ := acc_beh a5
  obtain ⟨tt, htt, -⟩ := accB_some a5
  obtain ⟨-, hi, -⟩ := tkAt_some htt
  clear htt

  obtain ⟨R9, hR9⟩ : ∃ r, (trB 19 (pe tk f 0 .no (expP tk kOpen s.adv)).1 (pe tk f 0 .no (expP tk kComma (pe tk f 0 .no (expP tk kOpen s.adv)).2)).1, expP tk kShut (pe tk f 0 .no (expP tk kComma (pe tk f 0 .no (expP tk kOpen s.adv)).2)).2) = r := ⟨_, rfl⟩
  rw [hR9]
  have HR9 := Lib.hid hR9
  clear hR9

  have KD := Lib.hid (rkind_any b G tk E s 2 _ P0.out (by decide))
  unfold BRes at KD
  rw [ek] at KD
  (try unfold RRes)
  go_enter Tryz.func91, Tryz.ntmps91
  go_wp2_with fail

  refine KD.out.mono ?_
  rintro e w1 ⟨rfl, h1'⟩
  clear KD
  have hP1 := P0.out.rel h1'
  have h1 := Ro.of (b := b) h1'
  clear h1'
  have P1 := Lib.hid (hP1)
  have R1 := Lib.hid (R0.out.trans h1)
  have BR1 := Lib.hid (BR0.out.ro h1 hbw)
  have y1 : w.heap.size + 1 ≤ w1.heap.size := Nat.le_trans z0 h1.size
  have z1 := y1
  clear hP1 h1
  have A := Lib.hid (rtake_any b G tk E s ⟨#[45]⟩ _ P1.out (txOk_of hH hT (by decide)) hT.len)
  unfold RAcc accP at A
  have eK : (⟨#[45]⟩ : ByteArray).data.toList = kNeg := rfl
  rw [eK] at A
  clear eK
  rw [a1, if_neg (by simp)] at A

  go_wp2_with fail
  refine A.out.mono ?_
  rintro e w2 ⟨rfl, hP2, h2⟩
  clear A
  have P2 := Lib.hid (hP2)
  have R2 := Lib.hid (R1.out.trans h2)
  have BR2 := Lib.hid (BR1.out.ro h2 hbw)
  have y2 : w.heap.size + 1 ≤ w2.heap.size := Nat.le_trans z1 h2.size
  have z2 := y2
  clear hP2 h2
  have A := Lib.hid (rtake_any b G tk E s ⟨#[40]⟩ _ P2.out (txOk_of hH hT (by decide)) hT.len)
  unfold RAcc accP at A
  have eK : (⟨#[40]⟩ : ByteArray).data.toList = kOpen := rfl
  rw [eK] at A
  clear eK
  rw [a2, if_neg (by simp)] at A

  go_wp2_with fail
  refine A.out.mono ?_
  rintro e w3 ⟨rfl, hP3, h3⟩
  clear A
  have P3 := Lib.hid (hP3)
  have R3 := Lib.hid (R2.out.trans h3)
  have BR3 := Lib.hid (BR2.out.ro h3 hbw)
  have y3 : w.heap.size + 1 ≤ w3.heap.size := Nat.le_trans z2 h3.size
  have z3 := y3
  clear hP3 h3
  have A := Lib.hid (rtake_any b G tk E s ⟨#[98, 101, 115, 116]⟩ _ P3.out (txOk_of hH hT (by decide)) hT.len)
  unfold RAcc accP at A
  have eK : (⟨#[98, 101, 115, 116]⟩ : ByteArray).data.toList = kBest := rfl
  rw [eK] at A
  clear eK
  rw [a3, if_neg (by simp)] at A

  go_wp2_with fail
  refine A.out.mono ?_
  rintro e w4 ⟨rfl, hP4, h4⟩
  clear A
  have P4 := Lib.hid (hP4)
  have R4 := Lib.hid (R3.out.trans h4)
  have BR4 := Lib.hid (BR3.out.ro h4 hbw)
  have y4 : w.heap.size + 1 ≤ w4.heap.size := Nat.le_trans z3 h4.size
  have z4 := y4
  clear hP4 h4
  have A := Lib.hid (ris_any b G tk E s ⟨#[102, 108, 111, 111, 114]⟩ _ P4.out (txOk_of hH hT (by decide)))
  have eK : (⟨#[102, 108, 111, 111, 114]⟩ : ByteArray).data.toList = kFloor := rfl
  rw [eK, a4] at A
  unfold BRes at A
  clear eK
  go_wp2_with fail
  refine A.out.mono ?_
  rintro e w5 ⟨rfl, h5'⟩
  clear A
  have hP5 := P4.out.rel h5'
  have h5 := Ro.of (b := b) h5'
  clear h5'
  have P5 := Lib.hid (hP5)
  have R5 := Lib.hid (R4.out.trans h5)
  have BR5 := Lib.hid (BR4.out.ro h5 hbw)
  have y5 : w.heap.size + 1 ≤ w5.heap.size := Nat.le_trans z4 h5.size
  have z5 := y5
  clear hP5 h5
  have A := Lib.hid (ris_any b G tk E s ⟨#[109, 105, 110]⟩ _ P5.out (txOk_of hH hT (by decide)))
  have eK : (⟨#[109, 105, 110]⟩ : ByteArray).data.toList = ([109, 105, 110] : List UInt8) := rfl
  rw [eK, a5] at A
  unfold BRes at A
  clear eK
  go_wp2_with fail
  refine A.out.mono ?_
  rintro e w6 ⟨rfl, h6'⟩
  clear A
  have hP6 := P5.out.rel h6'
  have h6 := Ro.of (b := b) h6'
  clear h6'
  have P6 := Lib.hid (hP6)
  have R6 := Lib.hid (R5.out.trans h6)
  have BR6 := Lib.hid (BR5.out.ro h6 hbw)
  have y6 : w.heap.size + 1 ≤ w6.heap.size := Nat.le_trans z5 h6.size
  have z6 := y6
  clear hP6 h6
  have C := Lib.hid (rcallmm b G tk E hT hH f 19 (.inl rfl) HH.out _ s P6.out hi hrem hf')
  unfold RRes at C
  rw [HR9.out] at C
  go_wp2_with fail
  refine C.out.mono ?_
  rintro e w9 ⟨t9, x9, rfl, hK9, hq9, hP9, h9⟩
  obtain ⟨xa9, xc9, rfl⟩ := kids_slice (kidsB_to hK9)
  have Q9 := Lib.hid hq9
  clear C hq9
  have P9 := Lib.hid (hP9)
  have R9 := Lib.hid (R6.out.trans h9)
  have BR9 := Lib.hid (BR6.out.ro h9 hbw)
  have K9_9 := Lib.hid (kidsB_mono (Q := fun q => w.heap.size < q) hK9 (fun q hq hp => by omega))
  have y9 : w.heap.size + 1 ≤ w9.heap.size := Nat.le_trans z6 h9.size
  have z9 := y9
  clear hP9 h9 hK9
  obtain ⟨rl, rc0, rc1, rc2, rc3, rc4, rc5, rf0, rf1, rf2, rf3, rf4, rf5⟩ := BR9.out
  ((try simp only []); (repeat (first | go_values | go_skip | go_guarded | go_step | go_upon | go_in)))
  have hp := rdr_put6 P9.out HP.out.toks R9.out (Nat.le_refl w.heap.size) hbw (.int .i64 t9.op) (.int .i64 t9.va) (.int .i64 t9.vb) (.int .i64 t9.dm) (.string t9.nm) (.slice xa9 t9.cnt xc9)
  have g0 : ((((((w9.setCell ⟨w.heap.size, 0, none⟩ (.int .i64 t9.op)).setCell ⟨w.heap.size, 1, none⟩ (.int .i64 t9.va)).setCell ⟨w.heap.size, 2, none⟩ (.int .i64 t9.vb)).setCell ⟨w.heap.size, 3, none⟩ (.int .i64 t9.dm)).setCell ⟨w.heap.size, 4, none⟩ (.string t9.nm)).setCell ⟨w.heap.size, 5, none⟩ (.slice xa9 t9.cnt xc9)).cell? ⟨w.heap.size, 0, none⟩ = some (.int .i64 t9.op) := by go_simp
  have g1 : ((((((w9.setCell ⟨w.heap.size, 0, none⟩ (.int .i64 t9.op)).setCell ⟨w.heap.size, 1, none⟩ (.int .i64 t9.va)).setCell ⟨w.heap.size, 2, none⟩ (.int .i64 t9.vb)).setCell ⟨w.heap.size, 3, none⟩ (.int .i64 t9.dm)).setCell ⟨w.heap.size, 4, none⟩ (.string t9.nm)).setCell ⟨w.heap.size, 5, none⟩ (.slice xa9 t9.cnt xc9)).cell? ⟨w.heap.size, 1, none⟩ = some (.int .i64 t9.va) := by go_simp
  have g2 : ((((((w9.setCell ⟨w.heap.size, 0, none⟩ (.int .i64 t9.op)).setCell ⟨w.heap.size, 1, none⟩ (.int .i64 t9.va)).setCell ⟨w.heap.size, 2, none⟩ (.int .i64 t9.vb)).setCell ⟨w.heap.size, 3, none⟩ (.int .i64 t9.dm)).setCell ⟨w.heap.size, 4, none⟩ (.string t9.nm)).setCell ⟨w.heap.size, 5, none⟩ (.slice xa9 t9.cnt xc9)).cell? ⟨w.heap.size, 2, none⟩ = some (.int .i64 t9.vb) := by go_simp
  have g3 : ((((((w9.setCell ⟨w.heap.size, 0, none⟩ (.int .i64 t9.op)).setCell ⟨w.heap.size, 1, none⟩ (.int .i64 t9.va)).setCell ⟨w.heap.size, 2, none⟩ (.int .i64 t9.vb)).setCell ⟨w.heap.size, 3, none⟩ (.int .i64 t9.dm)).setCell ⟨w.heap.size, 4, none⟩ (.string t9.nm)).setCell ⟨w.heap.size, 5, none⟩ (.slice xa9 t9.cnt xc9)).cell? ⟨w.heap.size, 3, none⟩ = some (.int .i64 t9.dm) := by go_simp
  have g4 : ((((((w9.setCell ⟨w.heap.size, 0, none⟩ (.int .i64 t9.op)).setCell ⟨w.heap.size, 1, none⟩ (.int .i64 t9.va)).setCell ⟨w.heap.size, 2, none⟩ (.int .i64 t9.vb)).setCell ⟨w.heap.size, 3, none⟩ (.int .i64 t9.dm)).setCell ⟨w.heap.size, 4, none⟩ (.string t9.nm)).setCell ⟨w.heap.size, 5, none⟩ (.slice xa9 t9.cnt xc9)).cell? ⟨w.heap.size, 4, none⟩ = some (.string t9.nm) := by go_simp
  have g5 : ((((((w9.setCell ⟨w.heap.size, 0, none⟩ (.int .i64 t9.op)).setCell ⟨w.heap.size, 1, none⟩ (.int .i64 t9.va)).setCell ⟨w.heap.size, 2, none⟩ (.int .i64 t9.vb)).setCell ⟨w.heap.size, 3, none⟩ (.int .i64 t9.dm)).setCell ⟨w.heap.size, 4, none⟩ (.string t9.nm)).setCell ⟨w.heap.size, 5, none⟩ (.slice xa9 t9.cnt xc9)).cell? ⟨w.heap.size, 5, none⟩ = some (.slice xa9 t9.cnt xc9) := by go_simp
  refine bodyPost_ret (v := .agg #[.int .i64 t9.op, .int .i64 t9.va, .int .i64 t9.vb, .int .i64 t9.dm, .string t9.nm, .slice xa9 t9.cnt xc9]) ?_ rfl ⟨_, _, rfl, kidsB_p6 K9_9.out (g := w.heap.size) (Q := fun q => w.heap.size ≤ q) (fun q _ hq => ⟨by omega, by omega⟩) _ _ _ _ _ _, Q9.out, hp.1, hp.2⟩
  simp [results, Tryz.results91, go_sem, g0, g1, g2, g3, g4, g5]
 cases k6
 rotate_left
 ·skip
  rw [if_pos (by simp), if_neg (by simp), if_pos rfl]
  obtain ⟨-, hrem⟩ := acc_beh a6
  obtain ⟨tt, htt, -⟩ := accB_some a6
  obtain ⟨-, hi, -⟩ := tkAt_some htt
  clear htt

  obtain ⟨R9, hR9⟩ : ∃ r, (trB 20 (pe tk f 0 .no (expP tk kOpen s.adv)).1 (pe tk f 0 .no (expP tk kComma (pe tk f 0 .no (expP tk kOpen s.adv)).2)).1, expP tk kShut (pe tk f 0 .no (expP tk kComma (pe tk f 0 .no (expP tk kOpen s.adv)).2)).2) = r := ⟨_, rfl⟩
  rw [hR9]
  have HR9 := Lib.hid hR9
  clear hR9

  have KD := Lib.hid (rkind_any b G tk E s 2 _ P0.out (by decide))
  unfold BRes at KD
  rw [ek] at KD
  (try unfold RRes)
  go_enter Tryz.func91, Tryz.ntmps91
  go_wp2_with fail

  refine KD.out.mono ?_
  rintro e w1 ⟨rfl, h1'⟩
  clear KD
  have hP1 := P0.out.rel h1'
  have h1 := Ro.of (b := b) h1'
  clear h1'
  have P1 := Lib.hid (hP1)
  have R1 := Lib.hid (R0.out.trans h1)
  have BR1 := Lib.hid (BR0.out.ro h1 hbw)
  have y1 : w.heap.size + 1 ≤ w1.heap.size := Nat.le_trans z0 h1.size
  have z1 := y1
  clear hP1 h1
  have A := Lib.hid (rtake_any b G tk E s ⟨#[45]⟩ _ P1.out (txOk_of hH hT (by decide)) hT.len)
  unfold RAcc accP at A
  have eK : (⟨#[45]⟩ : ByteArray).data.toList = kNeg := rfl
  rw [eK] at A
  clear eK
  rw [a1, if_neg (by simp)] at A

  go_wp2_with fail
  refine A.out.mono ?_
  rintro e w2 ⟨rfl, hP2, h2⟩
  clear A
  have P2 := Lib.hid (hP2)
  have R2 := Lib.hid (R1.out.trans h2)
  have BR2 := Lib.hid (BR1.out.ro h2 hbw)
  have y2 : w.heap.size + 1 ≤ w2.heap.size := Nat.le_trans z1 h2.size
  have z2 := y2
  clear hP2 h2
  have A := Lib.hid (rtake_any b G tk E s ⟨#[40]⟩ _ P2.out (txOk_of hH hT (by decide)) hT.len)
  unfold RAcc accP at A
  have eK : (⟨#[40]⟩ : ByteArray).data.toList = kOpen := rfl
  rw [eK] at A
  clear eK
  rw [a2, if_neg (by simp)] at A

  go_wp2_with fail
  refine A.out.mono ?_
  rintro e w3 ⟨rfl, hP3, h3⟩
  clear A
  have P3 := Lib.hid (hP3)
  have R3 := Lib.hid (R2.out.trans h3)
  have BR3 := Lib.hid (BR2.out.ro h3 hbw)
  have y3 : w.heap.size + 1 ≤ w3.heap.size := Nat.le_trans z2 h3.size
  have z3 := y3
  clear hP3 h3
  have A := Lib.hid (rtake_any b G tk E s ⟨#[98, 101, 115, 116]⟩ _ P3.out (txOk_of hH hT (by decide)) hT.len)
  unfold RAcc accP at A
  have eK : (⟨#[98, 101, 115, 116]⟩ : ByteArray).data.toList = kBest := rfl
  rw [eK] at A
  clear eK
  rw [a3, if_neg (by simp)] at A

  go_wp2_with fail
  refine A.out.mono ?_
  rintro e w4 ⟨rfl, hP4, h4⟩
  clear A
  have P4 := Lib.hid (hP4)
  have R4 := Lib.hid (R3.out.trans h4)
  have BR4 := Lib.hid (BR3.out.ro h4 hbw)
  have y4 : w.heap.size + 1 ≤ w4.heap.size := Nat.le_trans z3 h4.size
  have z4 := y4
  clear hP4 h4
  have A := Lib.hid (ris_any b G tk E s ⟨#[102, 108, 111, 111, 114]⟩ _ P4.out (txOk_of hH hT (by decide)))
  have eK : (⟨#[102, 108, 111, 111, 114]⟩ : ByteArray).data.toList = kFloor := rfl
  rw [eK, a4] at A
  unfold BRes at A
  clear eK
  go_wp2_with fail
  refine A.out.mono ?_
  rintro e w5 ⟨rfl, h5'⟩
  clear A
  have hP5 := P4.out.rel h5'
  have h5 := Ro.of (b := b) h5'
  clear h5'
  have P5 := Lib.hid (hP5)
  have R5 := Lib.hid (R4.out.trans h5)
  have BR5 := Lib.hid (BR4.out.ro h5 hbw)
  have y5 : w.heap.size + 1 ≤ w5.heap.size := Nat.le_trans z4 h5.size
  have z5 := y5
  clear hP5 h5
  have A := Lib.hid (ris_any b G tk E s ⟨#[109, 105, 110]⟩ _ P5.out (txOk_of hH hT (by decide)))
  have eK : (⟨#[109, 105, 110]⟩ : ByteArray).data.toList = ([109, 105, 110] : List UInt8) := rfl
  rw [eK, a5] at A
  unfold BRes at A
  clear eK
  go_wp2_with fail
  refine A.out.mono ?_
  rintro e w6 ⟨rfl, h6'⟩
  clear A
  have hP6 := P5.out.rel h6'
  have h6 := Ro.of (b := b) h6'
  clear h6'
  have P6 := Lib.hid (hP6)
  have R6 := Lib.hid (R5.out.trans h6)
  have BR6 := Lib.hid (BR5.out.ro h6 hbw)
  have y6 : w.heap.size + 1 ≤ w6.heap.size := Nat.le_trans z5 h6.size
  have z6 := y6
  clear hP6 h6
  have A := Lib.hid (ris_any b G tk E s ⟨#[109, 97, 120]⟩ _ P6.out (txOk_of hH hT (by decide)))
  have eK : (⟨#[109, 97, 120]⟩ : ByteArray).data.toList = ([109, 97, 120] : List UInt8) := rfl
  rw [eK, a6] at A
  unfold BRes at A
  clear eK
  go_wp2_with fail
  refine A.out.mono ?_
  rintro e w7 ⟨rfl, h7'⟩
  clear A
  have hP7 := P6.out.rel h7'
  have h7 := Ro.of (b := b) h7'
  clear h7'
  have P7 := Lib.hid (hP7)
  have R7 := Lib.hid (R6.out.trans h7)
  have BR7 := Lib.hid (BR6.out.ro h7 hbw)
  have y7 : w.heap.size + 1 ≤ w7.heap.size := Nat.le_trans z6 h7.size
  have z7 := y7
  clear hP7 h7
  have C := Lib.hid (rcallmm b G tk E hT hH f 20 (.inr rfl) HH.out _ s P7.out hi hrem hf')
  unfold RRes at C
  rw [HR9.out] at C
  go_wp2_with fail
  refine C.out.mono ?_
  rintro e w9 ⟨t9, x9, rfl, hK9, hq9, hP9, h9⟩
  obtain ⟨xa9, xc9, rfl⟩ := kids_slice (kidsB_to hK9)
  have Q9 := Lib.hid hq9
  clear C hq9
  have P9 := Lib.hid (hP9)
  have R9 := Lib.hid (R7.out.trans h9)
  have BR9 := Lib.hid (BR7.out.ro h9 hbw)
  have K9_9 := Lib.hid (kidsB_mono (Q := fun q => w.heap.size < q) hK9 (fun q hq hp => by omega))
  have y9 : w.heap.size + 1 ≤ w9.heap.size := Nat.le_trans z7 h9.size
  have z9 := y9
  clear hP9 h9 hK9
  obtain ⟨rl, rc0, rc1, rc2, rc3, rc4, rc5, rf0, rf1, rf2, rf3, rf4, rf5⟩ := BR9.out
  ((try simp only []); (repeat (first | go_values | go_skip | go_guarded | go_step | go_upon | go_in)))
  have hp := rdr_put6 P9.out HP.out.toks R9.out (Nat.le_refl w.heap.size) hbw (.int .i64 t9.op) (.int .i64 t9.va) (.int .i64 t9.vb) (.int .i64 t9.dm) (.string t9.nm) (.slice xa9 t9.cnt xc9)
  have g0 : ((((((w9.setCell ⟨w.heap.size, 0, none⟩ (.int .i64 t9.op)).setCell ⟨w.heap.size, 1, none⟩ (.int .i64 t9.va)).setCell ⟨w.heap.size, 2, none⟩ (.int .i64 t9.vb)).setCell ⟨w.heap.size, 3, none⟩ (.int .i64 t9.dm)).setCell ⟨w.heap.size, 4, none⟩ (.string t9.nm)).setCell ⟨w.heap.size, 5, none⟩ (.slice xa9 t9.cnt xc9)).cell? ⟨w.heap.size, 0, none⟩ = some (.int .i64 t9.op) := by go_simp
  have g1 : ((((((w9.setCell ⟨w.heap.size, 0, none⟩ (.int .i64 t9.op)).setCell ⟨w.heap.size, 1, none⟩ (.int .i64 t9.va)).setCell ⟨w.heap.size, 2, none⟩ (.int .i64 t9.vb)).setCell ⟨w.heap.size, 3, none⟩ (.int .i64 t9.dm)).setCell ⟨w.heap.size, 4, none⟩ (.string t9.nm)).setCell ⟨w.heap.size, 5, none⟩ (.slice xa9 t9.cnt xc9)).cell? ⟨w.heap.size, 1, none⟩ = some (.int .i64 t9.va) := by go_simp
  have g2 : ((((((w9.setCell ⟨w.heap.size, 0, none⟩ (.int .i64 t9.op)).setCell ⟨w.heap.size, 1, none⟩ (.int .i64 t9.va)).setCell ⟨w.heap.size, 2, none⟩ (.int .i64 t9.vb)).setCell ⟨w.heap.size, 3, none⟩ (.int .i64 t9.dm)).setCell ⟨w.heap.size, 4, none⟩ (.string t9.nm)).setCell ⟨w.heap.size, 5, none⟩ (.slice xa9 t9.cnt xc9)).cell? ⟨w.heap.size, 2, none⟩ = some (.int .i64 t9.vb) := by go_simp
  have g3 : ((((((w9.setCell ⟨w.heap.size, 0, none⟩ (.int .i64 t9.op)).setCell ⟨w.heap.size, 1, none⟩ (.int .i64 t9.va)).setCell ⟨w.heap.size, 2, none⟩ (.int .i64 t9.vb)).setCell ⟨w.heap.size, 3, none⟩ (.int .i64 t9.dm)).setCell ⟨w.heap.size, 4, none⟩ (.string t9.nm)).setCell ⟨w.heap.size, 5, none⟩ (.slice xa9 t9.cnt xc9)).cell? ⟨w.heap.size, 3, none⟩ = some (.int .i64 t9.dm) := by go_simp
  have g4 : ((((((w9.setCell ⟨w.heap.size, 0, none⟩ (.int .i64 t9.op)).setCell ⟨w.heap.size, 1, none⟩ (.int .i64 t9.va)).setCell ⟨w.heap.size, 2, none⟩ (.int .i64 t9.vb)).setCell ⟨w.heap.size, 3, none⟩ (.int .i64 t9.dm)).setCell ⟨w.heap.size, 4, none⟩ (.string t9.nm)).setCell ⟨w.heap.size, 5, none⟩ (.slice xa9 t9.cnt xc9)).cell? ⟨w.heap.size, 4, none⟩ = some (.string t9.nm) := by go_simp
  have g5 : ((((((w9.setCell ⟨w.heap.size, 0, none⟩ (.int .i64 t9.op)).setCell ⟨w.heap.size, 1, none⟩ (.int .i64 t9.va)).setCell ⟨w.heap.size, 2, none⟩ (.int .i64 t9.vb)).setCell ⟨w.heap.size, 3, none⟩ (.int .i64 t9.dm)).setCell ⟨w.heap.size, 4, none⟩ (.string t9.nm)).setCell ⟨w.heap.size, 5, none⟩ (.slice xa9 t9.cnt xc9)).cell? ⟨w.heap.size, 5, none⟩ = some (.slice xa9 t9.cnt xc9) := by go_simp
  refine bodyPost_ret (v := .agg #[.int .i64 t9.op, .int .i64 t9.va, .int .i64 t9.vb, .int .i64 t9.dm, .string t9.nm, .slice xa9 t9.cnt xc9]) ?_ rfl ⟨_, _, rfl, kidsB_p6 K9_9.out (g := w.heap.size) (Q := fun q => w.heap.size ≤ q) (fun q _ hq => ⟨by omega, by omega⟩) _ _ _ _ _ _, Q9.out, hp.1, hp.2⟩
  simp [results, Tryz.results91, go_sem, g0, g1, g2, g3, g4, g5]
 ·skip
  rw [if_neg (by simp), if_neg hK]
  have hns := namT_size hT s
  obtain ⟨NT, hNT⟩ : ∃ t, namT tk s = t := ⟨_, rfl⟩
  rw [hNT] at hns ⊢
  have HNT := Lib.hid hNT
  clear hNT

  have KD := Lib.hid (rkind_any b G tk E s 2 _ P0.out (by decide))
  unfold BRes at KD
  rw [ek] at KD
  (try unfold RRes)
  go_enter Tryz.func91, Tryz.ntmps91
  go_wp2_with fail

  refine KD.out.mono ?_
  rintro e w1 ⟨rfl, h1'⟩
  clear KD
  have hP1 := P0.out.rel h1'
  have h1 := Ro.of (b := b) h1'
  clear h1'
  have P1 := Lib.hid (hP1)
  have R1 := Lib.hid (R0.out.trans h1)
  have BR1 := Lib.hid (BR0.out.ro h1 hbw)
  have y1 : w.heap.size + 1 ≤ w1.heap.size := Nat.le_trans z0 h1.size
  have z1 := y1
  clear hP1 h1
  have A := Lib.hid (rtake_any b G tk E s ⟨#[45]⟩ _ P1.out (txOk_of hH hT (by decide)) hT.len)
  unfold RAcc accP at A
  have eK : (⟨#[45]⟩ : ByteArray).data.toList = kNeg := rfl
  rw [eK] at A
  clear eK
  rw [a1, if_neg (by simp)] at A

  go_wp2_with fail
  refine A.out.mono ?_
  rintro e w2 ⟨rfl, hP2, h2⟩
  clear A
  have P2 := Lib.hid (hP2)
  have R2 := Lib.hid (R1.out.trans h2)
  have BR2 := Lib.hid (BR1.out.ro h2 hbw)
  have y2 : w.heap.size + 1 ≤ w2.heap.size := Nat.le_trans z1 h2.size
  have z2 := y2
  clear hP2 h2
  have A := Lib.hid (rtake_any b G tk E s ⟨#[40]⟩ _ P2.out (txOk_of hH hT (by decide)) hT.len)
  unfold RAcc accP at A
  have eK : (⟨#[40]⟩ : ByteArray).data.toList = kOpen := rfl
  rw [eK] at A
  clear eK
  rw [a2, if_neg (by simp)] at A

  go_wp2_with fail
  refine A.out.mono ?_
  rintro e w3 ⟨rfl, hP3, h3⟩
  clear A
  have P3 := Lib.hid (hP3)
  have R3 := Lib.hid (R2.out.trans h3)
  have BR3 := Lib.hid (BR2.out.ro h3 hbw)
  have y3 : w.heap.size + 1 ≤ w3.heap.size := Nat.le_trans z2 h3.size
  have z3 := y3
  clear hP3 h3
  have A := Lib.hid (rtake_any b G tk E s ⟨#[98, 101, 115, 116]⟩ _ P3.out (txOk_of hH hT (by decide)) hT.len)
  unfold RAcc accP at A
  have eK : (⟨#[98, 101, 115, 116]⟩ : ByteArray).data.toList = kBest := rfl
  rw [eK] at A
  clear eK
  rw [a3, if_neg (by simp)] at A

  go_wp2_with fail
  refine A.out.mono ?_
  rintro e w4 ⟨rfl, hP4, h4⟩
  clear A
  have P4 := Lib.hid (hP4)
  have R4 := Lib.hid (R3.out.trans h4)
  have BR4 := Lib.hid (BR3.out.ro h4 hbw)
  have y4 : w.heap.size + 1 ≤ w4.heap.size := Nat.le_trans z3 h4.size
  have z4 := y4
  clear hP4 h4
  have A := Lib.hid (ris_any b G tk E s ⟨#[102, 108, 111, 111, 114]⟩ _ P4.out (txOk_of hH hT (by decide)))
  have eK : (⟨#[102, 108, 111, 111, 114]⟩ : ByteArray).data.toList = kFloor := rfl
  rw [eK, a4] at A
  unfold BRes at A
  clear eK
  go_wp2_with fail
  refine A.out.mono ?_
  rintro e w5 ⟨rfl, h5'⟩
  clear A
  have hP5 := P4.out.rel h5'
  have h5 := Ro.of (b := b) h5'
  clear h5'
  have P5 := Lib.hid (hP5)
  have R5 := Lib.hid (R4.out.trans h5)
  have BR5 := Lib.hid (BR4.out.ro h5 hbw)
  have y5 : w.heap.size + 1 ≤ w5.heap.size := Nat.le_trans z4 h5.size
  have z5 := y5
  clear hP5 h5
  have A := Lib.hid (ris_any b G tk E s ⟨#[109, 105, 110]⟩ _ P5.out (txOk_of hH hT (by decide)))
  have eK : (⟨#[109, 105, 110]⟩ : ByteArray).data.toList = ([109, 105, 110] : List UInt8) := rfl
  rw [eK, a5] at A
  unfold BRes at A
  clear eK
  go_wp2_with fail
  refine A.out.mono ?_
  rintro e w6 ⟨rfl, h6'⟩
  clear A
  have hP6 := P5.out.rel h6'
  have h6 := Ro.of (b := b) h6'
  clear h6'
  have P6 := Lib.hid (hP6)
  have R6 := Lib.hid (R5.out.trans h6)
  have BR6 := Lib.hid (BR5.out.ro h6 hbw)
  have y6 : w.heap.size + 1 ≤ w6.heap.size := Nat.le_trans z5 h6.size
  have z6 := y6
  clear hP6 h6
  have A := Lib.hid (ris_any b G tk E s ⟨#[109, 97, 120]⟩ _ P6.out (txOk_of hH hT (by decide)))
  have eK : (⟨#[109, 97, 120]⟩ : ByteArray).data.toList = ([109, 97, 120] : List UInt8) := rfl
  rw [eK, a6] at A
  unfold BRes at A
  clear eK
  go_wp2_with fail
  refine A.out.mono ?_
  rintro e w7 ⟨rfl, h7'⟩
  clear A
  have hP7 := P6.out.rel h7'
  have h7 := Ro.of (b := b) h7'
  clear h7'
  have P7 := Lib.hid (hP7)
  have R7 := Lib.hid (R6.out.trans h7)
  have BR7 := Lib.hid (BR6.out.ro h7 hbw)
  have y7 : w.heap.size + 1 ≤ w7.heap.size := Nat.le_trans z6 h7.size
  have z7 := y7
  clear hP7 h7
  have NM := Lib.hid (rname_any b G tk E s _ P7.out hT)
  unfold RNam at NM
  rw [HNT.out] at NM
  go_wp2_with fail
  refine NM.out.mono ?_
  rintro e w8 ⟨rfl, hP8, h8⟩
  clear NM
  have P8 := Lib.hid (hP8)
  have R8 := Lib.hid (R7.out.trans h8)
  have BR8 := Lib.hid (BR7.out.ro h8 hbw)
  have y8 : w.heap.size + 1 ≤ w8.heap.size := Nat.le_trans z7 h8.size
  have z8 := y8
  clear hP8 h8
  obtain ⟨rl, rc0, rc1, rc2, rc3, rc4, rc5, rf0, rf1, rf2, rf3, rf4, rf5⟩ := BR8.out
  ((try simp only []); (repeat (first | go_values | go_skip | go_guarded | go_step | go_upon | go_in)))
  have hp := rdr_put6 P8.out HP.out.toks R8.out (Nat.le_refl w.heap.size) hbw (.int .i64 2) (.int .i64 0) (.int .i64 0) (.int .i64 0) (.string NT) (.slice none 0 0)
  have g0 : ((((((w8.setCell ⟨w.heap.size, 0, none⟩ (.int .i64 2)).setCell ⟨w.heap.size, 1, none⟩ (.int .i64 0)).setCell ⟨w.heap.size, 2, none⟩ (.int .i64 0)).setCell ⟨w.heap.size, 3, none⟩ (.int .i64 0)).setCell ⟨w.heap.size, 4, none⟩ (.string NT)).setCell ⟨w.heap.size, 5, none⟩ (.slice none 0 0)).cell? ⟨w.heap.size, 0, none⟩ = some (.int .i64 2) := by go_simp
  have g1 : ((((((w8.setCell ⟨w.heap.size, 0, none⟩ (.int .i64 2)).setCell ⟨w.heap.size, 1, none⟩ (.int .i64 0)).setCell ⟨w.heap.size, 2, none⟩ (.int .i64 0)).setCell ⟨w.heap.size, 3, none⟩ (.int .i64 0)).setCell ⟨w.heap.size, 4, none⟩ (.string NT)).setCell ⟨w.heap.size, 5, none⟩ (.slice none 0 0)).cell? ⟨w.heap.size, 1, none⟩ = some (.int .i64 0) := by go_simp
  have g2 : ((((((w8.setCell ⟨w.heap.size, 0, none⟩ (.int .i64 2)).setCell ⟨w.heap.size, 1, none⟩ (.int .i64 0)).setCell ⟨w.heap.size, 2, none⟩ (.int .i64 0)).setCell ⟨w.heap.size, 3, none⟩ (.int .i64 0)).setCell ⟨w.heap.size, 4, none⟩ (.string NT)).setCell ⟨w.heap.size, 5, none⟩ (.slice none 0 0)).cell? ⟨w.heap.size, 2, none⟩ = some (.int .i64 0) := by go_simp
  have g3 : ((((((w8.setCell ⟨w.heap.size, 0, none⟩ (.int .i64 2)).setCell ⟨w.heap.size, 1, none⟩ (.int .i64 0)).setCell ⟨w.heap.size, 2, none⟩ (.int .i64 0)).setCell ⟨w.heap.size, 3, none⟩ (.int .i64 0)).setCell ⟨w.heap.size, 4, none⟩ (.string NT)).setCell ⟨w.heap.size, 5, none⟩ (.slice none 0 0)).cell? ⟨w.heap.size, 3, none⟩ = some (.int .i64 0) := by go_simp
  have g4 : ((((((w8.setCell ⟨w.heap.size, 0, none⟩ (.int .i64 2)).setCell ⟨w.heap.size, 1, none⟩ (.int .i64 0)).setCell ⟨w.heap.size, 2, none⟩ (.int .i64 0)).setCell ⟨w.heap.size, 3, none⟩ (.int .i64 0)).setCell ⟨w.heap.size, 4, none⟩ (.string NT)).setCell ⟨w.heap.size, 5, none⟩ (.slice none 0 0)).cell? ⟨w.heap.size, 4, none⟩ = some (.string NT) := by go_simp
  have g5 : ((((((w8.setCell ⟨w.heap.size, 0, none⟩ (.int .i64 2)).setCell ⟨w.heap.size, 1, none⟩ (.int .i64 0)).setCell ⟨w.heap.size, 2, none⟩ (.int .i64 0)).setCell ⟨w.heap.size, 3, none⟩ (.int .i64 0)).setCell ⟨w.heap.size, 4, none⟩ (.string NT)).setCell ⟨w.heap.size, 5, none⟩ (.slice none 0 0)).cell? ⟨w.heap.size, 5, none⟩ = some (.slice none 0 0) := by go_simp
  refine bodyPost_ret (v := .agg #[.int .i64 2, .int .i64 0, .int .i64 0, .int .i64 0, .string NT, .slice none 0 0]) ?_ rfl ⟨trN NT, _, rfl, leaf_tree ⟨by decide, by decide, by decide, by decide, by decide, by decide, by decide, by decide, hns⟩, (fun _ => rfl), hp.1, hp.2⟩
  simp [results, Tryz.results91, go_sem, g0, g1, g2, g3, g4, g5]
end Go.Proofs.YtkghmghjgikihaaGreatDoor

/- Bundle of texts: each says at its head what it proves; no conditions but those printed. -/
import Derived.Test.YtkghmghjgikihaaGreatDoorFB8
import Derived.Test.YtkghmghjgikihaaGreatDoorFB4
/- Contract of wild. No conditions but those printed. -/
namespace Go.Proofs.YtkghmghjgikihaaGreatDoor
open Go.RowKit Cal Str Tok Frac Txt Tree
attribute [local go_sem] calmUpon
set_option linter.unusedVariables false
set_option linter.unusedSimpArgs false
def wNm : Nat → ByteArray
 | 0 => ⟨#[97]⟩
 | 1 => ⟨#[98]⟩
 | 2 => ⟨#[99]⟩
 | _ => ⟨#[100]⟩
def wDm : Nat → Int
 | 0 => 2
 | 1 => 3
 | 2 => 4
 | _ => 1
theorem wEnv {w : World} {b g : Nat} (hb : g ≠ b) (hg : g < w.heap.size) (h : ∀ i : Nat, i < 8 → w.cell? ⟨g, i, none⟩ = (#[Value.string ⟨#[97]⟩, .int .i64 2, .string ⟨#[98]⟩, .int .i64 3, .string ⟨#[99]⟩, .int .i64 4, .string ⟨#[100]⟩, .int .i64 1] : Array Value)[i]?) : EnvB w b 4 wNm wDm (some ⟨g, 0, none⟩) := by
 refine ⟨by decide, fun _ => ⟨g, 0, rfl, hg, hb, fun i hi => ?_⟩⟩
 rcases (show i = 0 ∨ i = 1 ∨ i = 2 ∨ i = 3 by omega) with rfl | rfl | rfl | rfl
 ·exact ⟨h 0 (by decide), h 1 (by decide), by decide, by decide, by decide⟩
 ·exact ⟨h 2 (by decide), h 3 (by decide), by decide, by decide, by decide⟩
 ·exact ⟨h 4 (by decide), h 5 (by decide), by decide, by decide, by decide⟩
 ·exact ⟨h 6 (by decide), h 7 (by decide), by decide, by decide, by decide⟩
theorem wNm_size (i : Nat) : (wNm i).size ≤ 140737488355328 := by
 unfold wNm; split <;> decide
def tab5 : Array Value := #[.string ⟨#[108, 101, 116]⟩, .string ⟨#[]⟩, .string ⟨#[65]⟩, .string ⟨#[120, 49]⟩, .string ⟨#[97, 98, 99, 100, 101, 102, 103, 104, 105, 106, 107, 108, 109]⟩]
theorem tab5_ok : ∀ k, k < 5 → ∃ s : ByteArray, tab5[k]? = some (.string s) ∧ s.size ≤ 20 := by
 intro k hk
 rcases (show k = 0 ∨ k = 1 ∨ k = 2 ∨ k = 3 ∨ k = 4 by omega) with rfl | rfl | rfl | rfl | rfl <;> exact ⟨_, rfl, by decide⟩
set_option maxRecDepth 20000 in
set_option maxHeartbeats 16000000 in
theorem wild_step (b : Nat) (la : Option Addr) (ln lc : Nat) (d F G : Int) (hd0 : 0 ≤ d) (hd9 : d ≤ 9) (hF : 1 ≤ F) (hF2 : F ≤ 2000000) (hG : d < 9 → 1 ≤ G ∧ F = 5 * G)
  (IH : d < 9 → ∀ (at' left : Int) (w : World), Src w b la ln lc at' left → at' + 10 * G ≤ 3000000000000000000 → Calls Tryz.prog 49 #[.pointer (some ⟨b, 0, none⟩), .int .i64 (d + 1)] w (WildRes b la ln lc at' G w))
  (at' left : Int) (w : World) (hS : Src w b la ln lc at' left) (ha : at' + 10 * F ≤ 3000000000000000000) :
  Calls Tryz.prog 49 #[.pointer (some ⟨b, 0, none⟩), .int .i64 d] w (WildRes b la ln lc at' F w) := by
 unfold WildRes
 have HS := Lib.hid hS
 have HG := Lib.hid hG
 have HI := Lib.hid IH
 have hlt := hS.lt
 have a0 := hS.at0
 have c2 := hS.c2
 have f2 := hS.f2
 have l0 := hS.l0
 have l1 := hS.l1
 clear hS hG IH
 go_enter Tryz.func49, Tryz.ntmps49
 go_wp2_with fail
 have hL0 : -9223372036854775808 ≤ wrap64 (left - 1) := by unfold wrap64; omega
 have hL1 : wrap64 (left - 1) ≤ 9223372036854775807 := by unfold wrap64; omega
 obtain ⟨L, hL⟩ : ∃ L, wrap64 (left - 1) = L := ⟨_, rfl⟩
 rw [hL] at hL0 hL1 ⊢
 have S0 := Lib.hid ((HS.out.setLeft L hL0 hL1).rel ((Rel.refl _).alloc (.cells #[.int .i64 0, .int .i64 0, .int .i64 0, .int .i64 0, .string ⟨#[]⟩, .slice none 0 0] 29)))
 have R0 := Lib.hid ((((Ro.refl b w).set 2 (.int .i64 L))).alloc (.cells #[.int .i64 0, .int .i64 0, .int .i64 0, .int .i64 0, .string ⟨#[]⟩, .slice none 0 0] 29))
 have hbw : w.heap.size ≠ b := by omega
 clear hL
 refine (next_any b la ln lc at' L 10 _ S0.out (by omega) (by decide) (by decide)).mono ?_
 rintro e w1 ⟨v, rfl, v0, v1, hS1, h1⟩
 have S1 := Lib.hid hS1
 have R1 := Lib.hid (R0.out.trans h1)
 have z1 := hS1.c2
 clear hS1
 have q := keepr6 h1 (b := w.heap.size) (by first | (simp; done) | (simp; omega) | omega) (by first | (simp; done) | (simp; omega) | omega)
 have kc1_0_0 := q.1
 have kc1_0_1 := q.2.1
 have kc1_0_2 := q.2.2.1
 have kc1_0_3 := q.2.2.2.1
 have kc1_0_4 := q.2.2.2.2.1
 have kc1_0_5 := q.2.2.2.2.2.1
 have kf1_0_0 := q.2.2.2.2.2.2.1
 have kf1_0_1 := q.2.2.2.2.2.2.2.1
 have kf1_0_2 := q.2.2.2.2.2.2.2.2.1
 have kf1_0_3 := q.2.2.2.2.2.2.2.2.2.1
 have kf1_0_4 := q.2.2.2.2.2.2.2.2.2.2.1
 have kf1_0_5 := q.2.2.2.2.2.2.2.2.2.2.2.1
 have kl1_0 := q.2.2.2.2.2.2.2.2.2.2.2.2.1
 have kn1_0 := q.2.2.2.2.2.2.2.2.2.2.2.2.2.1
 have km1_0 := q.2.2.2.2.2.2.2.2.2.2.2.2.2.2
 clear q
 have kz1 := h1.size
 (try simp only [World.size_alloc, World.size_setCell, World.size_drew] at kz1)
 have H1 := Lib.hid h1
 clear h1
 by_cases hc : v < 6 ∧ d < 9 ∧ 0 < L
 ·obtain ⟨q1, q2, q3⟩ := hc
  have e1 : decide (v < 6) = true := decide_eq_true q1
  have e2 : decide (d < 9) = true := decide_eq_true q2
  have e3 : decide (0 < L) = true := decide_eq_true q3
  obtain ⟨hG1, hF5⟩ := HG.out q2
  go_wp2_with fail
  refine (next_any b la ln lc (at' + 1) L 18 _ S1.out (by omega) (by decide) (by decide)).mono ?_
  rintro e w2 ⟨y, rfl, y0, y1, hS2, h2⟩
  obtain ⟨op, hop⟩ : ∃ op, 4 + y = op := ⟨_, rfl⟩
  have y3 : IntKind.i64.wrap (4 + y) = op := by rw [← hop]; exact IntWalk.i64_in _ ⟨by omega, by omega⟩
  have hop0 : 4 ≤ op := by omega
  have hop1 : op ≤ 21 := by omega
  have R2 := Lib.hid ((R1.out.trans h2).alloc (.cells #[.int .i64 op, .int .i64 0, .int .i64 0, .int .i64 0, .string ⟨#[]⟩, .slice none 0 0] 29))
  have S2 := Lib.hid (hS2.rel ((Rel.refl _).alloc (.cells #[.int .i64 op, .int .i64 0, .int .i64 0, .int .i64 0, .string ⟨#[]⟩, .slice none 0 0] 29)))
  have BR2' := ((BoxAt.new (w := w.setCell ⟨b, 2, none⟩ (.int .i64 L)) (g := w.heap.size) (by simp [World.setCell]) (.int .i64 0) (.int .i64 0) (.int .i64 0) (.int .i64 0) (.string ⟨#[]⟩) (.slice none 0 0) 29).ro H1.out hbw).ro h2 hbw
  have hw2 : w.heap.size < w2.heap.size := BR2'.lt
  have hb2 : b < w2.heap.size := hS2.lt
  have BR2 := Lib.hid (BR2'.rel ((Rel.refl _).alloc (.cells #[.int .i64 op, .int .i64 0, .int .i64 0, .int .i64 0, .string ⟨#[]⟩, .slice none 0 0] 29)))
  have BE2 := Lib.hid (BoxAt.new (w := w2) rfl (.int .i64 op) (.int .i64 0) (.int .i64 0) (.int .i64 0) (.string ⟨#[]⟩) (.slice none 0 0) 29)
  clear hS2 BR2' z1 h2
  obtain ⟨N, hN, hN1, hN3⟩ : ∃ N : Nat, arI op = N ∧ 1 ≤ N ∧ N ≤ 3 := by
   unfold arI
   rcases (show op ≤ 6 ∨ (7 ≤ op ∧ op ≤ 20) ∨ op = 21 by omega) with h | h | h
   ·exact ⟨1, by rw [if_neg (by omega), if_pos (by omega)]; rfl, by omega, by omega⟩
   ·exact ⟨2, by rw [if_neg (by omega), if_neg (by omega), if_pos (by omega)]; rfl, by omega, by omega⟩
   ·exact ⟨3, by rw [if_neg (by omega), if_neg (by omega), if_neg (by omega), if_pos h]; rfl, by omega, by omega⟩
  have AR := Lib.hid fun w => Args_any op w
  rw [hN] at AR
  have hi3 : (Tryz.prog.info? 29).map (fun i => (i.zero, i.size, i.bytes)) = some (some (.agg #[.int .i64 0, .int .i64 0, .int .i64 0, .int .i64 0, .string ByteArray.empty, .slice none 0 0]), 6, 72) := by kernel_rfl
  obtain ⟨i0, hi, hx⟩ := Option.map_eq_some_iff.1 hi3
  simp only [Prod.mk.injEq] at hx
  obtain ⟨hz0, hz1, hz2⟩ := hx
  have HI1 := Lib.hid hi
  have HZ0 := Lib.hid hz0
  have HZ1 := Lib.hid hz1
  have HZ2 := Lib.hid hz2
  clear hi3 hi hz0 hz1 hz2 hN
  go_wp2_with fail
  refine (AR.out _).mono ?_
  rintro e w3 ⟨rfl, rfl⟩
  go_wp2_with fail
  refine (next_any b la ln lc (at' + 1 + 1) L 30 _ S2.out (by omega) (by decide) (by decide)).mono ?_
  rintro e w4 ⟨z, rfl, z0, z1, hS4, h4⟩
  have S4 := Lib.hid hS4
  have R4 := Lib.hid (R2.out.trans h4)
  have BR4 := Lib.hid (BR2.out.ro h4 hbw)
  have BE4 := Lib.hid (BE2.out.ro h4 (by omega))
  clear hS4 h4
  by_cases hz : z = 29
  ·subst hz
   obtain ⟨M, hM⟩ : ∃ M : Nat, N + 1 = M := ⟨_, rfl⟩
   have m3 : IntKind.i64.wrap ((N : Int) + 1) = (M : Int) := by rw [← hM]; exact IntWalk.i64_in _ ⟨by omega, by omega⟩
   have hM1 : 1 ≤ M := by omega
   have hM4 : M ≤ 4 := by omega
   go_wp2_with fail
   go_loopw [9, 10] (fun i rw wx => ∃ (k : Nat) (L' : List (Ex × Value)) (ra : Option Addr) (rc : Nat) (ax lx : Int), Hid (L'.length = k) ∧ k ≤ M ∧ i = .int .i64 k ∧ ax ≤ at' + 3 + 10 * (G * (k : Int)) ∧ Hid (Src wx b la ln lc ax lx) ∧ Hid (Ro b w wx) ∧ Hid (BoxAt wx w.heap.size (.int .i64 0) (.int .i64 0) (.int .i64 0) (.int .i64 0) (.string ⟨#[]⟩) (.slice none 0 0)) ∧ Hid (BoxAt wx w2.heap.size (.int .i64 op) (.int .i64 0) (.int .i64 0) (.int .i64 0) (.string ⟨#[]⟩) (.slice ra k rc)) ∧ Hid (wx.ownsRow (w2.heap.size + 1) 29 6 (.slice ra k rc) k (celL L')) ∧ Hid (∀ (i : Nat) (p : Ex × Value), L'[i]? = some p → ExKidsB (fun q => w2.heap.size + 1 ≤ q ∧ Value.ownBlock (.slice ra k rc) ≠ some q) p.1 wx p.2 ∧ p.1.size ≤ G)) (fun i _ _ => M - (intOf i).toNat)
   case atStart => exact ⟨0, [], none, 0, at' + 1 + 1 + 1, L, rfl, by omega, rfl, by simp; omega, S4.out, R4.out, BR4.out, BE4.out, World.ownsRow_nil _ _ _ _, fun i p h => by simp at h⟩
   case round =>
    obtain ⟨k, L', ra, rc, ax, lx, hLk, hk, rfl, hax, hS', hR', hBR, hBE, hO, hKK⟩ := hrel
    have rb := hO.out.lt
    have hblt := hS'.out.lt
    by_cases hlt : k < M
    ·have bc5 := hBE.out.c5
     have bf5 := hBE.out.f5
     have bel := hBE.out.lt
     have d3 : IntKind.i64.wrap (d + 1) = d + 1 := IntWalk.i64_in _ ⟨by omega, by omega⟩
     have gk : G * (k : Int) ≤ G * 3 := Int.mul_le_mul_of_nonneg_left (by omega) (by omega)
     have gs : G * ((k + 1 : Nat) : Int) = G * (k : Int) + G := by rw [Int.natCast_add, Int.mul_add]; simp
     go_wp2_with fail
     refine (HI.out q2 ax lx _ hS'.out (by omega)).mono ?_
     rintro e w5 ⟨t, x, at3, left3, rfl, hK, hsz, hat, hS5, h5⟩
     obtain ⟨xa, xc, rfl⟩ := kids_slice (kidsB_to hK)
     have BR5 := Lib.hid ((hBR.out.ro h5 hbw).rel ((Rel.refl _).alloc (.cells #[.int .i64 t.op, .int .i64 t.va, .int .i64 t.vb, .int .i64 t.dm, .string t.nm, .slice xa t.cnt xc] 29)))
     have BE5 := Lib.hid ((hBE.out.ro h5 (by omega)).rel ((Rel.refl _).alloc (.cells #[.int .i64 t.op, .int .i64 t.va, .int .i64 t.vb, .int .i64 t.dm, .string t.nm, .slice xa t.cnt xc] 29)))
     have S5 := Lib.hid (hS5.rel ((Rel.refl _).alloc (.cells #[.int .i64 t.op, .int .i64 t.va, .int .i64 t.vb, .int .i64 t.dm, .string t.nm, .slice xa t.cnt xc] 29)))
     have O5 := Lib.hid (own_rel (own_ro hO.out h5 (by omega)) ((Rel.refl _).alloc (.cells #[.int .i64 t.op, .int .i64 t.va, .int .i64 t.vb, .int .i64 t.dm, .string t.nm, .slice xa t.cnt xc] 29)))
     have R5 := Lib.hid ((hR'.out.trans h5).alloc (.cells #[.int .i64 t.op, .int .i64 t.va, .int .i64 t.vb, .int .i64 t.dm, .string t.nm, .slice xa t.cnt xc] 29))
     have H5 := Lib.hid h5
     have HK5 := Lib.hid hK
     have sz5 := h5.size
     clear hS5 h5 hK bc5 bf5
     go_wp2_with (at_builtin; refine wpList_append_lies _ rfl _ _ 27 rfl (w2.heap.size + 1) 29 i0 (.agg #[.int .i64 0, .int .i64 0, .int .i64 0, .int .i64 0, .string ByteArray.empty, .slice none 0 0]) 6 72 Tryz.underlying27 HI1.out HZ0.out HZ1.out HZ2.out rfl (by decide) (.slice ra k rc) k (celL L') rfl O5.out ⟨w5.heap.size, 0, none⟩ 1 1 (cel (t, .slice xa t.cnt xc)) rfl rfl ?c1 ?c2 (by decide) ?c3 ?c4 ?c5 (w5.heap.size + 1) ?c6 ?_)
     case c1 => exact new6 w5 (t, .slice xa t.cnt xc) 29
     case c2 => intro u hu; simp [cel] at hu; rcases hu with rfl | rfl | rfl | rfl | rfl | rfl <;> rfl
     case c3 => unfold maxLen; omega
     case c4 => omega
     case c5 => simp; omega
     case c6 => simp
     intro g cap w6 hown hgrow hat' hlt'
     have hbrow : ∀ q, Value.ownBlock (.slice ra k rc) = some q → w2.heap.size + 1 ≤ q ∧ q < wr.heap.size := rb
     have R6 := Lib.hid (R5.out.grown hgrow (fun q hq => by have := hbrow q hq; omega))
     have S6 := Lib.hid (S5.out.grown HS.out.nums R6.out hgrow (fun e => by have := hbrow b e.symm; omega))
     have BR6 := Lib.hid (BR5.out.grown hgrow (fun e => by have := hbrow _ e.symm; omega))
     have BE6 := Lib.hid (BE5.out.grown hgrow (fun e => by have := hbrow _ e.symm; omega))
     have KK6 := Lib.hid (fun u => kids_step (u := u) (n := k + 1) (cap := cap) H5.out hgrow (show b < w2.heap.size + 1 by omega) (show w2.heap.size < w2.heap.size + 1 by omega) (fun q hq => (hbrow q hq).2) hat' (by omega) hKK.out (p := (t, .slice xa t.cnt xc)) HK5.out hsz)
     have O6 := Lib.hid hown
     have bc5 := BE6.out.c5
     have bf5 := BE6.out.f5
     clear hown hgrow hat'
     go_wp2
     go_roundw
     case rel => exact ⟨k + 1, L' ++ [(t, Value.slice xa t.cnt xc)], some ⟨g, 0, none⟩, cap, at3, left3, (by show _ = _; rw [List.length_append, hLk.out]; rfl), by omega, by go_num, by omega, S6.out.other (by omega) (HS.out.nums.ro (R6.out.setNew (by simp; omega) _)), R6.out.setNew (by simp; omega) _, BR6.out.other (by omega) _ _, BE6.out.set5 _, (by show World.ownsRow _ _ _ _ _ _ _; rw [celL_snoc]; exact own_ro O6.out ((Ro.refl w2.heap.size _).set 5 _) (by omega)), (by show ∀ _ _, _; exact KK6.out _)⟩
     case measure => simp [intOf]; omega
    ·have : k = M := by omega
     subst this
     obtain ⟨g, cap, hv, hgb, hgl⟩ := World.ownsRow.form hO.out (by omega)
     simp only [Value.slice.injEq] at hv
     obtain ⟨rfl, -, rfl⟩ := hv
     obtain ⟨bel, bc0, bc1, bc2, bc3, bc4, bc5, bf0, bf1, bf2, bf3, bf4, bf5⟩ := hBE.out
     obtain ⟨rl, rc0, rc1, rc2, rc3, rc4, rc5, rf0, rf1, rf2, rf3, rf4, rf5⟩ := hBR.out
     have gk : G * (k : Int) ≤ G * 4 := Int.mul_le_mul_of_nonneg_left (by omega) (by omega)
     ((try simp only []); (repeat (first | go_values | go_skip | go_guarded | go_step | go_upon | go_in)))
     have hp := put6 hS'.out HS.out.nums hR'.out (Nat.le_refl w.heap.size) hbw (.int .i64 op) (.int .i64 0) (.int .i64 0) (.int .i64 0) (.string ⟨#[]⟩) (.slice (some ⟨g, 0, none⟩) k rc)
     have g0 : ((((((wr.setCell ⟨w.heap.size, 0, none⟩ (.int .i64 op)).setCell ⟨w.heap.size, 1, none⟩ (.int .i64 0)).setCell ⟨w.heap.size, 2, none⟩ (.int .i64 0)).setCell ⟨w.heap.size, 3, none⟩ (.int .i64 0)).setCell ⟨w.heap.size, 4, none⟩ (.string ⟨#[]⟩)).setCell ⟨w.heap.size, 5, none⟩ (.slice (some ⟨g, 0, none⟩) k rc)).cell? ⟨w.heap.size, 0, none⟩ = some (.int .i64 op) := by go_simp
     have g1 : ((((((wr.setCell ⟨w.heap.size, 0, none⟩ (.int .i64 op)).setCell ⟨w.heap.size, 1, none⟩ (.int .i64 0)).setCell ⟨w.heap.size, 2, none⟩ (.int .i64 0)).setCell ⟨w.heap.size, 3, none⟩ (.int .i64 0)).setCell ⟨w.heap.size, 4, none⟩ (.string ⟨#[]⟩)).setCell ⟨w.heap.size, 5, none⟩ (.slice (some ⟨g, 0, none⟩) k rc)).cell? ⟨w.heap.size, 1, none⟩ = some (.int .i64 0) := by go_simp
     have g2 : ((((((wr.setCell ⟨w.heap.size, 0, none⟩ (.int .i64 op)).setCell ⟨w.heap.size, 1, none⟩ (.int .i64 0)).setCell ⟨w.heap.size, 2, none⟩ (.int .i64 0)).setCell ⟨w.heap.size, 3, none⟩ (.int .i64 0)).setCell ⟨w.heap.size, 4, none⟩ (.string ⟨#[]⟩)).setCell ⟨w.heap.size, 5, none⟩ (.slice (some ⟨g, 0, none⟩) k rc)).cell? ⟨w.heap.size, 2, none⟩ = some (.int .i64 0) := by go_simp
     have g3 : ((((((wr.setCell ⟨w.heap.size, 0, none⟩ (.int .i64 op)).setCell ⟨w.heap.size, 1, none⟩ (.int .i64 0)).setCell ⟨w.heap.size, 2, none⟩ (.int .i64 0)).setCell ⟨w.heap.size, 3, none⟩ (.int .i64 0)).setCell ⟨w.heap.size, 4, none⟩ (.string ⟨#[]⟩)).setCell ⟨w.heap.size, 5, none⟩ (.slice (some ⟨g, 0, none⟩) k rc)).cell? ⟨w.heap.size, 3, none⟩ = some (.int .i64 0) := by go_simp
     have g4 : ((((((wr.setCell ⟨w.heap.size, 0, none⟩ (.int .i64 op)).setCell ⟨w.heap.size, 1, none⟩ (.int .i64 0)).setCell ⟨w.heap.size, 2, none⟩ (.int .i64 0)).setCell ⟨w.heap.size, 3, none⟩ (.int .i64 0)).setCell ⟨w.heap.size, 4, none⟩ (.string ⟨#[]⟩)).setCell ⟨w.heap.size, 5, none⟩ (.slice (some ⟨g, 0, none⟩) k rc)).cell? ⟨w.heap.size, 4, none⟩ = some (.string ⟨#[]⟩) := by go_simp
     have g5 : ((((((wr.setCell ⟨w.heap.size, 0, none⟩ (.int .i64 op)).setCell ⟨w.heap.size, 1, none⟩ (.int .i64 0)).setCell ⟨w.heap.size, 2, none⟩ (.int .i64 0)).setCell ⟨w.heap.size, 3, none⟩ (.int .i64 0)).setCell ⟨w.heap.size, 4, none⟩ (.string ⟨#[]⟩)).setCell ⟨w.heap.size, 5, none⟩ (.slice (some ⟨g, 0, none⟩) k rc)).cell? ⟨w.heap.size, 5, none⟩ = some (.slice (some ⟨g, 0, none⟩) k rc) := by go_simp
     refine bodyPost_ret (v := .agg #[.int .i64 op, .int .i64 0, .int .i64 0, .int .i64 0, .string ⟨#[]⟩, .slice (some ⟨g, 0, none⟩) k rc]) ?_ rfl ⟨.mk op 0 0 0 ⟨#[]⟩ k (kidL L'), _, _, _, rfl, kids_fin (r := w.heap.size) hLk.out (by omega) (by omega) ⟨hop0, hop1⟩ hO.out (by omega) (by omega) hKK.out _ _ _ _ _ _, by rw [hF5]; exact fin_size hLk.out (by omega) hG1 (fun i p hp => (hKK.out i p hp).2), by omega, hp.1, hp.2⟩
     simp [results, Tryz.results49, go_sem, g0, g1, g2, g3, g4, g5]
  ·have ez : (z == 29) = false := by rw [beq_eq_false_iff_ne]; exact hz
   obtain ⟨M, hM⟩ : ∃ M : Nat, M = N := ⟨_, rfl⟩
   subst hM
   have hM1 : 1 ≤ M := by omega
   have hM4 : M ≤ 4 := by omega
   go_wp2_with fail
   go_loopw [9, 10] (fun i rw wx => ∃ (k : Nat) (L' : List (Ex × Value)) (ra : Option Addr) (rc : Nat) (ax lx : Int), Hid (L'.length = k) ∧ k ≤ M ∧ i = .int .i64 k ∧ ax ≤ at' + 3 + 10 * (G * (k : Int)) ∧ Hid (Src wx b la ln lc ax lx) ∧ Hid (Ro b w wx) ∧ Hid (BoxAt wx w.heap.size (.int .i64 0) (.int .i64 0) (.int .i64 0) (.int .i64 0) (.string ⟨#[]⟩) (.slice none 0 0)) ∧ Hid (BoxAt wx w2.heap.size (.int .i64 op) (.int .i64 0) (.int .i64 0) (.int .i64 0) (.string ⟨#[]⟩) (.slice ra k rc)) ∧ Hid (wx.ownsRow (w2.heap.size + 1) 29 6 (.slice ra k rc) k (celL L')) ∧ Hid (∀ (i : Nat) (p : Ex × Value), L'[i]? = some p → ExKidsB (fun q => w2.heap.size + 1 ≤ q ∧ Value.ownBlock (.slice ra k rc) ≠ some q) p.1 wx p.2 ∧ p.1.size ≤ G)) (fun i _ _ => M - (intOf i).toNat)
   case atStart => exact ⟨0, [], none, 0, at' + 1 + 1 + 1, L, rfl, by omega, rfl, by simp; omega, S4.out, R4.out, BR4.out, BE4.out, World.ownsRow_nil _ _ _ _, fun i p h => by simp at h⟩
   case round =>
    obtain ⟨k, L', ra, rc, ax, lx, hLk, hk, rfl, hax, hS', hR', hBR, hBE, hO, hKK⟩ := hrel
    have rb := hO.out.lt
    have hblt := hS'.out.lt
    by_cases hlt : k < M
    ·have bc5 := hBE.out.c5
     have bf5 := hBE.out.f5
     have bel := hBE.out.lt
     have d3 : IntKind.i64.wrap (d + 1) = d + 1 := IntWalk.i64_in _ ⟨by omega, by omega⟩
     have gk : G * (k : Int) ≤ G * 3 := Int.mul_le_mul_of_nonneg_left (by omega) (by omega)
     have gs : G * ((k + 1 : Nat) : Int) = G * (k : Int) + G := by rw [Int.natCast_add, Int.mul_add]; simp
     go_wp2_with fail
     refine (HI.out q2 ax lx _ hS'.out (by omega)).mono ?_
     rintro e w5 ⟨t, x, at3, left3, rfl, hK, hsz, hat, hS5, h5⟩
     obtain ⟨xa, xc, rfl⟩ := kids_slice (kidsB_to hK)
     have BR5 := Lib.hid ((hBR.out.ro h5 hbw).rel ((Rel.refl _).alloc (.cells #[.int .i64 t.op, .int .i64 t.va, .int .i64 t.vb, .int .i64 t.dm, .string t.nm, .slice xa t.cnt xc] 29)))
     have BE5 := Lib.hid ((hBE.out.ro h5 (by omega)).rel ((Rel.refl _).alloc (.cells #[.int .i64 t.op, .int .i64 t.va, .int .i64 t.vb, .int .i64 t.dm, .string t.nm, .slice xa t.cnt xc] 29)))
     have S5 := Lib.hid (hS5.rel ((Rel.refl _).alloc (.cells #[.int .i64 t.op, .int .i64 t.va, .int .i64 t.vb, .int .i64 t.dm, .string t.nm, .slice xa t.cnt xc] 29)))
     have O5 := Lib.hid (own_rel (own_ro hO.out h5 (by omega)) ((Rel.refl _).alloc (.cells #[.int .i64 t.op, .int .i64 t.va, .int .i64 t.vb, .int .i64 t.dm, .string t.nm, .slice xa t.cnt xc] 29)))
     have R5 := Lib.hid ((hR'.out.trans h5).alloc (.cells #[.int .i64 t.op, .int .i64 t.va, .int .i64 t.vb, .int .i64 t.dm, .string t.nm, .slice xa t.cnt xc] 29))
     have H5 := Lib.hid h5
     have HK5 := Lib.hid hK
     have sz5 := h5.size
     clear hS5 h5 hK bc5 bf5
     go_wp2_with (at_builtin; refine wpList_append_lies _ rfl _ _ 27 rfl (w2.heap.size + 1) 29 i0 (.agg #[.int .i64 0, .int .i64 0, .int .i64 0, .int .i64 0, .string ByteArray.empty, .slice none 0 0]) 6 72 Tryz.underlying27 HI1.out HZ0.out HZ1.out HZ2.out rfl (by decide) (.slice ra k rc) k (celL L') rfl O5.out ⟨w5.heap.size, 0, none⟩ 1 1 (cel (t, .slice xa t.cnt xc)) rfl rfl ?c1 ?c2 (by decide) ?c3 ?c4 ?c5 (w5.heap.size + 1) ?c6 ?_)
     case c1 => exact new6 w5 (t, .slice xa t.cnt xc) 29
     case c2 => intro u hu; simp [cel] at hu; rcases hu with rfl | rfl | rfl | rfl | rfl | rfl <;> rfl
     case c3 => unfold maxLen; omega
     case c4 => omega
     case c5 => simp; omega
     case c6 => simp
     intro g cap w6 hown hgrow hat' hlt'
     have hbrow : ∀ q, Value.ownBlock (.slice ra k rc) = some q → w2.heap.size + 1 ≤ q ∧ q < wr.heap.size := rb
     have R6 := Lib.hid (R5.out.grown hgrow (fun q hq => by have := hbrow q hq; omega))
     have S6 := Lib.hid (S5.out.grown HS.out.nums R6.out hgrow (fun e => by have := hbrow b e.symm; omega))
     have BR6 := Lib.hid (BR5.out.grown hgrow (fun e => by have := hbrow _ e.symm; omega))
     have BE6 := Lib.hid (BE5.out.grown hgrow (fun e => by have := hbrow _ e.symm; omega))
     have KK6 := Lib.hid (fun u => kids_step (u := u) (n := k + 1) (cap := cap) H5.out hgrow (show b < w2.heap.size + 1 by omega) (show w2.heap.size < w2.heap.size + 1 by omega) (fun q hq => (hbrow q hq).2) hat' (by omega) hKK.out (p := (t, .slice xa t.cnt xc)) HK5.out hsz)
     have O6 := Lib.hid hown
     have bc5 := BE6.out.c5
     have bf5 := BE6.out.f5
     clear hown hgrow hat'
     go_wp2
     go_roundw
     case rel => exact ⟨k + 1, L' ++ [(t, Value.slice xa t.cnt xc)], some ⟨g, 0, none⟩, cap, at3, left3, (by show _ = _; rw [List.length_append, hLk.out]; rfl), by omega, by go_num, by omega, S6.out.other (by omega) (HS.out.nums.ro (R6.out.setNew (by simp; omega) _)), R6.out.setNew (by simp; omega) _, BR6.out.other (by omega) _ _, BE6.out.set5 _, (by show World.ownsRow _ _ _ _ _ _ _; rw [celL_snoc]; exact own_ro O6.out ((Ro.refl w2.heap.size _).set 5 _) (by omega)), (by show ∀ _ _, _; exact KK6.out _)⟩
     case measure => simp [intOf]; omega
    ·have : k = M := by omega
     subst this
     obtain ⟨g, cap, hv, hgb, hgl⟩ := World.ownsRow.form hO.out (by omega)
     simp only [Value.slice.injEq] at hv
     obtain ⟨rfl, -, rfl⟩ := hv
     obtain ⟨bel, bc0, bc1, bc2, bc3, bc4, bc5, bf0, bf1, bf2, bf3, bf4, bf5⟩ := hBE.out
     obtain ⟨rl, rc0, rc1, rc2, rc3, rc4, rc5, rf0, rf1, rf2, rf3, rf4, rf5⟩ := hBR.out
     have gk : G * (k : Int) ≤ G * 4 := Int.mul_le_mul_of_nonneg_left (by omega) (by omega)
     ((try simp only []); (repeat (first | go_values | go_skip | go_guarded | go_step | go_upon | go_in)))
     have hp := put6 hS'.out HS.out.nums hR'.out (Nat.le_refl w.heap.size) hbw (.int .i64 op) (.int .i64 0) (.int .i64 0) (.int .i64 0) (.string ⟨#[]⟩) (.slice (some ⟨g, 0, none⟩) k rc)
     have g0 : ((((((wr.setCell ⟨w.heap.size, 0, none⟩ (.int .i64 op)).setCell ⟨w.heap.size, 1, none⟩ (.int .i64 0)).setCell ⟨w.heap.size, 2, none⟩ (.int .i64 0)).setCell ⟨w.heap.size, 3, none⟩ (.int .i64 0)).setCell ⟨w.heap.size, 4, none⟩ (.string ⟨#[]⟩)).setCell ⟨w.heap.size, 5, none⟩ (.slice (some ⟨g, 0, none⟩) k rc)).cell? ⟨w.heap.size, 0, none⟩ = some (.int .i64 op) := by go_simp
     have g1 : ((((((wr.setCell ⟨w.heap.size, 0, none⟩ (.int .i64 op)).setCell ⟨w.heap.size, 1, none⟩ (.int .i64 0)).setCell ⟨w.heap.size, 2, none⟩ (.int .i64 0)).setCell ⟨w.heap.size, 3, none⟩ (.int .i64 0)).setCell ⟨w.heap.size, 4, none⟩ (.string ⟨#[]⟩)).setCell ⟨w.heap.size, 5, none⟩ (.slice (some ⟨g, 0, none⟩) k rc)).cell? ⟨w.heap.size, 1, none⟩ = some (.int .i64 0) := by go_simp
     have g2 : ((((((wr.setCell ⟨w.heap.size, 0, none⟩ (.int .i64 op)).setCell ⟨w.heap.size, 1, none⟩ (.int .i64 0)).setCell ⟨w.heap.size, 2, none⟩ (.int .i64 0)).setCell ⟨w.heap.size, 3, none⟩ (.int .i64 0)).setCell ⟨w.heap.size, 4, none⟩ (.string ⟨#[]⟩)).setCell ⟨w.heap.size, 5, none⟩ (.slice (some ⟨g, 0, none⟩) k rc)).cell? ⟨w.heap.size, 2, none⟩ = some (.int .i64 0) := by go_simp
     have g3 : ((((((wr.setCell ⟨w.heap.size, 0, none⟩ (.int .i64 op)).setCell ⟨w.heap.size, 1, none⟩ (.int .i64 0)).setCell ⟨w.heap.size, 2, none⟩ (.int .i64 0)).setCell ⟨w.heap.size, 3, none⟩ (.int .i64 0)).setCell ⟨w.heap.size, 4, none⟩ (.string ⟨#[]⟩)).setCell ⟨w.heap.size, 5, none⟩ (.slice (some ⟨g, 0, none⟩) k rc)).cell? ⟨w.heap.size, 3, none⟩ = some (.int .i64 0) := by go_simp
     have g4 : ((((((wr.setCell ⟨w.heap.size, 0, none⟩ (.int .i64 op)).setCell ⟨w.heap.size, 1, none⟩ (.int .i64 0)).setCell ⟨w.heap.size, 2, none⟩ (.int .i64 0)).setCell ⟨w.heap.size, 3, none⟩ (.int .i64 0)).setCell ⟨w.heap.size, 4, none⟩ (.string ⟨#[]⟩)).setCell ⟨w.heap.size, 5, none⟩ (.slice (some ⟨g, 0, none⟩) k rc)).cell? ⟨w.heap.size, 4, none⟩ = some (.string ⟨#[]⟩) := by go_simp
     have g5 : ((((((wr.setCell ⟨w.heap.size, 0, none⟩ (.int .i64 op)).setCell ⟨w.heap.size, 1, none⟩ (.int .i64 0)).setCell ⟨w.heap.size, 2, none⟩ (.int .i64 0)).setCell ⟨w.heap.size, 3, none⟩ (.int .i64 0)).setCell ⟨w.heap.size, 4, none⟩ (.string ⟨#[]⟩)).setCell ⟨w.heap.size, 5, none⟩ (.slice (some ⟨g, 0, none⟩) k rc)).cell? ⟨w.heap.size, 5, none⟩ = some (.slice (some ⟨g, 0, none⟩) k rc) := by go_simp
     refine bodyPost_ret (v := .agg #[.int .i64 op, .int .i64 0, .int .i64 0, .int .i64 0, .string ⟨#[]⟩, .slice (some ⟨g, 0, none⟩) k rc]) ?_ rfl ⟨.mk op 0 0 0 ⟨#[]⟩ k (kidL L'), _, _, _, rfl, kids_fin (r := w.heap.size) hLk.out (by omega) (by omega) ⟨hop0, hop1⟩ hO.out (by omega) (by omega) hKK.out _ _ _ _ _ _, by rw [hF5]; exact fin_size hLk.out (by omega) hG1 (fun i p hp => (hKK.out i p hp).2), by omega, hp.1, hp.2⟩
     simp [results, Tryz.results49, go_sem, g0, g1, g2, g3, g4, g5]
 ·have hcc : ¬ v < 6 ∨ (v < 6 ∧ ¬ d < 9) ∨ (v < 6 ∧ d < 9 ∧ ¬ 0 < L) := by omega
  clear hc
  rcases hcc with q1 | ⟨q1, q2⟩ | ⟨q1, q2, q3⟩
  ·have e1 : decide (v < 6) = false := decide_eq_false q1
   go_wp2_with fail
   refine (next_any b la ln lc (at' + 1) L 3 _ S1.out (by omega) (by decide) (by decide)).mono ?_
   rintro e w2 ⟨u, rfl, u0, u1, hS2, h2⟩
   have S2 := Lib.hid hS2
   have R2 := Lib.hid (R1.out.trans h2)
   have u3 : IntKind.i64.wrap (2 + u) = 2 + u := IntWalk.i64_in _ ⟨by omega, by omega⟩
   clear hS2 z1
   have q := keepr6 h2 (b := w.heap.size) (by first | (simp; done) | (simp; omega) | omega) (by first | (simp; done) | (simp; omega) | omega)
   have kc2_0_0 := q.1
   have kc2_0_1 := q.2.1
   have kc2_0_2 := q.2.2.1
   have kc2_0_3 := q.2.2.2.1
   have kc2_0_4 := q.2.2.2.2.1
   have kc2_0_5 := q.2.2.2.2.2.1
   have kf2_0_0 := q.2.2.2.2.2.2.1
   have kf2_0_1 := q.2.2.2.2.2.2.2.1
   have kf2_0_2 := q.2.2.2.2.2.2.2.2.1
   have kf2_0_3 := q.2.2.2.2.2.2.2.2.2.1
   have kf2_0_4 := q.2.2.2.2.2.2.2.2.2.2.1
   have kf2_0_5 := q.2.2.2.2.2.2.2.2.2.2.2.1
   have kl2_0 := q.2.2.2.2.2.2.2.2.2.2.2.2.1
   have kn2_0 := q.2.2.2.2.2.2.2.2.2.2.2.2.2.1
   have km2_0 := q.2.2.2.2.2.2.2.2.2.2.2.2.2.2
   clear q
   have kz2 := h2.size
   (try simp only [World.size_alloc, World.size_setCell, World.size_drew] at kz2)
   have H2 := Lib.hid h2
   clear h2
   go_wp2_with fail
   refine (leafN_any b la ln lc (at' + 1 + 1) L (2 + u) (some ⟨w2.heap.size, 0, none⟩) 4 4 wNm wDm _ (S2.out.rel ((Rel.refl _).alloc _)) (wEnv (by omega) (by simp) (fun i hi => by simp)) (by omega) (by omega)).mono ?_
   rintro e w3 ⟨op, a, bb, dd, s, at2, left2, rfl, hV, hat, hS3, h3⟩
   have S3 := Lib.hid (hS3.rel ((Rel.refl _).alloc (.cells #[.int .i64 op, .int .i64 a, .int .i64 bb, .int .i64 dd, .string s, .slice none 0 0] 29)))
   have R3 := Lib.hid (((R2.out.alloc _).trans h3).alloc (.cells #[.int .i64 op, .int .i64 a, .int .i64 bb, .int .i64 dd, .string s, .slice none 0 0] 29))
   have J := Lib.hid (leafV_i64 (dim := 2 + u) ⟨by omega, by omega⟩ (fun i _ => wNm_size i) hV)
   clear hS3 hV
   have q := keepr6 h3 (b := w.heap.size) (by first | (simp; done) | (simp; omega) | omega) (by first | (simp; done) | (simp; omega) | omega)
   have kc3_0_0 := q.1
   have kc3_0_1 := q.2.1
   have kc3_0_2 := q.2.2.1
   have kc3_0_3 := q.2.2.2.1
   have kc3_0_4 := q.2.2.2.2.1
   have kc3_0_5 := q.2.2.2.2.2.1
   have kf3_0_0 := q.2.2.2.2.2.2.1
   have kf3_0_1 := q.2.2.2.2.2.2.2.1
   have kf3_0_2 := q.2.2.2.2.2.2.2.2.1
   have kf3_0_3 := q.2.2.2.2.2.2.2.2.2.1
   have kf3_0_4 := q.2.2.2.2.2.2.2.2.2.2.1
   have kf3_0_5 := q.2.2.2.2.2.2.2.2.2.2.2.1
   have kl3_0 := q.2.2.2.2.2.2.2.2.2.2.2.2.1
   have kn3_0 := q.2.2.2.2.2.2.2.2.2.2.2.2.2.1
   have km3_0 := q.2.2.2.2.2.2.2.2.2.2.2.2.2.2
   clear q
   have kz3 := h3.size
   (try simp only [World.size_alloc, World.size_setCell, World.size_drew] at kz3)
   have H3 := Lib.hid h3
   clear h3
   have hb3 := S3.out.lt
   go_wp2_with fail
   refine (next_any b la ln lc at2 left2 40 _ S3.out (by omega) (by decide) (by decide)).mono ?_
   rintro e w4 ⟨x, rfl, x0, x1, hS4, h4⟩
   have S4 := Lib.hid hS4
   have R4 := Lib.hid (R3.out.trans h4)
   clear hS4
   have q := keepr6 h4 (b := w.heap.size) (by first | (simp; done) | (simp; omega) | omega) (by first | (simp; done) | (simp; omega) | omega)
   have kc4_0_0 := q.1
   have kc4_0_1 := q.2.1
   have kc4_0_2 := q.2.2.1
   have kc4_0_3 := q.2.2.2.1
   have kc4_0_4 := q.2.2.2.2.1
   have kc4_0_5 := q.2.2.2.2.2.1
   have kf4_0_0 := q.2.2.2.2.2.2.1
   have kf4_0_1 := q.2.2.2.2.2.2.2.1
   have kf4_0_2 := q.2.2.2.2.2.2.2.2.1
   have kf4_0_3 := q.2.2.2.2.2.2.2.2.2.1
   have kf4_0_4 := q.2.2.2.2.2.2.2.2.2.2.1
   have kf4_0_5 := q.2.2.2.2.2.2.2.2.2.2.2.1
   have kl4_0 := q.2.2.2.2.2.2.2.2.2.2.2.2.1
   have kn4_0 := q.2.2.2.2.2.2.2.2.2.2.2.2.2.1
   have km4_0 := q.2.2.2.2.2.2.2.2.2.2.2.2.2.2
   clear q
   have q := keepr6 h4 (b := w3.heap.size) (by first | (simp; done) | (simp; omega) | omega) (by first | (simp; done) | (simp; omega) | omega)
   have kc4_1_0 := q.1
   have kc4_1_1 := q.2.1
   have kc4_1_2 := q.2.2.1
   have kc4_1_3 := q.2.2.2.1
   have kc4_1_4 := q.2.2.2.2.1
   have kc4_1_5 := q.2.2.2.2.2.1
   have kf4_1_0 := q.2.2.2.2.2.2.1
   have kf4_1_1 := q.2.2.2.2.2.2.2.1
   have kf4_1_2 := q.2.2.2.2.2.2.2.2.1
   have kf4_1_3 := q.2.2.2.2.2.2.2.2.2.1
   have kf4_1_4 := q.2.2.2.2.2.2.2.2.2.2.1
   have kf4_1_5 := q.2.2.2.2.2.2.2.2.2.2.2.1
   have kl4_1 := q.2.2.2.2.2.2.2.2.2.2.2.2.1
   have kn4_1 := q.2.2.2.2.2.2.2.2.2.2.2.2.2.1
   have km4_1 := q.2.2.2.2.2.2.2.2.2.2.2.2.2.2
   clear q
   have kz4 := h4.size
   (try simp only [World.size_alloc, World.size_setCell, World.size_drew] at kz4)
   have H4 := Lib.hid h4
   clear h4
   rcases (show x = 0 ∨ x = 1 ∨ x = 2 ∨ x = 3 ∨ 4 ≤ x by omega) with rfl | rfl | rfl | rfl | hx
   ·go_wp2_with fail
    refine (next_any b la ln lc (at2 + 1) left2 24 _ S4.out (by omega) (by decide) (by decide)).mono ?_
    rintro e w5 ⟨y, rfl, y0, y1, hS5, h5⟩
    have R5 := Lib.hid (R4.out.trans h5)
    have R6 := Lib.hid (R5.out.setNew (p := ⟨w3.heap.size, 0, none⟩) (by simp; omega) (.int .i64 y))
    have S6 := Lib.hid (hS5.other (g := w3.heap.size) (i := 0) (v := .int .i64 y) (by omega) (HS.out.nums.ro R6.out))
    clear hS5
    have q := keepr6 h5 (b := w.heap.size) (by first | (simp; done) | (simp; omega) | omega) (by first | (simp; done) | (simp; omega) | omega)
    have kc5_0_0 := q.1
    have kc5_0_1 := q.2.1
    have kc5_0_2 := q.2.2.1
    have kc5_0_3 := q.2.2.2.1
    have kc5_0_4 := q.2.2.2.2.1
    have kc5_0_5 := q.2.2.2.2.2.1
    have kf5_0_0 := q.2.2.2.2.2.2.1
    have kf5_0_1 := q.2.2.2.2.2.2.2.1
    have kf5_0_2 := q.2.2.2.2.2.2.2.2.1
    have kf5_0_3 := q.2.2.2.2.2.2.2.2.2.1
    have kf5_0_4 := q.2.2.2.2.2.2.2.2.2.2.1
    have kf5_0_5 := q.2.2.2.2.2.2.2.2.2.2.2.1
    have kl5_0 := q.2.2.2.2.2.2.2.2.2.2.2.2.1
    have kn5_0 := q.2.2.2.2.2.2.2.2.2.2.2.2.2.1
    have km5_0 := q.2.2.2.2.2.2.2.2.2.2.2.2.2.2
    clear q
    have q := keepr6 h5 (b := w3.heap.size) (by first | (simp; done) | (simp; omega) | omega) (by first | (simp; done) | (simp; omega) | omega)
    have kc5_1_0 := q.1
    have kc5_1_1 := q.2.1
    have kc5_1_2 := q.2.2.1
    have kc5_1_3 := q.2.2.2.1
    have kc5_1_4 := q.2.2.2.2.1
    have kc5_1_5 := q.2.2.2.2.2.1
    have kf5_1_0 := q.2.2.2.2.2.2.1
    have kf5_1_1 := q.2.2.2.2.2.2.2.1
    have kf5_1_2 := q.2.2.2.2.2.2.2.2.1
    have kf5_1_3 := q.2.2.2.2.2.2.2.2.2.1
    have kf5_1_4 := q.2.2.2.2.2.2.2.2.2.2.1
    have kf5_1_5 := q.2.2.2.2.2.2.2.2.2.2.2.1
    have kl5_1 := q.2.2.2.2.2.2.2.2.2.2.2.2.1
    have kn5_1 := q.2.2.2.2.2.2.2.2.2.2.2.2.2.1
    have km5_1 := q.2.2.2.2.2.2.2.2.2.2.2.2.2.2
    clear q
    have kz5 := h5.size
    (try simp only [World.size_alloc, World.size_setCell, World.size_drew] at kz5)
    have H5 := Lib.hid h5
    clear h5
    ((try simp only []); (repeat (first | go_values | go_skip | go_guarded | go_step | go_upon | go_in)))
    have hp := put6 S6.out HS.out.nums R6.out (Nat.le_refl w.heap.size) hbw (.int .i64 y) (.int .i64 a) (.int .i64 bb) (.int .i64 dd) (.string s) (.slice none 0 0)
    have g0 : (((((((w5.setCell ⟨w3.heap.size, 0, none⟩ (.int .i64 y)).setCell ⟨w.heap.size, 0, none⟩ (.int .i64 y)).setCell ⟨w.heap.size, 1, none⟩ (.int .i64 a)).setCell ⟨w.heap.size, 2, none⟩ (.int .i64 bb)).setCell ⟨w.heap.size, 3, none⟩ (.int .i64 dd)).setCell ⟨w.heap.size, 4, none⟩ (.string s)).setCell ⟨w.heap.size, 5, none⟩ (.slice none 0 0)).cell? ⟨w.heap.size, 0, none⟩ = some (.int .i64 y) := by go_simp
    have g1 : (((((((w5.setCell ⟨w3.heap.size, 0, none⟩ (.int .i64 y)).setCell ⟨w.heap.size, 0, none⟩ (.int .i64 y)).setCell ⟨w.heap.size, 1, none⟩ (.int .i64 a)).setCell ⟨w.heap.size, 2, none⟩ (.int .i64 bb)).setCell ⟨w.heap.size, 3, none⟩ (.int .i64 dd)).setCell ⟨w.heap.size, 4, none⟩ (.string s)).setCell ⟨w.heap.size, 5, none⟩ (.slice none 0 0)).cell? ⟨w.heap.size, 1, none⟩ = some (.int .i64 a) := by go_simp
    have g2 : (((((((w5.setCell ⟨w3.heap.size, 0, none⟩ (.int .i64 y)).setCell ⟨w.heap.size, 0, none⟩ (.int .i64 y)).setCell ⟨w.heap.size, 1, none⟩ (.int .i64 a)).setCell ⟨w.heap.size, 2, none⟩ (.int .i64 bb)).setCell ⟨w.heap.size, 3, none⟩ (.int .i64 dd)).setCell ⟨w.heap.size, 4, none⟩ (.string s)).setCell ⟨w.heap.size, 5, none⟩ (.slice none 0 0)).cell? ⟨w.heap.size, 2, none⟩ = some (.int .i64 bb) := by go_simp
    have g3 : (((((((w5.setCell ⟨w3.heap.size, 0, none⟩ (.int .i64 y)).setCell ⟨w.heap.size, 0, none⟩ (.int .i64 y)).setCell ⟨w.heap.size, 1, none⟩ (.int .i64 a)).setCell ⟨w.heap.size, 2, none⟩ (.int .i64 bb)).setCell ⟨w.heap.size, 3, none⟩ (.int .i64 dd)).setCell ⟨w.heap.size, 4, none⟩ (.string s)).setCell ⟨w.heap.size, 5, none⟩ (.slice none 0 0)).cell? ⟨w.heap.size, 3, none⟩ = some (.int .i64 dd) := by go_simp
    have g4 : (((((((w5.setCell ⟨w3.heap.size, 0, none⟩ (.int .i64 y)).setCell ⟨w.heap.size, 0, none⟩ (.int .i64 y)).setCell ⟨w.heap.size, 1, none⟩ (.int .i64 a)).setCell ⟨w.heap.size, 2, none⟩ (.int .i64 bb)).setCell ⟨w.heap.size, 3, none⟩ (.int .i64 dd)).setCell ⟨w.heap.size, 4, none⟩ (.string s)).setCell ⟨w.heap.size, 5, none⟩ (.slice none 0 0)).cell? ⟨w.heap.size, 4, none⟩ = some (.string s) := by go_simp
    have g5 : (((((((w5.setCell ⟨w3.heap.size, 0, none⟩ (.int .i64 y)).setCell ⟨w.heap.size, 0, none⟩ (.int .i64 y)).setCell ⟨w.heap.size, 1, none⟩ (.int .i64 a)).setCell ⟨w.heap.size, 2, none⟩ (.int .i64 bb)).setCell ⟨w.heap.size, 3, none⟩ (.int .i64 dd)).setCell ⟨w.heap.size, 4, none⟩ (.string s)).setCell ⟨w.heap.size, 5, none⟩ (.slice none 0 0)).cell? ⟨w.heap.size, 5, none⟩ = some (.slice none 0 0) := by go_simp
    refine bodyPost_ret (v := .agg #[.int .i64 y, .int .i64 a, .int .i64 bb, .int .i64 dd, .string s, .slice none 0 0]) ?_ rfl ⟨.mk y a bb dd s 0 (fun _ => .no), _, _, _, rfl, leaf_tree ⟨by omega, by omega, J.out.a0, J.out.a1, J.out.b0, J.out.b1, J.out.d0, J.out.d1, J.out.s1⟩, by rw [size_mk]; simp [smK]; exact hF, by omega, hp.1, hp.2⟩
    simp [results, Tryz.results49, go_sem, g0, g1, g2, g3, g4, g5]
   ·go_wp2_with fail
    refine (next_any b la ln lc (at2 + 1) left2 5 _ (S4.out.rel ((Rel.refl _).alloc _)) (by omega) (by decide) (by decide)).mono ?_
    rintro e w5 ⟨y, rfl, y0, y1, hS5, h5⟩
    obtain ⟨j, rfl⟩ := Int.eq_ofNat_of_zero_le y0
    have hj : j < 5 := by omega
    obtain ⟨t, ht, hts⟩ := tab5_ok j hj
    have ct : w5.cell? ⟨w4.heap.size, j, none⟩ = some (.string t) := h5.cell (by simp) (by have := S4.out.lt; omega) (by show (w4.alloc (.cells tab5 _)).cell? _ = _; simpa using ht)
    have R5 := Lib.hid ((R4.out.alloc _).trans h5)
    have R6 := Lib.hid (R5.out.setNew (p := ⟨w3.heap.size, 4, none⟩) (by simp; omega) (.string t))
    have S6 := Lib.hid (hS5.other (g := w3.heap.size) (i := 4) (v := .string t) (by omega) (HS.out.nums.ro R6.out))
    clear hS5 ht
    have q := keepr6 h5 (b := w.heap.size) (by first | (simp; done) | (simp; omega) | omega) (by first | (simp; done) | (simp; omega) | omega)
    have kc5_0_0 := q.1
    have kc5_0_1 := q.2.1
    have kc5_0_2 := q.2.2.1
    have kc5_0_3 := q.2.2.2.1
    have kc5_0_4 := q.2.2.2.2.1
    have kc5_0_5 := q.2.2.2.2.2.1
    have kf5_0_0 := q.2.2.2.2.2.2.1
    have kf5_0_1 := q.2.2.2.2.2.2.2.1
    have kf5_0_2 := q.2.2.2.2.2.2.2.2.1
    have kf5_0_3 := q.2.2.2.2.2.2.2.2.2.1
    have kf5_0_4 := q.2.2.2.2.2.2.2.2.2.2.1
    have kf5_0_5 := q.2.2.2.2.2.2.2.2.2.2.2.1
    have kl5_0 := q.2.2.2.2.2.2.2.2.2.2.2.2.1
    have kn5_0 := q.2.2.2.2.2.2.2.2.2.2.2.2.2.1
    have km5_0 := q.2.2.2.2.2.2.2.2.2.2.2.2.2.2
    clear q
    have q := keepr6 h5 (b := w3.heap.size) (by first | (simp; done) | (simp; omega) | omega) (by first | (simp; done) | (simp; omega) | omega)
    have kc5_1_0 := q.1
    have kc5_1_1 := q.2.1
    have kc5_1_2 := q.2.2.1
    have kc5_1_3 := q.2.2.2.1
    have kc5_1_4 := q.2.2.2.2.1
    have kc5_1_5 := q.2.2.2.2.2.1
    have kf5_1_0 := q.2.2.2.2.2.2.1
    have kf5_1_1 := q.2.2.2.2.2.2.2.1
    have kf5_1_2 := q.2.2.2.2.2.2.2.2.1
    have kf5_1_3 := q.2.2.2.2.2.2.2.2.2.1
    have kf5_1_4 := q.2.2.2.2.2.2.2.2.2.2.1
    have kf5_1_5 := q.2.2.2.2.2.2.2.2.2.2.2.1
    have kl5_1 := q.2.2.2.2.2.2.2.2.2.2.2.2.1
    have kn5_1 := q.2.2.2.2.2.2.2.2.2.2.2.2.2.1
    have km5_1 := q.2.2.2.2.2.2.2.2.2.2.2.2.2.2
    clear q
    have kz5 := h5.size
    (try simp only [World.size_alloc, World.size_setCell, World.size_drew] at kz5)
    have H5 := Lib.hid h5
    clear h5
    ((try simp only []); (repeat (first | go_values | go_skip | go_guarded | go_step | go_upon | go_in)))
    have hp := put6 S6.out HS.out.nums R6.out (Nat.le_refl w.heap.size) hbw (.int .i64 op) (.int .i64 a) (.int .i64 bb) (.int .i64 dd) (.string t) (.slice none 0 0)
    have g0 : (((((((w5.setCell ⟨w3.heap.size, 4, none⟩ (.string t)).setCell ⟨w.heap.size, 0, none⟩ (.int .i64 op)).setCell ⟨w.heap.size, 1, none⟩ (.int .i64 a)).setCell ⟨w.heap.size, 2, none⟩ (.int .i64 bb)).setCell ⟨w.heap.size, 3, none⟩ (.int .i64 dd)).setCell ⟨w.heap.size, 4, none⟩ (.string t)).setCell ⟨w.heap.size, 5, none⟩ (.slice none 0 0)).cell? ⟨w.heap.size, 0, none⟩ = some (.int .i64 op) := by go_simp
    have g1 : (((((((w5.setCell ⟨w3.heap.size, 4, none⟩ (.string t)).setCell ⟨w.heap.size, 0, none⟩ (.int .i64 op)).setCell ⟨w.heap.size, 1, none⟩ (.int .i64 a)).setCell ⟨w.heap.size, 2, none⟩ (.int .i64 bb)).setCell ⟨w.heap.size, 3, none⟩ (.int .i64 dd)).setCell ⟨w.heap.size, 4, none⟩ (.string t)).setCell ⟨w.heap.size, 5, none⟩ (.slice none 0 0)).cell? ⟨w.heap.size, 1, none⟩ = some (.int .i64 a) := by go_simp
    have g2 : (((((((w5.setCell ⟨w3.heap.size, 4, none⟩ (.string t)).setCell ⟨w.heap.size, 0, none⟩ (.int .i64 op)).setCell ⟨w.heap.size, 1, none⟩ (.int .i64 a)).setCell ⟨w.heap.size, 2, none⟩ (.int .i64 bb)).setCell ⟨w.heap.size, 3, none⟩ (.int .i64 dd)).setCell ⟨w.heap.size, 4, none⟩ (.string t)).setCell ⟨w.heap.size, 5, none⟩ (.slice none 0 0)).cell? ⟨w.heap.size, 2, none⟩ = some (.int .i64 bb) := by go_simp
    have g3 : (((((((w5.setCell ⟨w3.heap.size, 4, none⟩ (.string t)).setCell ⟨w.heap.size, 0, none⟩ (.int .i64 op)).setCell ⟨w.heap.size, 1, none⟩ (.int .i64 a)).setCell ⟨w.heap.size, 2, none⟩ (.int .i64 bb)).setCell ⟨w.heap.size, 3, none⟩ (.int .i64 dd)).setCell ⟨w.heap.size, 4, none⟩ (.string t)).setCell ⟨w.heap.size, 5, none⟩ (.slice none 0 0)).cell? ⟨w.heap.size, 3, none⟩ = some (.int .i64 dd) := by go_simp
    have g4 : (((((((w5.setCell ⟨w3.heap.size, 4, none⟩ (.string t)).setCell ⟨w.heap.size, 0, none⟩ (.int .i64 op)).setCell ⟨w.heap.size, 1, none⟩ (.int .i64 a)).setCell ⟨w.heap.size, 2, none⟩ (.int .i64 bb)).setCell ⟨w.heap.size, 3, none⟩ (.int .i64 dd)).setCell ⟨w.heap.size, 4, none⟩ (.string t)).setCell ⟨w.heap.size, 5, none⟩ (.slice none 0 0)).cell? ⟨w.heap.size, 4, none⟩ = some (.string t) := by go_simp
    have g5 : (((((((w5.setCell ⟨w3.heap.size, 4, none⟩ (.string t)).setCell ⟨w.heap.size, 0, none⟩ (.int .i64 op)).setCell ⟨w.heap.size, 1, none⟩ (.int .i64 a)).setCell ⟨w.heap.size, 2, none⟩ (.int .i64 bb)).setCell ⟨w.heap.size, 3, none⟩ (.int .i64 dd)).setCell ⟨w.heap.size, 4, none⟩ (.string t)).setCell ⟨w.heap.size, 5, none⟩ (.slice none 0 0)).cell? ⟨w.heap.size, 5, none⟩ = some (.slice none 0 0) := by go_simp
    refine bodyPost_ret (v := .agg #[.int .i64 op, .int .i64 a, .int .i64 bb, .int .i64 dd, .string t, .slice none 0 0]) ?_ rfl ⟨.mk op a bb dd t 0 (fun _ => .no), _, _, _, rfl, leaf_tree ⟨J.out.o0, J.out.o1, J.out.a0, J.out.a1, J.out.b0, J.out.b1, J.out.d0, J.out.d1, by omega⟩, by rw [size_mk]; simp [smK]; exact hF, by omega, hp.1, hp.2⟩
    simp [results, Tryz.results49, go_sem, g0, g1, g2, g3, g4, g5]
   ·go_wp2_with fail
    refine (next_any b la ln lc (at2 + 1) left2 6 _ S4.out (by omega) (by decide) (by decide)).mono ?_
    rintro e w5 ⟨y, rfl, y0, y1, hS5, h5⟩
    have R5 := Lib.hid (R4.out.trans h5)
    have R6 := Lib.hid (R5.out.setNew (p := ⟨w3.heap.size, 3, none⟩) (by simp; omega) (.int .i64 y))
    have S6 := Lib.hid (hS5.other (g := w3.heap.size) (i := 3) (v := .int .i64 y) (by omega) (HS.out.nums.ro R6.out))
    clear hS5
    have q := keepr6 h5 (b := w.heap.size) (by first | (simp; done) | (simp; omega) | omega) (by first | (simp; done) | (simp; omega) | omega)
    have kc5_0_0 := q.1
    have kc5_0_1 := q.2.1
    have kc5_0_2 := q.2.2.1
    have kc5_0_3 := q.2.2.2.1
    have kc5_0_4 := q.2.2.2.2.1
    have kc5_0_5 := q.2.2.2.2.2.1
    have kf5_0_0 := q.2.2.2.2.2.2.1
    have kf5_0_1 := q.2.2.2.2.2.2.2.1
    have kf5_0_2 := q.2.2.2.2.2.2.2.2.1
    have kf5_0_3 := q.2.2.2.2.2.2.2.2.2.1
    have kf5_0_4 := q.2.2.2.2.2.2.2.2.2.2.1
    have kf5_0_5 := q.2.2.2.2.2.2.2.2.2.2.2.1
    have kl5_0 := q.2.2.2.2.2.2.2.2.2.2.2.2.1
    have kn5_0 := q.2.2.2.2.2.2.2.2.2.2.2.2.2.1
    have km5_0 := q.2.2.2.2.2.2.2.2.2.2.2.2.2.2
    clear q
    have q := keepr6 h5 (b := w3.heap.size) (by first | (simp; done) | (simp; omega) | omega) (by first | (simp; done) | (simp; omega) | omega)
    have kc5_1_0 := q.1
    have kc5_1_1 := q.2.1
    have kc5_1_2 := q.2.2.1
    have kc5_1_3 := q.2.2.2.1
    have kc5_1_4 := q.2.2.2.2.1
    have kc5_1_5 := q.2.2.2.2.2.1
    have kf5_1_0 := q.2.2.2.2.2.2.1
    have kf5_1_1 := q.2.2.2.2.2.2.2.1
    have kf5_1_2 := q.2.2.2.2.2.2.2.2.1
    have kf5_1_3 := q.2.2.2.2.2.2.2.2.2.1
    have kf5_1_4 := q.2.2.2.2.2.2.2.2.2.2.1
    have kf5_1_5 := q.2.2.2.2.2.2.2.2.2.2.2.1
    have kl5_1 := q.2.2.2.2.2.2.2.2.2.2.2.2.1
    have kn5_1 := q.2.2.2.2.2.2.2.2.2.2.2.2.2.1
    have km5_1 := q.2.2.2.2.2.2.2.2.2.2.2.2.2.2
    clear q
    have kz5 := h5.size
    (try simp only [World.size_alloc, World.size_setCell, World.size_drew] at kz5)
    have H5 := Lib.hid h5
    clear h5
    ((try simp only []); (repeat (first | go_values | go_skip | go_guarded | go_step | go_upon | go_in)))
    have hp := put6 S6.out HS.out.nums R6.out (Nat.le_refl w.heap.size) hbw (.int .i64 op) (.int .i64 a) (.int .i64 bb) (.int .i64 y) (.string s) (.slice none 0 0)
    have g0 : (((((((w5.setCell ⟨w3.heap.size, 3, none⟩ (.int .i64 y)).setCell ⟨w.heap.size, 0, none⟩ (.int .i64 op)).setCell ⟨w.heap.size, 1, none⟩ (.int .i64 a)).setCell ⟨w.heap.size, 2, none⟩ (.int .i64 bb)).setCell ⟨w.heap.size, 3, none⟩ (.int .i64 y)).setCell ⟨w.heap.size, 4, none⟩ (.string s)).setCell ⟨w.heap.size, 5, none⟩ (.slice none 0 0)).cell? ⟨w.heap.size, 0, none⟩ = some (.int .i64 op) := by go_simp
    have g1 : (((((((w5.setCell ⟨w3.heap.size, 3, none⟩ (.int .i64 y)).setCell ⟨w.heap.size, 0, none⟩ (.int .i64 op)).setCell ⟨w.heap.size, 1, none⟩ (.int .i64 a)).setCell ⟨w.heap.size, 2, none⟩ (.int .i64 bb)).setCell ⟨w.heap.size, 3, none⟩ (.int .i64 y)).setCell ⟨w.heap.size, 4, none⟩ (.string s)).setCell ⟨w.heap.size, 5, none⟩ (.slice none 0 0)).cell? ⟨w.heap.size, 1, none⟩ = some (.int .i64 a) := by go_simp
    have g2 : (((((((w5.setCell ⟨w3.heap.size, 3, none⟩ (.int .i64 y)).setCell ⟨w.heap.size, 0, none⟩ (.int .i64 op)).setCell ⟨w.heap.size, 1, none⟩ (.int .i64 a)).setCell ⟨w.heap.size, 2, none⟩ (.int .i64 bb)).setCell ⟨w.heap.size, 3, none⟩ (.int .i64 y)).setCell ⟨w.heap.size, 4, none⟩ (.string s)).setCell ⟨w.heap.size, 5, none⟩ (.slice none 0 0)).cell? ⟨w.heap.size, 2, none⟩ = some (.int .i64 bb) := by go_simp
    have g3 : (((((((w5.setCell ⟨w3.heap.size, 3, none⟩ (.int .i64 y)).setCell ⟨w.heap.size, 0, none⟩ (.int .i64 op)).setCell ⟨w.heap.size, 1, none⟩ (.int .i64 a)).setCell ⟨w.heap.size, 2, none⟩ (.int .i64 bb)).setCell ⟨w.heap.size, 3, none⟩ (.int .i64 y)).setCell ⟨w.heap.size, 4, none⟩ (.string s)).setCell ⟨w.heap.size, 5, none⟩ (.slice none 0 0)).cell? ⟨w.heap.size, 3, none⟩ = some (.int .i64 y) := by go_simp
    have g4 : (((((((w5.setCell ⟨w3.heap.size, 3, none⟩ (.int .i64 y)).setCell ⟨w.heap.size, 0, none⟩ (.int .i64 op)).setCell ⟨w.heap.size, 1, none⟩ (.int .i64 a)).setCell ⟨w.heap.size, 2, none⟩ (.int .i64 bb)).setCell ⟨w.heap.size, 3, none⟩ (.int .i64 y)).setCell ⟨w.heap.size, 4, none⟩ (.string s)).setCell ⟨w.heap.size, 5, none⟩ (.slice none 0 0)).cell? ⟨w.heap.size, 4, none⟩ = some (.string s) := by go_simp
    have g5 : (((((((w5.setCell ⟨w3.heap.size, 3, none⟩ (.int .i64 y)).setCell ⟨w.heap.size, 0, none⟩ (.int .i64 op)).setCell ⟨w.heap.size, 1, none⟩ (.int .i64 a)).setCell ⟨w.heap.size, 2, none⟩ (.int .i64 bb)).setCell ⟨w.heap.size, 3, none⟩ (.int .i64 y)).setCell ⟨w.heap.size, 4, none⟩ (.string s)).setCell ⟨w.heap.size, 5, none⟩ (.slice none 0 0)).cell? ⟨w.heap.size, 5, none⟩ = some (.slice none 0 0) := by go_simp
    refine bodyPost_ret (v := .agg #[.int .i64 op, .int .i64 a, .int .i64 bb, .int .i64 y, .string s, .slice none 0 0]) ?_ rfl ⟨.mk op a bb y s 0 (fun _ => .no), _, _, _, rfl, leaf_tree ⟨J.out.o0, J.out.o1, J.out.a0, J.out.a1, J.out.b0, J.out.b1, by omega, by omega, J.out.s1⟩, by rw [size_mk]; simp [smK]; exact hF, by omega, hp.1, hp.2⟩
    simp [results, Tryz.results49, go_sem, g0, g1, g2, g3, g4, g5]
   ·go_wp2_with fail
    refine (next_any b la ln lc (at2 + 1) left2 50 _ S4.out (by omega) (by decide) (by decide)).mono ?_
    rintro e w5 ⟨y, rfl, y0, y1, hS5, h5⟩
    have S5 := Lib.hid hS5
    have R5 := Lib.hid (R4.out.trans h5)
    have y3 : IntKind.i64.wrap (y - 20) = y - 20 := IntWalk.i64_in _ ⟨by omega, by omega⟩
    clear hS5
    have q := keepr6 h5 (b := w.heap.size) (by first | (simp; done) | (simp; omega) | omega) (by first | (simp; done) | (simp; omega) | omega)
    have kc5_0_0 := q.1
    have kc5_0_1 := q.2.1
    have kc5_0_2 := q.2.2.1
    have kc5_0_3 := q.2.2.2.1
    have kc5_0_4 := q.2.2.2.2.1
    have kc5_0_5 := q.2.2.2.2.2.1
    have kf5_0_0 := q.2.2.2.2.2.2.1
    have kf5_0_1 := q.2.2.2.2.2.2.2.1
    have kf5_0_2 := q.2.2.2.2.2.2.2.2.1
    have kf5_0_3 := q.2.2.2.2.2.2.2.2.2.1
    have kf5_0_4 := q.2.2.2.2.2.2.2.2.2.2.1
    have kf5_0_5 := q.2.2.2.2.2.2.2.2.2.2.2.1
    have kl5_0 := q.2.2.2.2.2.2.2.2.2.2.2.2.1
    have kn5_0 := q.2.2.2.2.2.2.2.2.2.2.2.2.2.1
    have km5_0 := q.2.2.2.2.2.2.2.2.2.2.2.2.2.2
    clear q
    have q := keepr6 h5 (b := w3.heap.size) (by first | (simp; done) | (simp; omega) | omega) (by first | (simp; done) | (simp; omega) | omega)
    have kc5_1_0 := q.1
    have kc5_1_1 := q.2.1
    have kc5_1_2 := q.2.2.1
    have kc5_1_3 := q.2.2.2.1
    have kc5_1_4 := q.2.2.2.2.1
    have kc5_1_5 := q.2.2.2.2.2.1
    have kf5_1_0 := q.2.2.2.2.2.2.1
    have kf5_1_1 := q.2.2.2.2.2.2.2.1
    have kf5_1_2 := q.2.2.2.2.2.2.2.2.1
    have kf5_1_3 := q.2.2.2.2.2.2.2.2.2.1
    have kf5_1_4 := q.2.2.2.2.2.2.2.2.2.2.1
    have kf5_1_5 := q.2.2.2.2.2.2.2.2.2.2.2.1
    have kl5_1 := q.2.2.2.2.2.2.2.2.2.2.2.2.1
    have kn5_1 := q.2.2.2.2.2.2.2.2.2.2.2.2.2.1
    have km5_1 := q.2.2.2.2.2.2.2.2.2.2.2.2.2.2
    clear q
    have kz5 := h5.size
    (try simp only [World.size_alloc, World.size_setCell, World.size_drew] at kz5)
    have H5 := Lib.hid h5
    clear h5
    go_wp2_with fail
    refine (next_any b la ln lc (at2 + 1 + 1) left2 30 _ S5.out (by omega) (by decide) (by decide)).mono ?_
    rintro e w6 ⟨z, rfl, z0, zz1, hS6, h6⟩
    have R6 := Lib.hid (R5.out.trans h6)
    have R7 := Lib.hid ((R6.out.setNew (p := ⟨w3.heap.size, 1, none⟩) (by simp; omega) (.int .i64 (y - 20))).setNew (p := ⟨w3.heap.size, 2, none⟩) (by simp; omega) (.int .i64 z))
    have S7 := Lib.hid ((hS6.other (g := w3.heap.size) (i := 1) (v := .int .i64 (y - 20)) (by omega) (HS.out.nums.ro (R6.out.setNew (p := ⟨w3.heap.size, 1, none⟩) (by simp; omega) (.int .i64 (y - 20))))).other (g := w3.heap.size) (i := 2) (v := .int .i64 z) (by omega) (HS.out.nums.ro R7.out))
    clear hS6
    have q := keepr6 h6 (b := w.heap.size) (by first | (simp; done) | (simp; omega) | omega) (by first | (simp; done) | (simp; omega) | omega)
    have kc6_0_0 := q.1
    have kc6_0_1 := q.2.1
    have kc6_0_2 := q.2.2.1
    have kc6_0_3 := q.2.2.2.1
    have kc6_0_4 := q.2.2.2.2.1
    have kc6_0_5 := q.2.2.2.2.2.1
    have kf6_0_0 := q.2.2.2.2.2.2.1
    have kf6_0_1 := q.2.2.2.2.2.2.2.1
    have kf6_0_2 := q.2.2.2.2.2.2.2.2.1
    have kf6_0_3 := q.2.2.2.2.2.2.2.2.2.1
    have kf6_0_4 := q.2.2.2.2.2.2.2.2.2.2.1
    have kf6_0_5 := q.2.2.2.2.2.2.2.2.2.2.2.1
    have kl6_0 := q.2.2.2.2.2.2.2.2.2.2.2.2.1
    have kn6_0 := q.2.2.2.2.2.2.2.2.2.2.2.2.2.1
    have km6_0 := q.2.2.2.2.2.2.2.2.2.2.2.2.2.2
    clear q
    have q := keepr6 h6 (b := w3.heap.size) (by first | (simp; done) | (simp; omega) | omega) (by first | (simp; done) | (simp; omega) | omega)
    have kc6_1_0 := q.1
    have kc6_1_1 := q.2.1
    have kc6_1_2 := q.2.2.1
    have kc6_1_3 := q.2.2.2.1
    have kc6_1_4 := q.2.2.2.2.1
    have kc6_1_5 := q.2.2.2.2.2.1
    have kf6_1_0 := q.2.2.2.2.2.2.1
    have kf6_1_1 := q.2.2.2.2.2.2.2.1
    have kf6_1_2 := q.2.2.2.2.2.2.2.2.1
    have kf6_1_3 := q.2.2.2.2.2.2.2.2.2.1
    have kf6_1_4 := q.2.2.2.2.2.2.2.2.2.2.1
    have kf6_1_5 := q.2.2.2.2.2.2.2.2.2.2.2.1
    have kl6_1 := q.2.2.2.2.2.2.2.2.2.2.2.2.1
    have kn6_1 := q.2.2.2.2.2.2.2.2.2.2.2.2.2.1
    have km6_1 := q.2.2.2.2.2.2.2.2.2.2.2.2.2.2
    clear q
    have kz6 := h6.size
    (try simp only [World.size_alloc, World.size_setCell, World.size_drew] at kz6)
    have H6 := Lib.hid h6
    clear h6
    ((try simp only []); (repeat (first | go_values | go_skip | go_guarded | go_step | go_upon | go_in)))
    have hp := put6 S7.out HS.out.nums R7.out (Nat.le_refl w.heap.size) hbw (.int .i64 op) (.int .i64 (y - 20)) (.int .i64 z) (.int .i64 dd) (.string s) (.slice none 0 0)
    have g0 : ((((((((w6.setCell ⟨w3.heap.size, 1, none⟩ (.int .i64 (y - 20))).setCell ⟨w3.heap.size, 2, none⟩ (.int .i64 z)).setCell ⟨w.heap.size, 0, none⟩ (.int .i64 op)).setCell ⟨w.heap.size, 1, none⟩ (.int .i64 (y - 20))).setCell ⟨w.heap.size, 2, none⟩ (.int .i64 z)).setCell ⟨w.heap.size, 3, none⟩ (.int .i64 dd)).setCell ⟨w.heap.size, 4, none⟩ (.string s)).setCell ⟨w.heap.size, 5, none⟩ (.slice none 0 0)).cell? ⟨w.heap.size, 0, none⟩ = some (.int .i64 op) := by go_simp
    have g1 : ((((((((w6.setCell ⟨w3.heap.size, 1, none⟩ (.int .i64 (y - 20))).setCell ⟨w3.heap.size, 2, none⟩ (.int .i64 z)).setCell ⟨w.heap.size, 0, none⟩ (.int .i64 op)).setCell ⟨w.heap.size, 1, none⟩ (.int .i64 (y - 20))).setCell ⟨w.heap.size, 2, none⟩ (.int .i64 z)).setCell ⟨w.heap.size, 3, none⟩ (.int .i64 dd)).setCell ⟨w.heap.size, 4, none⟩ (.string s)).setCell ⟨w.heap.size, 5, none⟩ (.slice none 0 0)).cell? ⟨w.heap.size, 1, none⟩ = some (.int .i64 (y - 20)) := by go_simp
    have g2 : ((((((((w6.setCell ⟨w3.heap.size, 1, none⟩ (.int .i64 (y - 20))).setCell ⟨w3.heap.size, 2, none⟩ (.int .i64 z)).setCell ⟨w.heap.size, 0, none⟩ (.int .i64 op)).setCell ⟨w.heap.size, 1, none⟩ (.int .i64 (y - 20))).setCell ⟨w.heap.size, 2, none⟩ (.int .i64 z)).setCell ⟨w.heap.size, 3, none⟩ (.int .i64 dd)).setCell ⟨w.heap.size, 4, none⟩ (.string s)).setCell ⟨w.heap.size, 5, none⟩ (.slice none 0 0)).cell? ⟨w.heap.size, 2, none⟩ = some (.int .i64 z) := by go_simp
    have g3 : ((((((((w6.setCell ⟨w3.heap.size, 1, none⟩ (.int .i64 (y - 20))).setCell ⟨w3.heap.size, 2, none⟩ (.int .i64 z)).setCell ⟨w.heap.size, 0, none⟩ (.int .i64 op)).setCell ⟨w.heap.size, 1, none⟩ (.int .i64 (y - 20))).setCell ⟨w.heap.size, 2, none⟩ (.int .i64 z)).setCell ⟨w.heap.size, 3, none⟩ (.int .i64 dd)).setCell ⟨w.heap.size, 4, none⟩ (.string s)).setCell ⟨w.heap.size, 5, none⟩ (.slice none 0 0)).cell? ⟨w.heap.size, 3, none⟩ = some (.int .i64 dd) := by go_simp
    have g4 : ((((((((w6.setCell ⟨w3.heap.size, 1, none⟩ (.int .i64 (y - 20))).setCell ⟨w3.heap.size, 2, none⟩ (.int .i64 z)).setCell ⟨w.heap.size, 0, none⟩ (.int .i64 op)).setCell ⟨w.heap.size, 1, none⟩ (.int .i64 (y - 20))).setCell ⟨w.heap.size, 2, none⟩ (.int .i64 z)).setCell ⟨w.heap.size, 3, none⟩ (.int .i64 dd)).setCell ⟨w.heap.size, 4, none⟩ (.string s)).setCell ⟨w.heap.size, 5, none⟩ (.slice none 0 0)).cell? ⟨w.heap.size, 4, none⟩ = some (.string s) := by go_simp
    have g5 : ((((((((w6.setCell ⟨w3.heap.size, 1, none⟩ (.int .i64 (y - 20))).setCell ⟨w3.heap.size, 2, none⟩ (.int .i64 z)).setCell ⟨w.heap.size, 0, none⟩ (.int .i64 op)).setCell ⟨w.heap.size, 1, none⟩ (.int .i64 (y - 20))).setCell ⟨w.heap.size, 2, none⟩ (.int .i64 z)).setCell ⟨w.heap.size, 3, none⟩ (.int .i64 dd)).setCell ⟨w.heap.size, 4, none⟩ (.string s)).setCell ⟨w.heap.size, 5, none⟩ (.slice none 0 0)).cell? ⟨w.heap.size, 5, none⟩ = some (.slice none 0 0) := by go_simp
    refine bodyPost_ret (v := .agg #[.int .i64 op, .int .i64 (y - 20), .int .i64 z, .int .i64 dd, .string s, .slice none 0 0]) ?_ rfl ⟨.mk op (y - 20) z dd s 0 (fun _ => .no), _, _, _, rfl, leaf_tree ⟨J.out.o0, J.out.o1, by omega, by omega, by omega, by omega, J.out.d0, J.out.d1, J.out.s1⟩, by rw [size_mk]; simp [smK]; exact hF, by omega, hp.1, hp.2⟩
    simp [results, Tryz.results49, go_sem, g0, g1, g2, g3, g4, g5]
   ·have k0 : (x == 0) = false := by rw [beq_eq_false_iff_ne]; omega
    have k1 : (x == 1) = false := by rw [beq_eq_false_iff_ne]; omega
    have k2 : (x == 2) = false := by rw [beq_eq_false_iff_ne]; omega
    have k3 : (x == 3) = false := by rw [beq_eq_false_iff_ne]; omega
    ((try simp only []); (repeat (first | go_values | go_skip | go_guarded | go_step | go_upon | go_in)))
    have hp := put6 S4.out HS.out.nums R4.out (Nat.le_refl w.heap.size) hbw (.int .i64 op) (.int .i64 a) (.int .i64 bb) (.int .i64 dd) (.string s) (.slice none 0 0)
    have g0 : ((((((w4.setCell ⟨w.heap.size, 0, none⟩ (.int .i64 op)).setCell ⟨w.heap.size, 1, none⟩ (.int .i64 a)).setCell ⟨w.heap.size, 2, none⟩ (.int .i64 bb)).setCell ⟨w.heap.size, 3, none⟩ (.int .i64 dd)).setCell ⟨w.heap.size, 4, none⟩ (.string s)).setCell ⟨w.heap.size, 5, none⟩ (.slice none 0 0)).cell? ⟨w.heap.size, 0, none⟩ = some (.int .i64 op) := by go_simp
    have g1 : ((((((w4.setCell ⟨w.heap.size, 0, none⟩ (.int .i64 op)).setCell ⟨w.heap.size, 1, none⟩ (.int .i64 a)).setCell ⟨w.heap.size, 2, none⟩ (.int .i64 bb)).setCell ⟨w.heap.size, 3, none⟩ (.int .i64 dd)).setCell ⟨w.heap.size, 4, none⟩ (.string s)).setCell ⟨w.heap.size, 5, none⟩ (.slice none 0 0)).cell? ⟨w.heap.size, 1, none⟩ = some (.int .i64 a) := by go_simp
    have g2 : ((((((w4.setCell ⟨w.heap.size, 0, none⟩ (.int .i64 op)).setCell ⟨w.heap.size, 1, none⟩ (.int .i64 a)).setCell ⟨w.heap.size, 2, none⟩ (.int .i64 bb)).setCell ⟨w.heap.size, 3, none⟩ (.int .i64 dd)).setCell ⟨w.heap.size, 4, none⟩ (.string s)).setCell ⟨w.heap.size, 5, none⟩ (.slice none 0 0)).cell? ⟨w.heap.size, 2, none⟩ = some (.int .i64 bb) := by go_simp
    have g3 : ((((((w4.setCell ⟨w.heap.size, 0, none⟩ (.int .i64 op)).setCell ⟨w.heap.size, 1, none⟩ (.int .i64 a)).setCell ⟨w.heap.size, 2, none⟩ (.int .i64 bb)).setCell ⟨w.heap.size, 3, none⟩ (.int .i64 dd)).setCell ⟨w.heap.size, 4, none⟩ (.string s)).setCell ⟨w.heap.size, 5, none⟩ (.slice none 0 0)).cell? ⟨w.heap.size, 3, none⟩ = some (.int .i64 dd) := by go_simp
    have g4 : ((((((w4.setCell ⟨w.heap.size, 0, none⟩ (.int .i64 op)).setCell ⟨w.heap.size, 1, none⟩ (.int .i64 a)).setCell ⟨w.heap.size, 2, none⟩ (.int .i64 bb)).setCell ⟨w.heap.size, 3, none⟩ (.int .i64 dd)).setCell ⟨w.heap.size, 4, none⟩ (.string s)).setCell ⟨w.heap.size, 5, none⟩ (.slice none 0 0)).cell? ⟨w.heap.size, 4, none⟩ = some (.string s) := by go_simp
    have g5 : ((((((w4.setCell ⟨w.heap.size, 0, none⟩ (.int .i64 op)).setCell ⟨w.heap.size, 1, none⟩ (.int .i64 a)).setCell ⟨w.heap.size, 2, none⟩ (.int .i64 bb)).setCell ⟨w.heap.size, 3, none⟩ (.int .i64 dd)).setCell ⟨w.heap.size, 4, none⟩ (.string s)).setCell ⟨w.heap.size, 5, none⟩ (.slice none 0 0)).cell? ⟨w.heap.size, 5, none⟩ = some (.slice none 0 0) := by go_simp
    refine bodyPost_ret (v := .agg #[.int .i64 op, .int .i64 a, .int .i64 bb, .int .i64 dd, .string s, .slice none 0 0]) ?_ rfl ⟨.mk op a bb dd s 0 (fun _ => .no), _, _, _, rfl, leaf_tree J.out, by rw [size_mk]; simp [smK]; exact hF, by omega, hp.1, hp.2⟩
    simp [results, Tryz.results49, go_sem, g0, g1, g2, g3, g4, g5]
  ·have e1 : decide (v < 6) = true := decide_eq_true q1
   have e2 : decide (d < 9) = false := decide_eq_false q2
   go_wp2_with fail
   refine (next_any b la ln lc (at' + 1) L 3 _ S1.out (by omega) (by decide) (by decide)).mono ?_
   rintro e w2 ⟨u, rfl, u0, u1, hS2, h2⟩
   have S2 := Lib.hid hS2
   have R2 := Lib.hid (R1.out.trans h2)
   have u3 : IntKind.i64.wrap (2 + u) = 2 + u := IntWalk.i64_in _ ⟨by omega, by omega⟩
   clear hS2 z1
   have q := keepr6 h2 (b := w.heap.size) (by first | (simp; done) | (simp; omega) | omega) (by first | (simp; done) | (simp; omega) | omega)
   have kc2_0_0 := q.1
   have kc2_0_1 := q.2.1
   have kc2_0_2 := q.2.2.1
   have kc2_0_3 := q.2.2.2.1
   have kc2_0_4 := q.2.2.2.2.1
   have kc2_0_5 := q.2.2.2.2.2.1
   have kf2_0_0 := q.2.2.2.2.2.2.1
   have kf2_0_1 := q.2.2.2.2.2.2.2.1
   have kf2_0_2 := q.2.2.2.2.2.2.2.2.1
   have kf2_0_3 := q.2.2.2.2.2.2.2.2.2.1
   have kf2_0_4 := q.2.2.2.2.2.2.2.2.2.2.1
   have kf2_0_5 := q.2.2.2.2.2.2.2.2.2.2.2.1
   have kl2_0 := q.2.2.2.2.2.2.2.2.2.2.2.2.1
   have kn2_0 := q.2.2.2.2.2.2.2.2.2.2.2.2.2.1
   have km2_0 := q.2.2.2.2.2.2.2.2.2.2.2.2.2.2
   clear q
   have kz2 := h2.size
   (try simp only [World.size_alloc, World.size_setCell, World.size_drew] at kz2)
   have H2 := Lib.hid h2
   clear h2
   go_wp2_with fail
   refine (leafN_any b la ln lc (at' + 1 + 1) L (2 + u) (some ⟨w2.heap.size, 0, none⟩) 4 4 wNm wDm _ (S2.out.rel ((Rel.refl _).alloc _)) (wEnv (by omega) (by simp) (fun i hi => by simp)) (by omega) (by omega)).mono ?_
   rintro e w3 ⟨op, a, bb, dd, s, at2, left2, rfl, hV, hat, hS3, h3⟩
   have S3 := Lib.hid (hS3.rel ((Rel.refl _).alloc (.cells #[.int .i64 op, .int .i64 a, .int .i64 bb, .int .i64 dd, .string s, .slice none 0 0] 29)))
   have R3 := Lib.hid (((R2.out.alloc _).trans h3).alloc (.cells #[.int .i64 op, .int .i64 a, .int .i64 bb, .int .i64 dd, .string s, .slice none 0 0] 29))
   have J := Lib.hid (leafV_i64 (dim := 2 + u) ⟨by omega, by omega⟩ (fun i _ => wNm_size i) hV)
   clear hS3 hV
   have q := keepr6 h3 (b := w.heap.size) (by first | (simp; done) | (simp; omega) | omega) (by first | (simp; done) | (simp; omega) | omega)
   have kc3_0_0 := q.1
   have kc3_0_1 := q.2.1
   have kc3_0_2 := q.2.2.1
   have kc3_0_3 := q.2.2.2.1
   have kc3_0_4 := q.2.2.2.2.1
   have kc3_0_5 := q.2.2.2.2.2.1
   have kf3_0_0 := q.2.2.2.2.2.2.1
   have kf3_0_1 := q.2.2.2.2.2.2.2.1
   have kf3_0_2 := q.2.2.2.2.2.2.2.2.1
   have kf3_0_3 := q.2.2.2.2.2.2.2.2.2.1
   have kf3_0_4 := q.2.2.2.2.2.2.2.2.2.2.1
   have kf3_0_5 := q.2.2.2.2.2.2.2.2.2.2.2.1
   have kl3_0 := q.2.2.2.2.2.2.2.2.2.2.2.2.1
   have kn3_0 := q.2.2.2.2.2.2.2.2.2.2.2.2.2.1
   have km3_0 := q.2.2.2.2.2.2.2.2.2.2.2.2.2.2
   clear q
   have kz3 := h3.size
   (try simp only [World.size_alloc, World.size_setCell, World.size_drew] at kz3)
   have H3 := Lib.hid h3
   clear h3
   have hb3 := S3.out.lt
   go_wp2_with fail
   refine (next_any b la ln lc at2 left2 40 _ S3.out (by omega) (by decide) (by decide)).mono ?_
   rintro e w4 ⟨x, rfl, x0, x1, hS4, h4⟩
   have S4 := Lib.hid hS4
   have R4 := Lib.hid (R3.out.trans h4)
   clear hS4
   have q := keepr6 h4 (b := w.heap.size) (by first | (simp; done) | (simp; omega) | omega) (by first | (simp; done) | (simp; omega) | omega)
   have kc4_0_0 := q.1
   have kc4_0_1 := q.2.1
   have kc4_0_2 := q.2.2.1
   have kc4_0_3 := q.2.2.2.1
   have kc4_0_4 := q.2.2.2.2.1
   have kc4_0_5 := q.2.2.2.2.2.1
   have kf4_0_0 := q.2.2.2.2.2.2.1
   have kf4_0_1 := q.2.2.2.2.2.2.2.1
   have kf4_0_2 := q.2.2.2.2.2.2.2.2.1
   have kf4_0_3 := q.2.2.2.2.2.2.2.2.2.1
   have kf4_0_4 := q.2.2.2.2.2.2.2.2.2.2.1
   have kf4_0_5 := q.2.2.2.2.2.2.2.2.2.2.2.1
   have kl4_0 := q.2.2.2.2.2.2.2.2.2.2.2.2.1
   have kn4_0 := q.2.2.2.2.2.2.2.2.2.2.2.2.2.1
   have km4_0 := q.2.2.2.2.2.2.2.2.2.2.2.2.2.2
   clear q
   have q := keepr6 h4 (b := w3.heap.size) (by first | (simp; done) | (simp; omega) | omega) (by first | (simp; done) | (simp; omega) | omega)
   have kc4_1_0 := q.1
   have kc4_1_1 := q.2.1
   have kc4_1_2 := q.2.2.1
   have kc4_1_3 := q.2.2.2.1
   have kc4_1_4 := q.2.2.2.2.1
   have kc4_1_5 := q.2.2.2.2.2.1
   have kf4_1_0 := q.2.2.2.2.2.2.1
   have kf4_1_1 := q.2.2.2.2.2.2.2.1
   have kf4_1_2 := q.2.2.2.2.2.2.2.2.1
   have kf4_1_3 := q.2.2.2.2.2.2.2.2.2.1
   have kf4_1_4 := q.2.2.2.2.2.2.2.2.2.2.1
   have kf4_1_5 := q.2.2.2.2.2.2.2.2.2.2.2.1
   have kl4_1 := q.2.2.2.2.2.2.2.2.2.2.2.2.1
   have kn4_1 := q.2.2.2.2.2.2.2.2.2.2.2.2.2.1
   have km4_1 := q.2.2.2.2.2.2.2.2.2.2.2.2.2.2
   clear q
   have kz4 := h4.size
   (try simp only [World.size_alloc, World.size_setCell, World.size_drew] at kz4)
   have H4 := Lib.hid h4
   clear h4
   rcases (show x = 0 ∨ x = 1 ∨ x = 2 ∨ x = 3 ∨ 4 ≤ x by omega) with rfl | rfl | rfl | rfl | hx
   ·go_wp2_with fail
    refine (next_any b la ln lc (at2 + 1) left2 24 _ S4.out (by omega) (by decide) (by decide)).mono ?_
    rintro e w5 ⟨y, rfl, y0, y1, hS5, h5⟩
    have R5 := Lib.hid (R4.out.trans h5)
    have R6 := Lib.hid (R5.out.setNew (p := ⟨w3.heap.size, 0, none⟩) (by simp; omega) (.int .i64 y))
    have S6 := Lib.hid (hS5.other (g := w3.heap.size) (i := 0) (v := .int .i64 y) (by omega) (HS.out.nums.ro R6.out))
    clear hS5
    have q := keepr6 h5 (b := w.heap.size) (by first | (simp; done) | (simp; omega) | omega) (by first | (simp; done) | (simp; omega) | omega)
    have kc5_0_0 := q.1
    have kc5_0_1 := q.2.1
    have kc5_0_2 := q.2.2.1
    have kc5_0_3 := q.2.2.2.1
    have kc5_0_4 := q.2.2.2.2.1
    have kc5_0_5 := q.2.2.2.2.2.1
    have kf5_0_0 := q.2.2.2.2.2.2.1
    have kf5_0_1 := q.2.2.2.2.2.2.2.1
    have kf5_0_2 := q.2.2.2.2.2.2.2.2.1
    have kf5_0_3 := q.2.2.2.2.2.2.2.2.2.1
    have kf5_0_4 := q.2.2.2.2.2.2.2.2.2.2.1
    have kf5_0_5 := q.2.2.2.2.2.2.2.2.2.2.2.1
    have kl5_0 := q.2.2.2.2.2.2.2.2.2.2.2.2.1
    have kn5_0 := q.2.2.2.2.2.2.2.2.2.2.2.2.2.1
    have km5_0 := q.2.2.2.2.2.2.2.2.2.2.2.2.2.2
    clear q
    have q := keepr6 h5 (b := w3.heap.size) (by first | (simp; done) | (simp; omega) | omega) (by first | (simp; done) | (simp; omega) | omega)
    have kc5_1_0 := q.1
    have kc5_1_1 := q.2.1
    have kc5_1_2 := q.2.2.1
    have kc5_1_3 := q.2.2.2.1
    have kc5_1_4 := q.2.2.2.2.1
    have kc5_1_5 := q.2.2.2.2.2.1
    have kf5_1_0 := q.2.2.2.2.2.2.1
    have kf5_1_1 := q.2.2.2.2.2.2.2.1
    have kf5_1_2 := q.2.2.2.2.2.2.2.2.1
    have kf5_1_3 := q.2.2.2.2.2.2.2.2.2.1
    have kf5_1_4 := q.2.2.2.2.2.2.2.2.2.2.1
    have kf5_1_5 := q.2.2.2.2.2.2.2.2.2.2.2.1
    have kl5_1 := q.2.2.2.2.2.2.2.2.2.2.2.2.1
    have kn5_1 := q.2.2.2.2.2.2.2.2.2.2.2.2.2.1
    have km5_1 := q.2.2.2.2.2.2.2.2.2.2.2.2.2.2
    clear q
    have kz5 := h5.size
    (try simp only [World.size_alloc, World.size_setCell, World.size_drew] at kz5)
    have H5 := Lib.hid h5
    clear h5
    ((try simp only []); (repeat (first | go_values | go_skip | go_guarded | go_step | go_upon | go_in)))
    have hp := put6 S6.out HS.out.nums R6.out (Nat.le_refl w.heap.size) hbw (.int .i64 y) (.int .i64 a) (.int .i64 bb) (.int .i64 dd) (.string s) (.slice none 0 0)
    have g0 : (((((((w5.setCell ⟨w3.heap.size, 0, none⟩ (.int .i64 y)).setCell ⟨w.heap.size, 0, none⟩ (.int .i64 y)).setCell ⟨w.heap.size, 1, none⟩ (.int .i64 a)).setCell ⟨w.heap.size, 2, none⟩ (.int .i64 bb)).setCell ⟨w.heap.size, 3, none⟩ (.int .i64 dd)).setCell ⟨w.heap.size, 4, none⟩ (.string s)).setCell ⟨w.heap.size, 5, none⟩ (.slice none 0 0)).cell? ⟨w.heap.size, 0, none⟩ = some (.int .i64 y) := by go_simp
    have g1 : (((((((w5.setCell ⟨w3.heap.size, 0, none⟩ (.int .i64 y)).setCell ⟨w.heap.size, 0, none⟩ (.int .i64 y)).setCell ⟨w.heap.size, 1, none⟩ (.int .i64 a)).setCell ⟨w.heap.size, 2, none⟩ (.int .i64 bb)).setCell ⟨w.heap.size, 3, none⟩ (.int .i64 dd)).setCell ⟨w.heap.size, 4, none⟩ (.string s)).setCell ⟨w.heap.size, 5, none⟩ (.slice none 0 0)).cell? ⟨w.heap.size, 1, none⟩ = some (.int .i64 a) := by go_simp
    have g2 : (((((((w5.setCell ⟨w3.heap.size, 0, none⟩ (.int .i64 y)).setCell ⟨w.heap.size, 0, none⟩ (.int .i64 y)).setCell ⟨w.heap.size, 1, none⟩ (.int .i64 a)).setCell ⟨w.heap.size, 2, none⟩ (.int .i64 bb)).setCell ⟨w.heap.size, 3, none⟩ (.int .i64 dd)).setCell ⟨w.heap.size, 4, none⟩ (.string s)).setCell ⟨w.heap.size, 5, none⟩ (.slice none 0 0)).cell? ⟨w.heap.size, 2, none⟩ = some (.int .i64 bb) := by go_simp
    have g3 : (((((((w5.setCell ⟨w3.heap.size, 0, none⟩ (.int .i64 y)).setCell ⟨w.heap.size, 0, none⟩ (.int .i64 y)).setCell ⟨w.heap.size, 1, none⟩ (.int .i64 a)).setCell ⟨w.heap.size, 2, none⟩ (.int .i64 bb)).setCell ⟨w.heap.size, 3, none⟩ (.int .i64 dd)).setCell ⟨w.heap.size, 4, none⟩ (.string s)).setCell ⟨w.heap.size, 5, none⟩ (.slice none 0 0)).cell? ⟨w.heap.size, 3, none⟩ = some (.int .i64 dd) := by go_simp
    have g4 : (((((((w5.setCell ⟨w3.heap.size, 0, none⟩ (.int .i64 y)).setCell ⟨w.heap.size, 0, none⟩ (.int .i64 y)).setCell ⟨w.heap.size, 1, none⟩ (.int .i64 a)).setCell ⟨w.heap.size, 2, none⟩ (.int .i64 bb)).setCell ⟨w.heap.size, 3, none⟩ (.int .i64 dd)).setCell ⟨w.heap.size, 4, none⟩ (.string s)).setCell ⟨w.heap.size, 5, none⟩ (.slice none 0 0)).cell? ⟨w.heap.size, 4, none⟩ = some (.string s) := by go_simp
    have g5 : (((((((w5.setCell ⟨w3.heap.size, 0, none⟩ (.int .i64 y)).setCell ⟨w.heap.size, 0, none⟩ (.int .i64 y)).setCell ⟨w.heap.size, 1, none⟩ (.int .i64 a)).setCell ⟨w.heap.size, 2, none⟩ (.int .i64 bb)).setCell ⟨w.heap.size, 3, none⟩ (.int .i64 dd)).setCell ⟨w.heap.size, 4, none⟩ (.string s)).setCell ⟨w.heap.size, 5, none⟩ (.slice none 0 0)).cell? ⟨w.heap.size, 5, none⟩ = some (.slice none 0 0) := by go_simp
    refine bodyPost_ret (v := .agg #[.int .i64 y, .int .i64 a, .int .i64 bb, .int .i64 dd, .string s, .slice none 0 0]) ?_ rfl ⟨.mk y a bb dd s 0 (fun _ => .no), _, _, _, rfl, leaf_tree ⟨by omega, by omega, J.out.a0, J.out.a1, J.out.b0, J.out.b1, J.out.d0, J.out.d1, J.out.s1⟩, by rw [size_mk]; simp [smK]; exact hF, by omega, hp.1, hp.2⟩
    simp [results, Tryz.results49, go_sem, g0, g1, g2, g3, g4, g5]
   ·go_wp2_with fail
    refine (next_any b la ln lc (at2 + 1) left2 5 _ (S4.out.rel ((Rel.refl _).alloc _)) (by omega) (by decide) (by decide)).mono ?_
    rintro e w5 ⟨y, rfl, y0, y1, hS5, h5⟩
    obtain ⟨j, rfl⟩ := Int.eq_ofNat_of_zero_le y0
    have hj : j < 5 := by omega
    obtain ⟨t, ht, hts⟩ := tab5_ok j hj
    have ct : w5.cell? ⟨w4.heap.size, j, none⟩ = some (.string t) := h5.cell (by simp) (by have := S4.out.lt; omega) (by show (w4.alloc (.cells tab5 _)).cell? _ = _; simpa using ht)
    have R5 := Lib.hid ((R4.out.alloc _).trans h5)
    have R6 := Lib.hid (R5.out.setNew (p := ⟨w3.heap.size, 4, none⟩) (by simp; omega) (.string t))
    have S6 := Lib.hid (hS5.other (g := w3.heap.size) (i := 4) (v := .string t) (by omega) (HS.out.nums.ro R6.out))
    clear hS5 ht
    have q := keepr6 h5 (b := w.heap.size) (by first | (simp; done) | (simp; omega) | omega) (by first | (simp; done) | (simp; omega) | omega)
    have kc5_0_0 := q.1
    have kc5_0_1 := q.2.1
    have kc5_0_2 := q.2.2.1
    have kc5_0_3 := q.2.2.2.1
    have kc5_0_4 := q.2.2.2.2.1
    have kc5_0_5 := q.2.2.2.2.2.1
    have kf5_0_0 := q.2.2.2.2.2.2.1
    have kf5_0_1 := q.2.2.2.2.2.2.2.1
    have kf5_0_2 := q.2.2.2.2.2.2.2.2.1
    have kf5_0_3 := q.2.2.2.2.2.2.2.2.2.1
    have kf5_0_4 := q.2.2.2.2.2.2.2.2.2.2.1
    have kf5_0_5 := q.2.2.2.2.2.2.2.2.2.2.2.1
    have kl5_0 := q.2.2.2.2.2.2.2.2.2.2.2.2.1
    have kn5_0 := q.2.2.2.2.2.2.2.2.2.2.2.2.2.1
    have km5_0 := q.2.2.2.2.2.2.2.2.2.2.2.2.2.2
    clear q
    have q := keepr6 h5 (b := w3.heap.size) (by first | (simp; done) | (simp; omega) | omega) (by first | (simp; done) | (simp; omega) | omega)
    have kc5_1_0 := q.1
    have kc5_1_1 := q.2.1
    have kc5_1_2 := q.2.2.1
    have kc5_1_3 := q.2.2.2.1
    have kc5_1_4 := q.2.2.2.2.1
    have kc5_1_5 := q.2.2.2.2.2.1
    have kf5_1_0 := q.2.2.2.2.2.2.1
    have kf5_1_1 := q.2.2.2.2.2.2.2.1
    have kf5_1_2 := q.2.2.2.2.2.2.2.2.1
    have kf5_1_3 := q.2.2.2.2.2.2.2.2.2.1
    have kf5_1_4 := q.2.2.2.2.2.2.2.2.2.2.1
    have kf5_1_5 := q.2.2.2.2.2.2.2.2.2.2.2.1
    have kl5_1 := q.2.2.2.2.2.2.2.2.2.2.2.2.1
    have kn5_1 := q.2.2.2.2.2.2.2.2.2.2.2.2.2.1
    have km5_1 := q.2.2.2.2.2.2.2.2.2.2.2.2.2.2
    clear q
    have kz5 := h5.size
    (try simp only [World.size_alloc, World.size_setCell, World.size_drew] at kz5)
    have H5 := Lib.hid h5
    clear h5
    ((try simp only []); (repeat (first | go_values | go_skip | go_guarded | go_step | go_upon | go_in)))
    have hp := put6 S6.out HS.out.nums R6.out (Nat.le_refl w.heap.size) hbw (.int .i64 op) (.int .i64 a) (.int .i64 bb) (.int .i64 dd) (.string t) (.slice none 0 0)
    have g0 : (((((((w5.setCell ⟨w3.heap.size, 4, none⟩ (.string t)).setCell ⟨w.heap.size, 0, none⟩ (.int .i64 op)).setCell ⟨w.heap.size, 1, none⟩ (.int .i64 a)).setCell ⟨w.heap.size, 2, none⟩ (.int .i64 bb)).setCell ⟨w.heap.size, 3, none⟩ (.int .i64 dd)).setCell ⟨w.heap.size, 4, none⟩ (.string t)).setCell ⟨w.heap.size, 5, none⟩ (.slice none 0 0)).cell? ⟨w.heap.size, 0, none⟩ = some (.int .i64 op) := by go_simp
    have g1 : (((((((w5.setCell ⟨w3.heap.size, 4, none⟩ (.string t)).setCell ⟨w.heap.size, 0, none⟩ (.int .i64 op)).setCell ⟨w.heap.size, 1, none⟩ (.int .i64 a)).setCell ⟨w.heap.size, 2, none⟩ (.int .i64 bb)).setCell ⟨w.heap.size, 3, none⟩ (.int .i64 dd)).setCell ⟨w.heap.size, 4, none⟩ (.string t)).setCell ⟨w.heap.size, 5, none⟩ (.slice none 0 0)).cell? ⟨w.heap.size, 1, none⟩ = some (.int .i64 a) := by go_simp
    have g2 : (((((((w5.setCell ⟨w3.heap.size, 4, none⟩ (.string t)).setCell ⟨w.heap.size, 0, none⟩ (.int .i64 op)).setCell ⟨w.heap.size, 1, none⟩ (.int .i64 a)).setCell ⟨w.heap.size, 2, none⟩ (.int .i64 bb)).setCell ⟨w.heap.size, 3, none⟩ (.int .i64 dd)).setCell ⟨w.heap.size, 4, none⟩ (.string t)).setCell ⟨w.heap.size, 5, none⟩ (.slice none 0 0)).cell? ⟨w.heap.size, 2, none⟩ = some (.int .i64 bb) := by go_simp
    have g3 : (((((((w5.setCell ⟨w3.heap.size, 4, none⟩ (.string t)).setCell ⟨w.heap.size, 0, none⟩ (.int .i64 op)).setCell ⟨w.heap.size, 1, none⟩ (.int .i64 a)).setCell ⟨w.heap.size, 2, none⟩ (.int .i64 bb)).setCell ⟨w.heap.size, 3, none⟩ (.int .i64 dd)).setCell ⟨w.heap.size, 4, none⟩ (.string t)).setCell ⟨w.heap.size, 5, none⟩ (.slice none 0 0)).cell? ⟨w.heap.size, 3, none⟩ = some (.int .i64 dd) := by go_simp
    have g4 : (((((((w5.setCell ⟨w3.heap.size, 4, none⟩ (.string t)).setCell ⟨w.heap.size, 0, none⟩ (.int .i64 op)).setCell ⟨w.heap.size, 1, none⟩ (.int .i64 a)).setCell ⟨w.heap.size, 2, none⟩ (.int .i64 bb)).setCell ⟨w.heap.size, 3, none⟩ (.int .i64 dd)).setCell ⟨w.heap.size, 4, none⟩ (.string t)).setCell ⟨w.heap.size, 5, none⟩ (.slice none 0 0)).cell? ⟨w.heap.size, 4, none⟩ = some (.string t) := by go_simp
    have g5 : (((((((w5.setCell ⟨w3.heap.size, 4, none⟩ (.string t)).setCell ⟨w.heap.size, 0, none⟩ (.int .i64 op)).setCell ⟨w.heap.size, 1, none⟩ (.int .i64 a)).setCell ⟨w.heap.size, 2, none⟩ (.int .i64 bb)).setCell ⟨w.heap.size, 3, none⟩ (.int .i64 dd)).setCell ⟨w.heap.size, 4, none⟩ (.string t)).setCell ⟨w.heap.size, 5, none⟩ (.slice none 0 0)).cell? ⟨w.heap.size, 5, none⟩ = some (.slice none 0 0) := by go_simp
    refine bodyPost_ret (v := .agg #[.int .i64 op, .int .i64 a, .int .i64 bb, .int .i64 dd, .string t, .slice none 0 0]) ?_ rfl ⟨.mk op a bb dd t 0 (fun _ => .no), _, _, _, rfl, leaf_tree ⟨J.out.o0, J.out.o1, J.out.a0, J.out.a1, J.out.b0, J.out.b1, J.out.d0, J.out.d1, by omega⟩, by rw [size_mk]; simp [smK]; exact hF, by omega, hp.1, hp.2⟩
    simp [results, Tryz.results49, go_sem, g0, g1, g2, g3, g4, g5]
   ·go_wp2_with fail
    refine (next_any b la ln lc (at2 + 1) left2 6 _ S4.out (by omega) (by decide) (by decide)).mono ?_
    rintro e w5 ⟨y, rfl, y0, y1, hS5, h5⟩
    have R5 := Lib.hid (R4.out.trans h5)
    have R6 := Lib.hid (R5.out.setNew (p := ⟨w3.heap.size, 3, none⟩) (by simp; omega) (.int .i64 y))
    have S6 := Lib.hid (hS5.other (g := w3.heap.size) (i := 3) (v := .int .i64 y) (by omega) (HS.out.nums.ro R6.out))
    clear hS5
    have q := keepr6 h5 (b := w.heap.size) (by first | (simp; done) | (simp; omega) | omega) (by first | (simp; done) | (simp; omega) | omega)
    have kc5_0_0 := q.1
    have kc5_0_1 := q.2.1
    have kc5_0_2 := q.2.2.1
    have kc5_0_3 := q.2.2.2.1
    have kc5_0_4 := q.2.2.2.2.1
    have kc5_0_5 := q.2.2.2.2.2.1
    have kf5_0_0 := q.2.2.2.2.2.2.1
    have kf5_0_1 := q.2.2.2.2.2.2.2.1
    have kf5_0_2 := q.2.2.2.2.2.2.2.2.1
    have kf5_0_3 := q.2.2.2.2.2.2.2.2.2.1
    have kf5_0_4 := q.2.2.2.2.2.2.2.2.2.2.1
    have kf5_0_5 := q.2.2.2.2.2.2.2.2.2.2.2.1
    have kl5_0 := q.2.2.2.2.2.2.2.2.2.2.2.2.1
    have kn5_0 := q.2.2.2.2.2.2.2.2.2.2.2.2.2.1
    have km5_0 := q.2.2.2.2.2.2.2.2.2.2.2.2.2.2
    clear q
    have q := keepr6 h5 (b := w3.heap.size) (by first | (simp; done) | (simp; omega) | omega) (by first | (simp; done) | (simp; omega) | omega)
    have kc5_1_0 := q.1
    have kc5_1_1 := q.2.1
    have kc5_1_2 := q.2.2.1
    have kc5_1_3 := q.2.2.2.1
    have kc5_1_4 := q.2.2.2.2.1
    have kc5_1_5 := q.2.2.2.2.2.1
    have kf5_1_0 := q.2.2.2.2.2.2.1
    have kf5_1_1 := q.2.2.2.2.2.2.2.1
    have kf5_1_2 := q.2.2.2.2.2.2.2.2.1
    have kf5_1_3 := q.2.2.2.2.2.2.2.2.2.1
    have kf5_1_4 := q.2.2.2.2.2.2.2.2.2.2.1
    have kf5_1_5 := q.2.2.2.2.2.2.2.2.2.2.2.1
    have kl5_1 := q.2.2.2.2.2.2.2.2.2.2.2.2.1
    have kn5_1 := q.2.2.2.2.2.2.2.2.2.2.2.2.2.1
    have km5_1 := q.2.2.2.2.2.2.2.2.2.2.2.2.2.2
    clear q
    have kz5 := h5.size
    (try simp only [World.size_alloc, World.size_setCell, World.size_drew] at kz5)
    have H5 := Lib.hid h5
    clear h5
    ((try simp only []); (repeat (first | go_values | go_skip | go_guarded | go_step | go_upon | go_in)))
    have hp := put6 S6.out HS.out.nums R6.out (Nat.le_refl w.heap.size) hbw (.int .i64 op) (.int .i64 a) (.int .i64 bb) (.int .i64 y) (.string s) (.slice none 0 0)
    have g0 : (((((((w5.setCell ⟨w3.heap.size, 3, none⟩ (.int .i64 y)).setCell ⟨w.heap.size, 0, none⟩ (.int .i64 op)).setCell ⟨w.heap.size, 1, none⟩ (.int .i64 a)).setCell ⟨w.heap.size, 2, none⟩ (.int .i64 bb)).setCell ⟨w.heap.size, 3, none⟩ (.int .i64 y)).setCell ⟨w.heap.size, 4, none⟩ (.string s)).setCell ⟨w.heap.size, 5, none⟩ (.slice none 0 0)).cell? ⟨w.heap.size, 0, none⟩ = some (.int .i64 op) := by go_simp
    have g1 : (((((((w5.setCell ⟨w3.heap.size, 3, none⟩ (.int .i64 y)).setCell ⟨w.heap.size, 0, none⟩ (.int .i64 op)).setCell ⟨w.heap.size, 1, none⟩ (.int .i64 a)).setCell ⟨w.heap.size, 2, none⟩ (.int .i64 bb)).setCell ⟨w.heap.size, 3, none⟩ (.int .i64 y)).setCell ⟨w.heap.size, 4, none⟩ (.string s)).setCell ⟨w.heap.size, 5, none⟩ (.slice none 0 0)).cell? ⟨w.heap.size, 1, none⟩ = some (.int .i64 a) := by go_simp
    have g2 : (((((((w5.setCell ⟨w3.heap.size, 3, none⟩ (.int .i64 y)).setCell ⟨w.heap.size, 0, none⟩ (.int .i64 op)).setCell ⟨w.heap.size, 1, none⟩ (.int .i64 a)).setCell ⟨w.heap.size, 2, none⟩ (.int .i64 bb)).setCell ⟨w.heap.size, 3, none⟩ (.int .i64 y)).setCell ⟨w.heap.size, 4, none⟩ (.string s)).setCell ⟨w.heap.size, 5, none⟩ (.slice none 0 0)).cell? ⟨w.heap.size, 2, none⟩ = some (.int .i64 bb) := by go_simp
    have g3 : (((((((w5.setCell ⟨w3.heap.size, 3, none⟩ (.int .i64 y)).setCell ⟨w.heap.size, 0, none⟩ (.int .i64 op)).setCell ⟨w.heap.size, 1, none⟩ (.int .i64 a)).setCell ⟨w.heap.size, 2, none⟩ (.int .i64 bb)).setCell ⟨w.heap.size, 3, none⟩ (.int .i64 y)).setCell ⟨w.heap.size, 4, none⟩ (.string s)).setCell ⟨w.heap.size, 5, none⟩ (.slice none 0 0)).cell? ⟨w.heap.size, 3, none⟩ = some (.int .i64 y) := by go_simp
    have g4 : (((((((w5.setCell ⟨w3.heap.size, 3, none⟩ (.int .i64 y)).setCell ⟨w.heap.size, 0, none⟩ (.int .i64 op)).setCell ⟨w.heap.size, 1, none⟩ (.int .i64 a)).setCell ⟨w.heap.size, 2, none⟩ (.int .i64 bb)).setCell ⟨w.heap.size, 3, none⟩ (.int .i64 y)).setCell ⟨w.heap.size, 4, none⟩ (.string s)).setCell ⟨w.heap.size, 5, none⟩ (.slice none 0 0)).cell? ⟨w.heap.size, 4, none⟩ = some (.string s) := by go_simp
    have g5 : (((((((w5.setCell ⟨w3.heap.size, 3, none⟩ (.int .i64 y)).setCell ⟨w.heap.size, 0, none⟩ (.int .i64 op)).setCell ⟨w.heap.size, 1, none⟩ (.int .i64 a)).setCell ⟨w.heap.size, 2, none⟩ (.int .i64 bb)).setCell ⟨w.heap.size, 3, none⟩ (.int .i64 y)).setCell ⟨w.heap.size, 4, none⟩ (.string s)).setCell ⟨w.heap.size, 5, none⟩ (.slice none 0 0)).cell? ⟨w.heap.size, 5, none⟩ = some (.slice none 0 0) := by go_simp
    refine bodyPost_ret (v := .agg #[.int .i64 op, .int .i64 a, .int .i64 bb, .int .i64 y, .string s, .slice none 0 0]) ?_ rfl ⟨.mk op a bb y s 0 (fun _ => .no), _, _, _, rfl, leaf_tree ⟨J.out.o0, J.out.o1, J.out.a0, J.out.a1, J.out.b0, J.out.b1, by omega, by omega, J.out.s1⟩, by rw [size_mk]; simp [smK]; exact hF, by omega, hp.1, hp.2⟩
    simp [results, Tryz.results49, go_sem, g0, g1, g2, g3, g4, g5]
   ·go_wp2_with fail
    refine (next_any b la ln lc (at2 + 1) left2 50 _ S4.out (by omega) (by decide) (by decide)).mono ?_
    rintro e w5 ⟨y, rfl, y0, y1, hS5, h5⟩
    have S5 := Lib.hid hS5
    have R5 := Lib.hid (R4.out.trans h5)
    have y3 : IntKind.i64.wrap (y - 20) = y - 20 := IntWalk.i64_in _ ⟨by omega, by omega⟩
    clear hS5
    have q := keepr6 h5 (b := w.heap.size) (by first | (simp; done) | (simp; omega) | omega) (by first | (simp; done) | (simp; omega) | omega)
    have kc5_0_0 := q.1
    have kc5_0_1 := q.2.1
    have kc5_0_2 := q.2.2.1
    have kc5_0_3 := q.2.2.2.1
    have kc5_0_4 := q.2.2.2.2.1
    have kc5_0_5 := q.2.2.2.2.2.1
    have kf5_0_0 := q.2.2.2.2.2.2.1
    have kf5_0_1 := q.2.2.2.2.2.2.2.1
    have kf5_0_2 := q.2.2.2.2.2.2.2.2.1
    have kf5_0_3 := q.2.2.2.2.2.2.2.2.2.1
    have kf5_0_4 := q.2.2.2.2.2.2.2.2.2.2.1
    have kf5_0_5 := q.2.2.2.2.2.2.2.2.2.2.2.1
    have kl5_0 := q.2.2.2.2.2.2.2.2.2.2.2.2.1
    have kn5_0 := q.2.2.2.2.2.2.2.2.2.2.2.2.2.1
    have km5_0 := q.2.2.2.2.2.2.2.2.2.2.2.2.2.2
    clear q
    have q := keepr6 h5 (b := w3.heap.size) (by first | (simp; done) | (simp; omega) | omega) (by first | (simp; done) | (simp; omega) | omega)
    have kc5_1_0 := q.1
    have kc5_1_1 := q.2.1
    have kc5_1_2 := q.2.2.1
    have kc5_1_3 := q.2.2.2.1
    have kc5_1_4 := q.2.2.2.2.1
    have kc5_1_5 := q.2.2.2.2.2.1
    have kf5_1_0 := q.2.2.2.2.2.2.1
    have kf5_1_1 := q.2.2.2.2.2.2.2.1
    have kf5_1_2 := q.2.2.2.2.2.2.2.2.1
    have kf5_1_3 := q.2.2.2.2.2.2.2.2.2.1
    have kf5_1_4 := q.2.2.2.2.2.2.2.2.2.2.1
    have kf5_1_5 := q.2.2.2.2.2.2.2.2.2.2.2.1
    have kl5_1 := q.2.2.2.2.2.2.2.2.2.2.2.2.1
    have kn5_1 := q.2.2.2.2.2.2.2.2.2.2.2.2.2.1
    have km5_1 := q.2.2.2.2.2.2.2.2.2.2.2.2.2.2
    clear q
    have kz5 := h5.size
    (try simp only [World.size_alloc, World.size_setCell, World.size_drew] at kz5)
    have H5 := Lib.hid h5
    clear h5
    go_wp2_with fail
    refine (next_any b la ln lc (at2 + 1 + 1) left2 30 _ S5.out (by omega) (by decide) (by decide)).mono ?_
    rintro e w6 ⟨z, rfl, z0, zz1, hS6, h6⟩
    have R6 := Lib.hid (R5.out.trans h6)
    have R7 := Lib.hid ((R6.out.setNew (p := ⟨w3.heap.size, 1, none⟩) (by simp; omega) (.int .i64 (y - 20))).setNew (p := ⟨w3.heap.size, 2, none⟩) (by simp; omega) (.int .i64 z))
    have S7 := Lib.hid ((hS6.other (g := w3.heap.size) (i := 1) (v := .int .i64 (y - 20)) (by omega) (HS.out.nums.ro (R6.out.setNew (p := ⟨w3.heap.size, 1, none⟩) (by simp; omega) (.int .i64 (y - 20))))).other (g := w3.heap.size) (i := 2) (v := .int .i64 z) (by omega) (HS.out.nums.ro R7.out))
    clear hS6
    have q := keepr6 h6 (b := w.heap.size) (by first | (simp; done) | (simp; omega) | omega) (by first | (simp; done) | (simp; omega) | omega)
    have kc6_0_0 := q.1
    have kc6_0_1 := q.2.1
    have kc6_0_2 := q.2.2.1
    have kc6_0_3 := q.2.2.2.1
    have kc6_0_4 := q.2.2.2.2.1
    have kc6_0_5 := q.2.2.2.2.2.1
    have kf6_0_0 := q.2.2.2.2.2.2.1
    have kf6_0_1 := q.2.2.2.2.2.2.2.1
    have kf6_0_2 := q.2.2.2.2.2.2.2.2.1
    have kf6_0_3 := q.2.2.2.2.2.2.2.2.2.1
    have kf6_0_4 := q.2.2.2.2.2.2.2.2.2.2.1
    have kf6_0_5 := q.2.2.2.2.2.2.2.2.2.2.2.1
    have kl6_0 := q.2.2.2.2.2.2.2.2.2.2.2.2.1
    have kn6_0 := q.2.2.2.2.2.2.2.2.2.2.2.2.2.1
    have km6_0 := q.2.2.2.2.2.2.2.2.2.2.2.2.2.2
    clear q
    have q := keepr6 h6 (b := w3.heap.size) (by first | (simp; done) | (simp; omega) | omega) (by first | (simp; done) | (simp; omega) | omega)
    have kc6_1_0 := q.1
    have kc6_1_1 := q.2.1
    have kc6_1_2 := q.2.2.1
    have kc6_1_3 := q.2.2.2.1
    have kc6_1_4 := q.2.2.2.2.1
    have kc6_1_5 := q.2.2.2.2.2.1
    have kf6_1_0 := q.2.2.2.2.2.2.1
    have kf6_1_1 := q.2.2.2.2.2.2.2.1
    have kf6_1_2 := q.2.2.2.2.2.2.2.2.1
    have kf6_1_3 := q.2.2.2.2.2.2.2.2.2.1
    have kf6_1_4 := q.2.2.2.2.2.2.2.2.2.2.1
    have kf6_1_5 := q.2.2.2.2.2.2.2.2.2.2.2.1
    have kl6_1 := q.2.2.2.2.2.2.2.2.2.2.2.2.1
    have kn6_1 := q.2.2.2.2.2.2.2.2.2.2.2.2.2.1
    have km6_1 := q.2.2.2.2.2.2.2.2.2.2.2.2.2.2
    clear q
    have kz6 := h6.size
    (try simp only [World.size_alloc, World.size_setCell, World.size_drew] at kz6)
    have H6 := Lib.hid h6
    clear h6
    ((try simp only []); (repeat (first | go_values | go_skip | go_guarded | go_step | go_upon | go_in)))
    have hp := put6 S7.out HS.out.nums R7.out (Nat.le_refl w.heap.size) hbw (.int .i64 op) (.int .i64 (y - 20)) (.int .i64 z) (.int .i64 dd) (.string s) (.slice none 0 0)
    have g0 : ((((((((w6.setCell ⟨w3.heap.size, 1, none⟩ (.int .i64 (y - 20))).setCell ⟨w3.heap.size, 2, none⟩ (.int .i64 z)).setCell ⟨w.heap.size, 0, none⟩ (.int .i64 op)).setCell ⟨w.heap.size, 1, none⟩ (.int .i64 (y - 20))).setCell ⟨w.heap.size, 2, none⟩ (.int .i64 z)).setCell ⟨w.heap.size, 3, none⟩ (.int .i64 dd)).setCell ⟨w.heap.size, 4, none⟩ (.string s)).setCell ⟨w.heap.size, 5, none⟩ (.slice none 0 0)).cell? ⟨w.heap.size, 0, none⟩ = some (.int .i64 op) := by go_simp
    have g1 : ((((((((w6.setCell ⟨w3.heap.size, 1, none⟩ (.int .i64 (y - 20))).setCell ⟨w3.heap.size, 2, none⟩ (.int .i64 z)).setCell ⟨w.heap.size, 0, none⟩ (.int .i64 op)).setCell ⟨w.heap.size, 1, none⟩ (.int .i64 (y - 20))).setCell ⟨w.heap.size, 2, none⟩ (.int .i64 z)).setCell ⟨w.heap.size, 3, none⟩ (.int .i64 dd)).setCell ⟨w.heap.size, 4, none⟩ (.string s)).setCell ⟨w.heap.size, 5, none⟩ (.slice none 0 0)).cell? ⟨w.heap.size, 1, none⟩ = some (.int .i64 (y - 20)) := by go_simp
    have g2 : ((((((((w6.setCell ⟨w3.heap.size, 1, none⟩ (.int .i64 (y - 20))).setCell ⟨w3.heap.size, 2, none⟩ (.int .i64 z)).setCell ⟨w.heap.size, 0, none⟩ (.int .i64 op)).setCell ⟨w.heap.size, 1, none⟩ (.int .i64 (y - 20))).setCell ⟨w.heap.size, 2, none⟩ (.int .i64 z)).setCell ⟨w.heap.size, 3, none⟩ (.int .i64 dd)).setCell ⟨w.heap.size, 4, none⟩ (.string s)).setCell ⟨w.heap.size, 5, none⟩ (.slice none 0 0)).cell? ⟨w.heap.size, 2, none⟩ = some (.int .i64 z) := by go_simp
    have g3 : ((((((((w6.setCell ⟨w3.heap.size, 1, none⟩ (.int .i64 (y - 20))).setCell ⟨w3.heap.size, 2, none⟩ (.int .i64 z)).setCell ⟨w.heap.size, 0, none⟩ (.int .i64 op)).setCell ⟨w.heap.size, 1, none⟩ (.int .i64 (y - 20))).setCell ⟨w.heap.size, 2, none⟩ (.int .i64 z)).setCell ⟨w.heap.size, 3, none⟩ (.int .i64 dd)).setCell ⟨w.heap.size, 4, none⟩ (.string s)).setCell ⟨w.heap.size, 5, none⟩ (.slice none 0 0)).cell? ⟨w.heap.size, 3, none⟩ = some (.int .i64 dd) := by go_simp
    have g4 : ((((((((w6.setCell ⟨w3.heap.size, 1, none⟩ (.int .i64 (y - 20))).setCell ⟨w3.heap.size, 2, none⟩ (.int .i64 z)).setCell ⟨w.heap.size, 0, none⟩ (.int .i64 op)).setCell ⟨w.heap.size, 1, none⟩ (.int .i64 (y - 20))).setCell ⟨w.heap.size, 2, none⟩ (.int .i64 z)).setCell ⟨w.heap.size, 3, none⟩ (.int .i64 dd)).setCell ⟨w.heap.size, 4, none⟩ (.string s)).setCell ⟨w.heap.size, 5, none⟩ (.slice none 0 0)).cell? ⟨w.heap.size, 4, none⟩ = some (.string s) := by go_simp
    have g5 : ((((((((w6.setCell ⟨w3.heap.size, 1, none⟩ (.int .i64 (y - 20))).setCell ⟨w3.heap.size, 2, none⟩ (.int .i64 z)).setCell ⟨w.heap.size, 0, none⟩ (.int .i64 op)).setCell ⟨w.heap.size, 1, none⟩ (.int .i64 (y - 20))).setCell ⟨w.heap.size, 2, none⟩ (.int .i64 z)).setCell ⟨w.heap.size, 3, none⟩ (.int .i64 dd)).setCell ⟨w.heap.size, 4, none⟩ (.string s)).setCell ⟨w.heap.size, 5, none⟩ (.slice none 0 0)).cell? ⟨w.heap.size, 5, none⟩ = some (.slice none 0 0) := by go_simp
    refine bodyPost_ret (v := .agg #[.int .i64 op, .int .i64 (y - 20), .int .i64 z, .int .i64 dd, .string s, .slice none 0 0]) ?_ rfl ⟨.mk op (y - 20) z dd s 0 (fun _ => .no), _, _, _, rfl, leaf_tree ⟨J.out.o0, J.out.o1, by omega, by omega, by omega, by omega, J.out.d0, J.out.d1, J.out.s1⟩, by rw [size_mk]; simp [smK]; exact hF, by omega, hp.1, hp.2⟩
    simp [results, Tryz.results49, go_sem, g0, g1, g2, g3, g4, g5]
   ·have k0 : (x == 0) = false := by rw [beq_eq_false_iff_ne]; omega
    have k1 : (x == 1) = false := by rw [beq_eq_false_iff_ne]; omega
    have k2 : (x == 2) = false := by rw [beq_eq_false_iff_ne]; omega
    have k3 : (x == 3) = false := by rw [beq_eq_false_iff_ne]; omega
    ((try simp only []); (repeat (first | go_values | go_skip | go_guarded | go_step | go_upon | go_in)))
    have hp := put6 S4.out HS.out.nums R4.out (Nat.le_refl w.heap.size) hbw (.int .i64 op) (.int .i64 a) (.int .i64 bb) (.int .i64 dd) (.string s) (.slice none 0 0)
    have g0 : ((((((w4.setCell ⟨w.heap.size, 0, none⟩ (.int .i64 op)).setCell ⟨w.heap.size, 1, none⟩ (.int .i64 a)).setCell ⟨w.heap.size, 2, none⟩ (.int .i64 bb)).setCell ⟨w.heap.size, 3, none⟩ (.int .i64 dd)).setCell ⟨w.heap.size, 4, none⟩ (.string s)).setCell ⟨w.heap.size, 5, none⟩ (.slice none 0 0)).cell? ⟨w.heap.size, 0, none⟩ = some (.int .i64 op) := by go_simp
    have g1 : ((((((w4.setCell ⟨w.heap.size, 0, none⟩ (.int .i64 op)).setCell ⟨w.heap.size, 1, none⟩ (.int .i64 a)).setCell ⟨w.heap.size, 2, none⟩ (.int .i64 bb)).setCell ⟨w.heap.size, 3, none⟩ (.int .i64 dd)).setCell ⟨w.heap.size, 4, none⟩ (.string s)).setCell ⟨w.heap.size, 5, none⟩ (.slice none 0 0)).cell? ⟨w.heap.size, 1, none⟩ = some (.int .i64 a) := by go_simp
    have g2 : ((((((w4.setCell ⟨w.heap.size, 0, none⟩ (.int .i64 op)).setCell ⟨w.heap.size, 1, none⟩ (.int .i64 a)).setCell ⟨w.heap.size, 2, none⟩ (.int .i64 bb)).setCell ⟨w.heap.size, 3, none⟩ (.int .i64 dd)).setCell ⟨w.heap.size, 4, none⟩ (.string s)).setCell ⟨w.heap.size, 5, none⟩ (.slice none 0 0)).cell? ⟨w.heap.size, 2, none⟩ = some (.int .i64 bb) := by go_simp
    have g3 : ((((((w4.setCell ⟨w.heap.size, 0, none⟩ (.int .i64 op)).setCell ⟨w.heap.size, 1, none⟩ (.int .i64 a)).setCell ⟨w.heap.size, 2, none⟩ (.int .i64 bb)).setCell ⟨w.heap.size, 3, none⟩ (.int .i64 dd)).setCell ⟨w.heap.size, 4, none⟩ (.string s)).setCell ⟨w.heap.size, 5, none⟩ (.slice none 0 0)).cell? ⟨w.heap.size, 3, none⟩ = some (.int .i64 dd) := by go_simp
    have g4 : ((((((w4.setCell ⟨w.heap.size, 0, none⟩ (.int .i64 op)).setCell ⟨w.heap.size, 1, none⟩ (.int .i64 a)).setCell ⟨w.heap.size, 2, none⟩ (.int .i64 bb)).setCell ⟨w.heap.size, 3, none⟩ (.int .i64 dd)).setCell ⟨w.heap.size, 4, none⟩ (.string s)).setCell ⟨w.heap.size, 5, none⟩ (.slice none 0 0)).cell? ⟨w.heap.size, 4, none⟩ = some (.string s) := by go_simp
    have g5 : ((((((w4.setCell ⟨w.heap.size, 0, none⟩ (.int .i64 op)).setCell ⟨w.heap.size, 1, none⟩ (.int .i64 a)).setCell ⟨w.heap.size, 2, none⟩ (.int .i64 bb)).setCell ⟨w.heap.size, 3, none⟩ (.int .i64 dd)).setCell ⟨w.heap.size, 4, none⟩ (.string s)).setCell ⟨w.heap.size, 5, none⟩ (.slice none 0 0)).cell? ⟨w.heap.size, 5, none⟩ = some (.slice none 0 0) := by go_simp
    refine bodyPost_ret (v := .agg #[.int .i64 op, .int .i64 a, .int .i64 bb, .int .i64 dd, .string s, .slice none 0 0]) ?_ rfl ⟨.mk op a bb dd s 0 (fun _ => .no), _, _, _, rfl, leaf_tree J.out, by rw [size_mk]; simp [smK]; exact hF, by omega, hp.1, hp.2⟩
    simp [results, Tryz.results49, go_sem, g0, g1, g2, g3, g4, g5]
  ·have e1 : decide (v < 6) = true := decide_eq_true q1
   have e2 : decide (d < 9) = true := decide_eq_true q2
   have e3 : decide (0 < L) = false := decide_eq_false q3
   go_wp2_with fail
   refine (next_any b la ln lc (at' + 1) L 3 _ S1.out (by omega) (by decide) (by decide)).mono ?_
   rintro e w2 ⟨u, rfl, u0, u1, hS2, h2⟩
   have S2 := Lib.hid hS2
   have R2 := Lib.hid (R1.out.trans h2)
   have u3 : IntKind.i64.wrap (2 + u) = 2 + u := IntWalk.i64_in _ ⟨by omega, by omega⟩
   clear hS2 z1
   have q := keepr6 h2 (b := w.heap.size) (by first | (simp; done) | (simp; omega) | omega) (by first | (simp; done) | (simp; omega) | omega)
   have kc2_0_0 := q.1
   have kc2_0_1 := q.2.1
   have kc2_0_2 := q.2.2.1
   have kc2_0_3 := q.2.2.2.1
   have kc2_0_4 := q.2.2.2.2.1
   have kc2_0_5 := q.2.2.2.2.2.1
   have kf2_0_0 := q.2.2.2.2.2.2.1
   have kf2_0_1 := q.2.2.2.2.2.2.2.1
   have kf2_0_2 := q.2.2.2.2.2.2.2.2.1
   have kf2_0_3 := q.2.2.2.2.2.2.2.2.2.1
   have kf2_0_4 := q.2.2.2.2.2.2.2.2.2.2.1
   have kf2_0_5 := q.2.2.2.2.2.2.2.2.2.2.2.1
   have kl2_0 := q.2.2.2.2.2.2.2.2.2.2.2.2.1
   have kn2_0 := q.2.2.2.2.2.2.2.2.2.2.2.2.2.1
   have km2_0 := q.2.2.2.2.2.2.2.2.2.2.2.2.2.2
   clear q
   have kz2 := h2.size
   (try simp only [World.size_alloc, World.size_setCell, World.size_drew] at kz2)
   have H2 := Lib.hid h2
   clear h2
   go_wp2_with fail
   refine (leafN_any b la ln lc (at' + 1 + 1) L (2 + u) (some ⟨w2.heap.size, 0, none⟩) 4 4 wNm wDm _ (S2.out.rel ((Rel.refl _).alloc _)) (wEnv (by omega) (by simp) (fun i hi => by simp)) (by omega) (by omega)).mono ?_
   rintro e w3 ⟨op, a, bb, dd, s, at2, left2, rfl, hV, hat, hS3, h3⟩
   have S3 := Lib.hid (hS3.rel ((Rel.refl _).alloc (.cells #[.int .i64 op, .int .i64 a, .int .i64 bb, .int .i64 dd, .string s, .slice none 0 0] 29)))
   have R3 := Lib.hid (((R2.out.alloc _).trans h3).alloc (.cells #[.int .i64 op, .int .i64 a, .int .i64 bb, .int .i64 dd, .string s, .slice none 0 0] 29))
   have J := Lib.hid (leafV_i64 (dim := 2 + u) ⟨by omega, by omega⟩ (fun i _ => wNm_size i) hV)
   clear hS3 hV
   have q := keepr6 h3 (b := w.heap.size) (by first | (simp; done) | (simp; omega) | omega) (by first | (simp; done) | (simp; omega) | omega)
   have kc3_0_0 := q.1
   have kc3_0_1 := q.2.1
   have kc3_0_2 := q.2.2.1
   have kc3_0_3 := q.2.2.2.1
   have kc3_0_4 := q.2.2.2.2.1
   have kc3_0_5 := q.2.2.2.2.2.1
   have kf3_0_0 := q.2.2.2.2.2.2.1
   have kf3_0_1 := q.2.2.2.2.2.2.2.1
   have kf3_0_2 := q.2.2.2.2.2.2.2.2.1
   have kf3_0_3 := q.2.2.2.2.2.2.2.2.2.1
   have kf3_0_4 := q.2.2.2.2.2.2.2.2.2.2.1
   have kf3_0_5 := q.2.2.2.2.2.2.2.2.2.2.2.1
   have kl3_0 := q.2.2.2.2.2.2.2.2.2.2.2.2.1
   have kn3_0 := q.2.2.2.2.2.2.2.2.2.2.2.2.2.1
   have km3_0 := q.2.2.2.2.2.2.2.2.2.2.2.2.2.2
   clear q
   have kz3 := h3.size
   (try simp only [World.size_alloc, World.size_setCell, World.size_drew] at kz3)
   have H3 := Lib.hid h3
   clear h3
   have hb3 := S3.out.lt
   go_wp2_with fail
   refine (next_any b la ln lc at2 left2 40 _ S3.out (by omega) (by decide) (by decide)).mono ?_
   rintro e w4 ⟨x, rfl, x0, x1, hS4, h4⟩
   have S4 := Lib.hid hS4
   have R4 := Lib.hid (R3.out.trans h4)
   clear hS4
   have q := keepr6 h4 (b := w.heap.size) (by first | (simp; done) | (simp; omega) | omega) (by first | (simp; done) | (simp; omega) | omega)
   have kc4_0_0 := q.1
   have kc4_0_1 := q.2.1
   have kc4_0_2 := q.2.2.1
   have kc4_0_3 := q.2.2.2.1
   have kc4_0_4 := q.2.2.2.2.1
   have kc4_0_5 := q.2.2.2.2.2.1
   have kf4_0_0 := q.2.2.2.2.2.2.1
   have kf4_0_1 := q.2.2.2.2.2.2.2.1
   have kf4_0_2 := q.2.2.2.2.2.2.2.2.1
   have kf4_0_3 := q.2.2.2.2.2.2.2.2.2.1
   have kf4_0_4 := q.2.2.2.2.2.2.2.2.2.2.1
   have kf4_0_5 := q.2.2.2.2.2.2.2.2.2.2.2.1
   have kl4_0 := q.2.2.2.2.2.2.2.2.2.2.2.2.1
   have kn4_0 := q.2.2.2.2.2.2.2.2.2.2.2.2.2.1
   have km4_0 := q.2.2.2.2.2.2.2.2.2.2.2.2.2.2
   clear q
   have q := keepr6 h4 (b := w3.heap.size) (by first | (simp; done) | (simp; omega) | omega) (by first | (simp; done) | (simp; omega) | omega)
   have kc4_1_0 := q.1
   have kc4_1_1 := q.2.1
   have kc4_1_2 := q.2.2.1
   have kc4_1_3 := q.2.2.2.1
   have kc4_1_4 := q.2.2.2.2.1
   have kc4_1_5 := q.2.2.2.2.2.1
   have kf4_1_0 := q.2.2.2.2.2.2.1
   have kf4_1_1 := q.2.2.2.2.2.2.2.1
   have kf4_1_2 := q.2.2.2.2.2.2.2.2.1
   have kf4_1_3 := q.2.2.2.2.2.2.2.2.2.1
   have kf4_1_4 := q.2.2.2.2.2.2.2.2.2.2.1
   have kf4_1_5 := q.2.2.2.2.2.2.2.2.2.2.2.1
   have kl4_1 := q.2.2.2.2.2.2.2.2.2.2.2.2.1
   have kn4_1 := q.2.2.2.2.2.2.2.2.2.2.2.2.2.1
   have km4_1 := q.2.2.2.2.2.2.2.2.2.2.2.2.2.2
   clear q
   have kz4 := h4.size
   (try simp only [World.size_alloc, World.size_setCell, World.size_drew] at kz4)
   have H4 := Lib.hid h4
   clear h4
   rcases (show x = 0 ∨ x = 1 ∨ x = 2 ∨ x = 3 ∨ 4 ≤ x by omega) with rfl | rfl | rfl | rfl | hx
   ·go_wp2_with fail
    refine (next_any b la ln lc (at2 + 1) left2 24 _ S4.out (by omega) (by decide) (by decide)).mono ?_
    rintro e w5 ⟨y, rfl, y0, y1, hS5, h5⟩
    have R5 := Lib.hid (R4.out.trans h5)
    have R6 := Lib.hid (R5.out.setNew (p := ⟨w3.heap.size, 0, none⟩) (by simp; omega) (.int .i64 y))
    have S6 := Lib.hid (hS5.other (g := w3.heap.size) (i := 0) (v := .int .i64 y) (by omega) (HS.out.nums.ro R6.out))
    clear hS5
    have q := keepr6 h5 (b := w.heap.size) (by first | (simp; done) | (simp; omega) | omega) (by first | (simp; done) | (simp; omega) | omega)
    have kc5_0_0 := q.1
    have kc5_0_1 := q.2.1
    have kc5_0_2 := q.2.2.1
    have kc5_0_3 := q.2.2.2.1
    have kc5_0_4 := q.2.2.2.2.1
    have kc5_0_5 := q.2.2.2.2.2.1
    have kf5_0_0 := q.2.2.2.2.2.2.1
    have kf5_0_1 := q.2.2.2.2.2.2.2.1
    have kf5_0_2 := q.2.2.2.2.2.2.2.2.1
    have kf5_0_3 := q.2.2.2.2.2.2.2.2.2.1
    have kf5_0_4 := q.2.2.2.2.2.2.2.2.2.2.1
    have kf5_0_5 := q.2.2.2.2.2.2.2.2.2.2.2.1
    have kl5_0 := q.2.2.2.2.2.2.2.2.2.2.2.2.1
    have kn5_0 := q.2.2.2.2.2.2.2.2.2.2.2.2.2.1
    have km5_0 := q.2.2.2.2.2.2.2.2.2.2.2.2.2.2
    clear q
    have q := keepr6 h5 (b := w3.heap.size) (by first | (simp; done) | (simp; omega) | omega) (by first | (simp; done) | (simp; omega) | omega)
    have kc5_1_0 := q.1
    have kc5_1_1 := q.2.1
    have kc5_1_2 := q.2.2.1
    have kc5_1_3 := q.2.2.2.1
    have kc5_1_4 := q.2.2.2.2.1
    have kc5_1_5 := q.2.2.2.2.2.1
    have kf5_1_0 := q.2.2.2.2.2.2.1
    have kf5_1_1 := q.2.2.2.2.2.2.2.1
    have kf5_1_2 := q.2.2.2.2.2.2.2.2.1
    have kf5_1_3 := q.2.2.2.2.2.2.2.2.2.1
    have kf5_1_4 := q.2.2.2.2.2.2.2.2.2.2.1
    have kf5_1_5 := q.2.2.2.2.2.2.2.2.2.2.2.1
    have kl5_1 := q.2.2.2.2.2.2.2.2.2.2.2.2.1
    have kn5_1 := q.2.2.2.2.2.2.2.2.2.2.2.2.2.1
    have km5_1 := q.2.2.2.2.2.2.2.2.2.2.2.2.2.2
    clear q
    have kz5 := h5.size
    (try simp only [World.size_alloc, World.size_setCell, World.size_drew] at kz5)
    have H5 := Lib.hid h5
    clear h5
    ((try simp only []); (repeat (first | go_values | go_skip | go_guarded | go_step | go_upon | go_in)))
    have hp := put6 S6.out HS.out.nums R6.out (Nat.le_refl w.heap.size) hbw (.int .i64 y) (.int .i64 a) (.int .i64 bb) (.int .i64 dd) (.string s) (.slice none 0 0)
    have g0 : (((((((w5.setCell ⟨w3.heap.size, 0, none⟩ (.int .i64 y)).setCell ⟨w.heap.size, 0, none⟩ (.int .i64 y)).setCell ⟨w.heap.size, 1, none⟩ (.int .i64 a)).setCell ⟨w.heap.size, 2, none⟩ (.int .i64 bb)).setCell ⟨w.heap.size, 3, none⟩ (.int .i64 dd)).setCell ⟨w.heap.size, 4, none⟩ (.string s)).setCell ⟨w.heap.size, 5, none⟩ (.slice none 0 0)).cell? ⟨w.heap.size, 0, none⟩ = some (.int .i64 y) := by go_simp
    have g1 : (((((((w5.setCell ⟨w3.heap.size, 0, none⟩ (.int .i64 y)).setCell ⟨w.heap.size, 0, none⟩ (.int .i64 y)).setCell ⟨w.heap.size, 1, none⟩ (.int .i64 a)).setCell ⟨w.heap.size, 2, none⟩ (.int .i64 bb)).setCell ⟨w.heap.size, 3, none⟩ (.int .i64 dd)).setCell ⟨w.heap.size, 4, none⟩ (.string s)).setCell ⟨w.heap.size, 5, none⟩ (.slice none 0 0)).cell? ⟨w.heap.size, 1, none⟩ = some (.int .i64 a) := by go_simp
    have g2 : (((((((w5.setCell ⟨w3.heap.size, 0, none⟩ (.int .i64 y)).setCell ⟨w.heap.size, 0, none⟩ (.int .i64 y)).setCell ⟨w.heap.size, 1, none⟩ (.int .i64 a)).setCell ⟨w.heap.size, 2, none⟩ (.int .i64 bb)).setCell ⟨w.heap.size, 3, none⟩ (.int .i64 dd)).setCell ⟨w.heap.size, 4, none⟩ (.string s)).setCell ⟨w.heap.size, 5, none⟩ (.slice none 0 0)).cell? ⟨w.heap.size, 2, none⟩ = some (.int .i64 bb) := by go_simp
    have g3 : (((((((w5.setCell ⟨w3.heap.size, 0, none⟩ (.int .i64 y)).setCell ⟨w.heap.size, 0, none⟩ (.int .i64 y)).setCell ⟨w.heap.size, 1, none⟩ (.int .i64 a)).setCell ⟨w.heap.size, 2, none⟩ (.int .i64 bb)).setCell ⟨w.heap.size, 3, none⟩ (.int .i64 dd)).setCell ⟨w.heap.size, 4, none⟩ (.string s)).setCell ⟨w.heap.size, 5, none⟩ (.slice none 0 0)).cell? ⟨w.heap.size, 3, none⟩ = some (.int .i64 dd) := by go_simp
    have g4 : (((((((w5.setCell ⟨w3.heap.size, 0, none⟩ (.int .i64 y)).setCell ⟨w.heap.size, 0, none⟩ (.int .i64 y)).setCell ⟨w.heap.size, 1, none⟩ (.int .i64 a)).setCell ⟨w.heap.size, 2, none⟩ (.int .i64 bb)).setCell ⟨w.heap.size, 3, none⟩ (.int .i64 dd)).setCell ⟨w.heap.size, 4, none⟩ (.string s)).setCell ⟨w.heap.size, 5, none⟩ (.slice none 0 0)).cell? ⟨w.heap.size, 4, none⟩ = some (.string s) := by go_simp
    have g5 : (((((((w5.setCell ⟨w3.heap.size, 0, none⟩ (.int .i64 y)).setCell ⟨w.heap.size, 0, none⟩ (.int .i64 y)).setCell ⟨w.heap.size, 1, none⟩ (.int .i64 a)).setCell ⟨w.heap.size, 2, none⟩ (.int .i64 bb)).setCell ⟨w.heap.size, 3, none⟩ (.int .i64 dd)).setCell ⟨w.heap.size, 4, none⟩ (.string s)).setCell ⟨w.heap.size, 5, none⟩ (.slice none 0 0)).cell? ⟨w.heap.size, 5, none⟩ = some (.slice none 0 0) := by go_simp
    refine bodyPost_ret (v := .agg #[.int .i64 y, .int .i64 a, .int .i64 bb, .int .i64 dd, .string s, .slice none 0 0]) ?_ rfl ⟨.mk y a bb dd s 0 (fun _ => .no), _, _, _, rfl, leaf_tree ⟨by omega, by omega, J.out.a0, J.out.a1, J.out.b0, J.out.b1, J.out.d0, J.out.d1, J.out.s1⟩, by rw [size_mk]; simp [smK]; exact hF, by omega, hp.1, hp.2⟩
    simp [results, Tryz.results49, go_sem, g0, g1, g2, g3, g4, g5]
   ·go_wp2_with fail
    refine (next_any b la ln lc (at2 + 1) left2 5 _ (S4.out.rel ((Rel.refl _).alloc _)) (by omega) (by decide) (by decide)).mono ?_
    rintro e w5 ⟨y, rfl, y0, y1, hS5, h5⟩
    obtain ⟨j, rfl⟩ := Int.eq_ofNat_of_zero_le y0
    have hj : j < 5 := by omega
    obtain ⟨t, ht, hts⟩ := tab5_ok j hj
    have ct : w5.cell? ⟨w4.heap.size, j, none⟩ = some (.string t) := h5.cell (by simp) (by have := S4.out.lt; omega) (by show (w4.alloc (.cells tab5 _)).cell? _ = _; simpa using ht)
    have R5 := Lib.hid ((R4.out.alloc _).trans h5)
    have R6 := Lib.hid (R5.out.setNew (p := ⟨w3.heap.size, 4, none⟩) (by simp; omega) (.string t))
    have S6 := Lib.hid (hS5.other (g := w3.heap.size) (i := 4) (v := .string t) (by omega) (HS.out.nums.ro R6.out))
    clear hS5 ht
    have q := keepr6 h5 (b := w.heap.size) (by first | (simp; done) | (simp; omega) | omega) (by first | (simp; done) | (simp; omega) | omega)
    have kc5_0_0 := q.1
    have kc5_0_1 := q.2.1
    have kc5_0_2 := q.2.2.1
    have kc5_0_3 := q.2.2.2.1
    have kc5_0_4 := q.2.2.2.2.1
    have kc5_0_5 := q.2.2.2.2.2.1
    have kf5_0_0 := q.2.2.2.2.2.2.1
    have kf5_0_1 := q.2.2.2.2.2.2.2.1
    have kf5_0_2 := q.2.2.2.2.2.2.2.2.1
    have kf5_0_3 := q.2.2.2.2.2.2.2.2.2.1
    have kf5_0_4 := q.2.2.2.2.2.2.2.2.2.2.1
    have kf5_0_5 := q.2.2.2.2.2.2.2.2.2.2.2.1
    have kl5_0 := q.2.2.2.2.2.2.2.2.2.2.2.2.1
    have kn5_0 := q.2.2.2.2.2.2.2.2.2.2.2.2.2.1
    have km5_0 := q.2.2.2.2.2.2.2.2.2.2.2.2.2.2
    clear q
    have q := keepr6 h5 (b := w3.heap.size) (by first | (simp; done) | (simp; omega) | omega) (by first | (simp; done) | (simp; omega) | omega)
    have kc5_1_0 := q.1
    have kc5_1_1 := q.2.1
    have kc5_1_2 := q.2.2.1
    have kc5_1_3 := q.2.2.2.1
    have kc5_1_4 := q.2.2.2.2.1
    have kc5_1_5 := q.2.2.2.2.2.1
    have kf5_1_0 := q.2.2.2.2.2.2.1
    have kf5_1_1 := q.2.2.2.2.2.2.2.1
    have kf5_1_2 := q.2.2.2.2.2.2.2.2.1
    have kf5_1_3 := q.2.2.2.2.2.2.2.2.2.1
    have kf5_1_4 := q.2.2.2.2.2.2.2.2.2.2.1
    have kf5_1_5 := q.2.2.2.2.2.2.2.2.2.2.2.1
    have kl5_1 := q.2.2.2.2.2.2.2.2.2.2.2.2.1
    have kn5_1 := q.2.2.2.2.2.2.2.2.2.2.2.2.2.1
    have km5_1 := q.2.2.2.2.2.2.2.2.2.2.2.2.2.2
    clear q
    have kz5 := h5.size
    (try simp only [World.size_alloc, World.size_setCell, World.size_drew] at kz5)
    have H5 := Lib.hid h5
    clear h5
    ((try simp only []); (repeat (first | go_values | go_skip | go_guarded | go_step | go_upon | go_in)))
    have hp := put6 S6.out HS.out.nums R6.out (Nat.le_refl w.heap.size) hbw (.int .i64 op) (.int .i64 a) (.int .i64 bb) (.int .i64 dd) (.string t) (.slice none 0 0)
    have g0 : (((((((w5.setCell ⟨w3.heap.size, 4, none⟩ (.string t)).setCell ⟨w.heap.size, 0, none⟩ (.int .i64 op)).setCell ⟨w.heap.size, 1, none⟩ (.int .i64 a)).setCell ⟨w.heap.size, 2, none⟩ (.int .i64 bb)).setCell ⟨w.heap.size, 3, none⟩ (.int .i64 dd)).setCell ⟨w.heap.size, 4, none⟩ (.string t)).setCell ⟨w.heap.size, 5, none⟩ (.slice none 0 0)).cell? ⟨w.heap.size, 0, none⟩ = some (.int .i64 op) := by go_simp
    have g1 : (((((((w5.setCell ⟨w3.heap.size, 4, none⟩ (.string t)).setCell ⟨w.heap.size, 0, none⟩ (.int .i64 op)).setCell ⟨w.heap.size, 1, none⟩ (.int .i64 a)).setCell ⟨w.heap.size, 2, none⟩ (.int .i64 bb)).setCell ⟨w.heap.size, 3, none⟩ (.int .i64 dd)).setCell ⟨w.heap.size, 4, none⟩ (.string t)).setCell ⟨w.heap.size, 5, none⟩ (.slice none 0 0)).cell? ⟨w.heap.size, 1, none⟩ = some (.int .i64 a) := by go_simp
    have g2 : (((((((w5.setCell ⟨w3.heap.size, 4, none⟩ (.string t)).setCell ⟨w.heap.size, 0, none⟩ (.int .i64 op)).setCell ⟨w.heap.size, 1, none⟩ (.int .i64 a)).setCell ⟨w.heap.size, 2, none⟩ (.int .i64 bb)).setCell ⟨w.heap.size, 3, none⟩ (.int .i64 dd)).setCell ⟨w.heap.size, 4, none⟩ (.string t)).setCell ⟨w.heap.size, 5, none⟩ (.slice none 0 0)).cell? ⟨w.heap.size, 2, none⟩ = some (.int .i64 bb) := by go_simp
    have g3 : (((((((w5.setCell ⟨w3.heap.size, 4, none⟩ (.string t)).setCell ⟨w.heap.size, 0, none⟩ (.int .i64 op)).setCell ⟨w.heap.size, 1, none⟩ (.int .i64 a)).setCell ⟨w.heap.size, 2, none⟩ (.int .i64 bb)).setCell ⟨w.heap.size, 3, none⟩ (.int .i64 dd)).setCell ⟨w.heap.size, 4, none⟩ (.string t)).setCell ⟨w.heap.size, 5, none⟩ (.slice none 0 0)).cell? ⟨w.heap.size, 3, none⟩ = some (.int .i64 dd) := by go_simp
    have g4 : (((((((w5.setCell ⟨w3.heap.size, 4, none⟩ (.string t)).setCell ⟨w.heap.size, 0, none⟩ (.int .i64 op)).setCell ⟨w.heap.size, 1, none⟩ (.int .i64 a)).setCell ⟨w.heap.size, 2, none⟩ (.int .i64 bb)).setCell ⟨w.heap.size, 3, none⟩ (.int .i64 dd)).setCell ⟨w.heap.size, 4, none⟩ (.string t)).setCell ⟨w.heap.size, 5, none⟩ (.slice none 0 0)).cell? ⟨w.heap.size, 4, none⟩ = some (.string t) := by go_simp
    have g5 : (((((((w5.setCell ⟨w3.heap.size, 4, none⟩ (.string t)).setCell ⟨w.heap.size, 0, none⟩ (.int .i64 op)).setCell ⟨w.heap.size, 1, none⟩ (.int .i64 a)).setCell ⟨w.heap.size, 2, none⟩ (.int .i64 bb)).setCell ⟨w.heap.size, 3, none⟩ (.int .i64 dd)).setCell ⟨w.heap.size, 4, none⟩ (.string t)).setCell ⟨w.heap.size, 5, none⟩ (.slice none 0 0)).cell? ⟨w.heap.size, 5, none⟩ = some (.slice none 0 0) := by go_simp
    refine bodyPost_ret (v := .agg #[.int .i64 op, .int .i64 a, .int .i64 bb, .int .i64 dd, .string t, .slice none 0 0]) ?_ rfl ⟨.mk op a bb dd t 0 (fun _ => .no), _, _, _, rfl, leaf_tree ⟨J.out.o0, J.out.o1, J.out.a0, J.out.a1, J.out.b0, J.out.b1, J.out.d0, J.out.d1, by omega⟩, by rw [size_mk]; simp [smK]; exact hF, by omega, hp.1, hp.2⟩
    simp [results, Tryz.results49, go_sem, g0, g1, g2, g3, g4, g5]
   ·go_wp2_with fail
    refine (next_any b la ln lc (at2 + 1) left2 6 _ S4.out (by omega) (by decide) (by decide)).mono ?_
    rintro e w5 ⟨y, rfl, y0, y1, hS5, h5⟩
    have R5 := Lib.hid (R4.out.trans h5)
    have R6 := Lib.hid (R5.out.setNew (p := ⟨w3.heap.size, 3, none⟩) (by simp; omega) (.int .i64 y))
    have S6 := Lib.hid (hS5.other (g := w3.heap.size) (i := 3) (v := .int .i64 y) (by omega) (HS.out.nums.ro R6.out))
    clear hS5
    have q := keepr6 h5 (b := w.heap.size) (by first | (simp; done) | (simp; omega) | omega) (by first | (simp; done) | (simp; omega) | omega)
    have kc5_0_0 := q.1
    have kc5_0_1 := q.2.1
    have kc5_0_2 := q.2.2.1
    have kc5_0_3 := q.2.2.2.1
    have kc5_0_4 := q.2.2.2.2.1
    have kc5_0_5 := q.2.2.2.2.2.1
    have kf5_0_0 := q.2.2.2.2.2.2.1
    have kf5_0_1 := q.2.2.2.2.2.2.2.1
    have kf5_0_2 := q.2.2.2.2.2.2.2.2.1
    have kf5_0_3 := q.2.2.2.2.2.2.2.2.2.1
    have kf5_0_4 := q.2.2.2.2.2.2.2.2.2.2.1
    have kf5_0_5 := q.2.2.2.2.2.2.2.2.2.2.2.1
    have kl5_0 := q.2.2.2.2.2.2.2.2.2.2.2.2.1
    have kn5_0 := q.2.2.2.2.2.2.2.2.2.2.2.2.2.1
    have km5_0 := q.2.2.2.2.2.2.2.2.2.2.2.2.2.2
    clear q
    have q := keepr6 h5 (b := w3.heap.size) (by first | (simp; done) | (simp; omega) | omega) (by first | (simp; done) | (simp; omega) | omega)
    have kc5_1_0 := q.1
    have kc5_1_1 := q.2.1
    have kc5_1_2 := q.2.2.1
    have kc5_1_3 := q.2.2.2.1
    have kc5_1_4 := q.2.2.2.2.1
    have kc5_1_5 := q.2.2.2.2.2.1
    have kf5_1_0 := q.2.2.2.2.2.2.1
    have kf5_1_1 := q.2.2.2.2.2.2.2.1
    have kf5_1_2 := q.2.2.2.2.2.2.2.2.1
    have kf5_1_3 := q.2.2.2.2.2.2.2.2.2.1
    have kf5_1_4 := q.2.2.2.2.2.2.2.2.2.2.1
    have kf5_1_5 := q.2.2.2.2.2.2.2.2.2.2.2.1
    have kl5_1 := q.2.2.2.2.2.2.2.2.2.2.2.2.1
    have kn5_1 := q.2.2.2.2.2.2.2.2.2.2.2.2.2.1
    have km5_1 := q.2.2.2.2.2.2.2.2.2.2.2.2.2.2
    clear q
    have kz5 := h5.size
    (try simp only [World.size_alloc, World.size_setCell, World.size_drew] at kz5)
    have H5 := Lib.hid h5
    clear h5
    ((try simp only []); (repeat (first | go_values | go_skip | go_guarded | go_step | go_upon | go_in)))
    have hp := put6 S6.out HS.out.nums R6.out (Nat.le_refl w.heap.size) hbw (.int .i64 op) (.int .i64 a) (.int .i64 bb) (.int .i64 y) (.string s) (.slice none 0 0)
    have g0 : (((((((w5.setCell ⟨w3.heap.size, 3, none⟩ (.int .i64 y)).setCell ⟨w.heap.size, 0, none⟩ (.int .i64 op)).setCell ⟨w.heap.size, 1, none⟩ (.int .i64 a)).setCell ⟨w.heap.size, 2, none⟩ (.int .i64 bb)).setCell ⟨w.heap.size, 3, none⟩ (.int .i64 y)).setCell ⟨w.heap.size, 4, none⟩ (.string s)).setCell ⟨w.heap.size, 5, none⟩ (.slice none 0 0)).cell? ⟨w.heap.size, 0, none⟩ = some (.int .i64 op) := by go_simp
    have g1 : (((((((w5.setCell ⟨w3.heap.size, 3, none⟩ (.int .i64 y)).setCell ⟨w.heap.size, 0, none⟩ (.int .i64 op)).setCell ⟨w.heap.size, 1, none⟩ (.int .i64 a)).setCell ⟨w.heap.size, 2, none⟩ (.int .i64 bb)).setCell ⟨w.heap.size, 3, none⟩ (.int .i64 y)).setCell ⟨w.heap.size, 4, none⟩ (.string s)).setCell ⟨w.heap.size, 5, none⟩ (.slice none 0 0)).cell? ⟨w.heap.size, 1, none⟩ = some (.int .i64 a) := by go_simp
    have g2 : (((((((w5.setCell ⟨w3.heap.size, 3, none⟩ (.int .i64 y)).setCell ⟨w.heap.size, 0, none⟩ (.int .i64 op)).setCell ⟨w.heap.size, 1, none⟩ (.int .i64 a)).setCell ⟨w.heap.size, 2, none⟩ (.int .i64 bb)).setCell ⟨w.heap.size, 3, none⟩ (.int .i64 y)).setCell ⟨w.heap.size, 4, none⟩ (.string s)).setCell ⟨w.heap.size, 5, none⟩ (.slice none 0 0)).cell? ⟨w.heap.size, 2, none⟩ = some (.int .i64 bb) := by go_simp
    have g3 : (((((((w5.setCell ⟨w3.heap.size, 3, none⟩ (.int .i64 y)).setCell ⟨w.heap.size, 0, none⟩ (.int .i64 op)).setCell ⟨w.heap.size, 1, none⟩ (.int .i64 a)).setCell ⟨w.heap.size, 2, none⟩ (.int .i64 bb)).setCell ⟨w.heap.size, 3, none⟩ (.int .i64 y)).setCell ⟨w.heap.size, 4, none⟩ (.string s)).setCell ⟨w.heap.size, 5, none⟩ (.slice none 0 0)).cell? ⟨w.heap.size, 3, none⟩ = some (.int .i64 y) := by go_simp
    have g4 : (((((((w5.setCell ⟨w3.heap.size, 3, none⟩ (.int .i64 y)).setCell ⟨w.heap.size, 0, none⟩ (.int .i64 op)).setCell ⟨w.heap.size, 1, none⟩ (.int .i64 a)).setCell ⟨w.heap.size, 2, none⟩ (.int .i64 bb)).setCell ⟨w.heap.size, 3, none⟩ (.int .i64 y)).setCell ⟨w.heap.size, 4, none⟩ (.string s)).setCell ⟨w.heap.size, 5, none⟩ (.slice none 0 0)).cell? ⟨w.heap.size, 4, none⟩ = some (.string s) := by go_simp
    have g5 : (((((((w5.setCell ⟨w3.heap.size, 3, none⟩ (.int .i64 y)).setCell ⟨w.heap.size, 0, none⟩ (.int .i64 op)).setCell ⟨w.heap.size, 1, none⟩ (.int .i64 a)).setCell ⟨w.heap.size, 2, none⟩ (.int .i64 bb)).setCell ⟨w.heap.size, 3, none⟩ (.int .i64 y)).setCell ⟨w.heap.size, 4, none⟩ (.string s)).setCell ⟨w.heap.size, 5, none⟩ (.slice none 0 0)).cell? ⟨w.heap.size, 5, none⟩ = some (.slice none 0 0) := by go_simp
    refine bodyPost_ret (v := .agg #[.int .i64 op, .int .i64 a, .int .i64 bb, .int .i64 y, .string s, .slice none 0 0]) ?_ rfl ⟨.mk op a bb y s 0 (fun _ => .no), _, _, _, rfl, leaf_tree ⟨J.out.o0, J.out.o1, J.out.a0, J.out.a1, J.out.b0, J.out.b1, by omega, by omega, J.out.s1⟩, by rw [size_mk]; simp [smK]; exact hF, by omega, hp.1, hp.2⟩
    simp [results, Tryz.results49, go_sem, g0, g1, g2, g3, g4, g5]
   ·go_wp2_with fail
    refine (next_any b la ln lc (at2 + 1) left2 50 _ S4.out (by omega) (by decide) (by decide)).mono ?_
    rintro e w5 ⟨y, rfl, y0, y1, hS5, h5⟩
    have S5 := Lib.hid hS5
    have R5 := Lib.hid (R4.out.trans h5)
    have y3 : IntKind.i64.wrap (y - 20) = y - 20 := IntWalk.i64_in _ ⟨by omega, by omega⟩
    clear hS5
    have q := keepr6 h5 (b := w.heap.size) (by first | (simp; done) | (simp; omega) | omega) (by first | (simp; done) | (simp; omega) | omega)
    have kc5_0_0 := q.1
    have kc5_0_1 := q.2.1
    have kc5_0_2 := q.2.2.1
    have kc5_0_3 := q.2.2.2.1
    have kc5_0_4 := q.2.2.2.2.1
    have kc5_0_5 := q.2.2.2.2.2.1
    have kf5_0_0 := q.2.2.2.2.2.2.1
    have kf5_0_1 := q.2.2.2.2.2.2.2.1
    have kf5_0_2 := q.2.2.2.2.2.2.2.2.1
    have kf5_0_3 := q.2.2.2.2.2.2.2.2.2.1
    have kf5_0_4 := q.2.2.2.2.2.2.2.2.2.2.1
    have kf5_0_5 := q.2.2.2.2.2.2.2.2.2.2.2.1
    have kl5_0 := q.2.2.2.2.2.2.2.2.2.2.2.2.1
    have kn5_0 := q.2.2.2.2.2.2.2.2.2.2.2.2.2.1
    have km5_0 := q.2.2.2.2.2.2.2.2.2.2.2.2.2.2
    clear q
    have q := keepr6 h5 (b := w3.heap.size) (by first | (simp; done) | (simp; omega) | omega) (by first | (simp; done) | (simp; omega) | omega)
    have kc5_1_0 := q.1
    have kc5_1_1 := q.2.1
    have kc5_1_2 := q.2.2.1
    have kc5_1_3 := q.2.2.2.1
    have kc5_1_4 := q.2.2.2.2.1
    have kc5_1_5 := q.2.2.2.2.2.1
    have kf5_1_0 := q.2.2.2.2.2.2.1
    have kf5_1_1 := q.2.2.2.2.2.2.2.1
    have kf5_1_2 := q.2.2.2.2.2.2.2.2.1
    have kf5_1_3 := q.2.2.2.2.2.2.2.2.2.1
    have kf5_1_4 := q.2.2.2.2.2.2.2.2.2.2.1
    have kf5_1_5 := q.2.2.2.2.2.2.2.2.2.2.2.1
    have kl5_1 := q.2.2.2.2.2.2.2.2.2.2.2.2.1
    have kn5_1 := q.2.2.2.2.2.2.2.2.2.2.2.2.2.1
    have km5_1 := q.2.2.2.2.2.2.2.2.2.2.2.2.2.2
    clear q
    have kz5 := h5.size
    (try simp only [World.size_alloc, World.size_setCell, World.size_drew] at kz5)
    have H5 := Lib.hid h5
    clear h5
    go_wp2_with fail
    refine (next_any b la ln lc (at2 + 1 + 1) left2 30 _ S5.out (by omega) (by decide) (by decide)).mono ?_
    rintro e w6 ⟨z, rfl, z0, zz1, hS6, h6⟩
    have R6 := Lib.hid (R5.out.trans h6)
    have R7 := Lib.hid ((R6.out.setNew (p := ⟨w3.heap.size, 1, none⟩) (by simp; omega) (.int .i64 (y - 20))).setNew (p := ⟨w3.heap.size, 2, none⟩) (by simp; omega) (.int .i64 z))
    have S7 := Lib.hid ((hS6.other (g := w3.heap.size) (i := 1) (v := .int .i64 (y - 20)) (by omega) (HS.out.nums.ro (R6.out.setNew (p := ⟨w3.heap.size, 1, none⟩) (by simp; omega) (.int .i64 (y - 20))))).other (g := w3.heap.size) (i := 2) (v := .int .i64 z) (by omega) (HS.out.nums.ro R7.out))
    clear hS6
    have q := keepr6 h6 (b := w.heap.size) (by first | (simp; done) | (simp; omega) | omega) (by first | (simp; done) | (simp; omega) | omega)
    have kc6_0_0 := q.1
    have kc6_0_1 := q.2.1
    have kc6_0_2 := q.2.2.1
    have kc6_0_3 := q.2.2.2.1
    have kc6_0_4 := q.2.2.2.2.1
    have kc6_0_5 := q.2.2.2.2.2.1
    have kf6_0_0 := q.2.2.2.2.2.2.1
    have kf6_0_1 := q.2.2.2.2.2.2.2.1
    have kf6_0_2 := q.2.2.2.2.2.2.2.2.1
    have kf6_0_3 := q.2.2.2.2.2.2.2.2.2.1
    have kf6_0_4 := q.2.2.2.2.2.2.2.2.2.2.1
    have kf6_0_5 := q.2.2.2.2.2.2.2.2.2.2.2.1
    have kl6_0 := q.2.2.2.2.2.2.2.2.2.2.2.2.1
    have kn6_0 := q.2.2.2.2.2.2.2.2.2.2.2.2.2.1
    have km6_0 := q.2.2.2.2.2.2.2.2.2.2.2.2.2.2
    clear q
    have q := keepr6 h6 (b := w3.heap.size) (by first | (simp; done) | (simp; omega) | omega) (by first | (simp; done) | (simp; omega) | omega)
    have kc6_1_0 := q.1
    have kc6_1_1 := q.2.1
    have kc6_1_2 := q.2.2.1
    have kc6_1_3 := q.2.2.2.1
    have kc6_1_4 := q.2.2.2.2.1
    have kc6_1_5 := q.2.2.2.2.2.1
    have kf6_1_0 := q.2.2.2.2.2.2.1
    have kf6_1_1 := q.2.2.2.2.2.2.2.1
    have kf6_1_2 := q.2.2.2.2.2.2.2.2.1
    have kf6_1_3 := q.2.2.2.2.2.2.2.2.2.1
    have kf6_1_4 := q.2.2.2.2.2.2.2.2.2.2.1
    have kf6_1_5 := q.2.2.2.2.2.2.2.2.2.2.2.1
    have kl6_1 := q.2.2.2.2.2.2.2.2.2.2.2.2.1
    have kn6_1 := q.2.2.2.2.2.2.2.2.2.2.2.2.2.1
    have km6_1 := q.2.2.2.2.2.2.2.2.2.2.2.2.2.2
    clear q
    have kz6 := h6.size
    (try simp only [World.size_alloc, World.size_setCell, World.size_drew] at kz6)
    have H6 := Lib.hid h6
    clear h6
    ((try simp only []); (repeat (first | go_values | go_skip | go_guarded | go_step | go_upon | go_in)))
    have hp := put6 S7.out HS.out.nums R7.out (Nat.le_refl w.heap.size) hbw (.int .i64 op) (.int .i64 (y - 20)) (.int .i64 z) (.int .i64 dd) (.string s) (.slice none 0 0)
    have g0 : ((((((((w6.setCell ⟨w3.heap.size, 1, none⟩ (.int .i64 (y - 20))).setCell ⟨w3.heap.size, 2, none⟩ (.int .i64 z)).setCell ⟨w.heap.size, 0, none⟩ (.int .i64 op)).setCell ⟨w.heap.size, 1, none⟩ (.int .i64 (y - 20))).setCell ⟨w.heap.size, 2, none⟩ (.int .i64 z)).setCell ⟨w.heap.size, 3, none⟩ (.int .i64 dd)).setCell ⟨w.heap.size, 4, none⟩ (.string s)).setCell ⟨w.heap.size, 5, none⟩ (.slice none 0 0)).cell? ⟨w.heap.size, 0, none⟩ = some (.int .i64 op) := by go_simp
    have g1 : ((((((((w6.setCell ⟨w3.heap.size, 1, none⟩ (.int .i64 (y - 20))).setCell ⟨w3.heap.size, 2, none⟩ (.int .i64 z)).setCell ⟨w.heap.size, 0, none⟩ (.int .i64 op)).setCell ⟨w.heap.size, 1, none⟩ (.int .i64 (y - 20))).setCell ⟨w.heap.size, 2, none⟩ (.int .i64 z)).setCell ⟨w.heap.size, 3, none⟩ (.int .i64 dd)).setCell ⟨w.heap.size, 4, none⟩ (.string s)).setCell ⟨w.heap.size, 5, none⟩ (.slice none 0 0)).cell? ⟨w.heap.size, 1, none⟩ = some (.int .i64 (y - 20)) := by go_simp
    have g2 : ((((((((w6.setCell ⟨w3.heap.size, 1, none⟩ (.int .i64 (y - 20))).setCell ⟨w3.heap.size, 2, none⟩ (.int .i64 z)).setCell ⟨w.heap.size, 0, none⟩ (.int .i64 op)).setCell ⟨w.heap.size, 1, none⟩ (.int .i64 (y - 20))).setCell ⟨w.heap.size, 2, none⟩ (.int .i64 z)).setCell ⟨w.heap.size, 3, none⟩ (.int .i64 dd)).setCell ⟨w.heap.size, 4, none⟩ (.string s)).setCell ⟨w.heap.size, 5, none⟩ (.slice none 0 0)).cell? ⟨w.heap.size, 2, none⟩ = some (.int .i64 z) := by go_simp
    have g3 : ((((((((w6.setCell ⟨w3.heap.size, 1, none⟩ (.int .i64 (y - 20))).setCell ⟨w3.heap.size, 2, none⟩ (.int .i64 z)).setCell ⟨w.heap.size, 0, none⟩ (.int .i64 op)).setCell ⟨w.heap.size, 1, none⟩ (.int .i64 (y - 20))).setCell ⟨w.heap.size, 2, none⟩ (.int .i64 z)).setCell ⟨w.heap.size, 3, none⟩ (.int .i64 dd)).setCell ⟨w.heap.size, 4, none⟩ (.string s)).setCell ⟨w.heap.size, 5, none⟩ (.slice none 0 0)).cell? ⟨w.heap.size, 3, none⟩ = some (.int .i64 dd) := by go_simp
    have g4 : ((((((((w6.setCell ⟨w3.heap.size, 1, none⟩ (.int .i64 (y - 20))).setCell ⟨w3.heap.size, 2, none⟩ (.int .i64 z)).setCell ⟨w.heap.size, 0, none⟩ (.int .i64 op)).setCell ⟨w.heap.size, 1, none⟩ (.int .i64 (y - 20))).setCell ⟨w.heap.size, 2, none⟩ (.int .i64 z)).setCell ⟨w.heap.size, 3, none⟩ (.int .i64 dd)).setCell ⟨w.heap.size, 4, none⟩ (.string s)).setCell ⟨w.heap.size, 5, none⟩ (.slice none 0 0)).cell? ⟨w.heap.size, 4, none⟩ = some (.string s) := by go_simp
    have g5 : ((((((((w6.setCell ⟨w3.heap.size, 1, none⟩ (.int .i64 (y - 20))).setCell ⟨w3.heap.size, 2, none⟩ (.int .i64 z)).setCell ⟨w.heap.size, 0, none⟩ (.int .i64 op)).setCell ⟨w.heap.size, 1, none⟩ (.int .i64 (y - 20))).setCell ⟨w.heap.size, 2, none⟩ (.int .i64 z)).setCell ⟨w.heap.size, 3, none⟩ (.int .i64 dd)).setCell ⟨w.heap.size, 4, none⟩ (.string s)).setCell ⟨w.heap.size, 5, none⟩ (.slice none 0 0)).cell? ⟨w.heap.size, 5, none⟩ = some (.slice none 0 0) := by go_simp
    refine bodyPost_ret (v := .agg #[.int .i64 op, .int .i64 (y - 20), .int .i64 z, .int .i64 dd, .string s, .slice none 0 0]) ?_ rfl ⟨.mk op (y - 20) z dd s 0 (fun _ => .no), _, _, _, rfl, leaf_tree ⟨J.out.o0, J.out.o1, by omega, by omega, by omega, by omega, J.out.d0, J.out.d1, J.out.s1⟩, by rw [size_mk]; simp [smK]; exact hF, by omega, hp.1, hp.2⟩
    simp [results, Tryz.results49, go_sem, g0, g1, g2, g3, g4, g5]
   ·have k0 : (x == 0) = false := by rw [beq_eq_false_iff_ne]; omega
    have k1 : (x == 1) = false := by rw [beq_eq_false_iff_ne]; omega
    have k2 : (x == 2) = false := by rw [beq_eq_false_iff_ne]; omega
    have k3 : (x == 3) = false := by rw [beq_eq_false_iff_ne]; omega
    ((try simp only []); (repeat (first | go_values | go_skip | go_guarded | go_step | go_upon | go_in)))
    have hp := put6 S4.out HS.out.nums R4.out (Nat.le_refl w.heap.size) hbw (.int .i64 op) (.int .i64 a) (.int .i64 bb) (.int .i64 dd) (.string s) (.slice none 0 0)
    have g0 : ((((((w4.setCell ⟨w.heap.size, 0, none⟩ (.int .i64 op)).setCell ⟨w.heap.size, 1, none⟩ (.int .i64 a)).setCell ⟨w.heap.size, 2, none⟩ (.int .i64 bb)).setCell ⟨w.heap.size, 3, none⟩ (.int .i64 dd)).setCell ⟨w.heap.size, 4, none⟩ (.string s)).setCell ⟨w.heap.size, 5, none⟩ (.slice none 0 0)).cell? ⟨w.heap.size, 0, none⟩ = some (.int .i64 op) := by go_simp
    have g1 : ((((((w4.setCell ⟨w.heap.size, 0, none⟩ (.int .i64 op)).setCell ⟨w.heap.size, 1, none⟩ (.int .i64 a)).setCell ⟨w.heap.size, 2, none⟩ (.int .i64 bb)).setCell ⟨w.heap.size, 3, none⟩ (.int .i64 dd)).setCell ⟨w.heap.size, 4, none⟩ (.string s)).setCell ⟨w.heap.size, 5, none⟩ (.slice none 0 0)).cell? ⟨w.heap.size, 1, none⟩ = some (.int .i64 a) := by go_simp
    have g2 : ((((((w4.setCell ⟨w.heap.size, 0, none⟩ (.int .i64 op)).setCell ⟨w.heap.size, 1, none⟩ (.int .i64 a)).setCell ⟨w.heap.size, 2, none⟩ (.int .i64 bb)).setCell ⟨w.heap.size, 3, none⟩ (.int .i64 dd)).setCell ⟨w.heap.size, 4, none⟩ (.string s)).setCell ⟨w.heap.size, 5, none⟩ (.slice none 0 0)).cell? ⟨w.heap.size, 2, none⟩ = some (.int .i64 bb) := by go_simp
    have g3 : ((((((w4.setCell ⟨w.heap.size, 0, none⟩ (.int .i64 op)).setCell ⟨w.heap.size, 1, none⟩ (.int .i64 a)).setCell ⟨w.heap.size, 2, none⟩ (.int .i64 bb)).setCell ⟨w.heap.size, 3, none⟩ (.int .i64 dd)).setCell ⟨w.heap.size, 4, none⟩ (.string s)).setCell ⟨w.heap.size, 5, none⟩ (.slice none 0 0)).cell? ⟨w.heap.size, 3, none⟩ = some (.int .i64 dd) := by go_simp
    have g4 : ((((((w4.setCell ⟨w.heap.size, 0, none⟩ (.int .i64 op)).setCell ⟨w.heap.size, 1, none⟩ (.int .i64 a)).setCell ⟨w.heap.size, 2, none⟩ (.int .i64 bb)).setCell ⟨w.heap.size, 3, none⟩ (.int .i64 dd)).setCell ⟨w.heap.size, 4, none⟩ (.string s)).setCell ⟨w.heap.size, 5, none⟩ (.slice none 0 0)).cell? ⟨w.heap.size, 4, none⟩ = some (.string s) := by go_simp
    have g5 : ((((((w4.setCell ⟨w.heap.size, 0, none⟩ (.int .i64 op)).setCell ⟨w.heap.size, 1, none⟩ (.int .i64 a)).setCell ⟨w.heap.size, 2, none⟩ (.int .i64 bb)).setCell ⟨w.heap.size, 3, none⟩ (.int .i64 dd)).setCell ⟨w.heap.size, 4, none⟩ (.string s)).setCell ⟨w.heap.size, 5, none⟩ (.slice none 0 0)).cell? ⟨w.heap.size, 5, none⟩ = some (.slice none 0 0) := by go_simp
    refine bodyPost_ret (v := .agg #[.int .i64 op, .int .i64 a, .int .i64 bb, .int .i64 dd, .string s, .slice none 0 0]) ?_ rfl ⟨.mk op a bb dd s 0 (fun _ => .no), _, _, _, rfl, leaf_tree J.out, by rw [size_mk]; simp [smK]; exact hF, by omega, hp.1, hp.2⟩
    simp [results, Tryz.results49, go_sem, g0, g1, g2, g3, g4, g5]
theorem pow5 : ∀ f : Nat, f ≤ 9 → (1 : Int) ≤ 5 ^ f ∧ (5 : Int) ^ f ≤ 2000000 := by
 intro f hf
 rcases (show f = 0 ∨ f = 1 ∨ f = 2 ∨ f = 3 ∨ f = 4 ∨ f = 5 ∨ f = 6 ∨ f = 7 ∨ f = 8 ∨ f = 9 by omega) with rfl | rfl | rfl | rfl | rfl | rfl | rfl | rfl | rfl | rfl <;> decide
theorem wild_any (b : Nat) (la : Option Addr) (ln lc : Nat) (f : Nat) : f ≤ 9 → ∀ (at' left : Int) (w : World), Src w b la ln lc at' left → at' + 10 * (5 : Int) ^ f ≤ 3000000000000000000 →
  Calls Tryz.prog 49 #[.pointer (some ⟨b, 0, none⟩), .int .i64 (9 - (f : Int))] w (WildRes b la ln lc at' ((5 : Int) ^ f) w) := by
 induction f with
 | zero =>
  intro _ at' left w hS ha
  exact wild_step b la ln lc (9 - ((0 : Nat) : Int)) _ 0 (by decide) (by decide) (pow5 0 (by decide)).1 (pow5 0 (by decide)).2 (fun h => absurd h (by decide)) (fun h => absurd h (by decide)) at' left w hS ha
 | succ f ih =>
  intro hf at' left w hS ha
  have e : (9 - ((f + 1 : Nat) : Int)) + 1 = 9 - (f : Int) := by omega
  exact wild_step b la ln lc (9 - ((f + 1 : Nat) : Int)) _ ((5 : Int) ^ f) (by omega) (by omega) (pow5 (f + 1) hf).1 (pow5 (f + 1) hf).2 (fun _ => ⟨(pow5 f (by omega)).1, by rw [Int.pow_succ]; omega⟩) (fun _ at2 left2 w2 h2 ha2 => by rw [e]; exact ih (by omega) at2 left2 w2 h2 ha2) at' left w hS ha
end Go.Proofs.YtkghmghjgikihaaGreatDoor

/- Contract of Wild. No conditions but those printed. -/
namespace Go.Proofs.YtkghmghjgikihaaGreatDoor
open Go.RowKit Cal Str Tok Frac Txt Tree
attribute [local go_sem] calmUpon
set_option linter.unusedVariables false
set_option linter.unusedSimpArgs false
theorem nums_of {w : World} {b n : Nat} {a0 : Option Addr} {cap : Nat} (h : IntsIn w (.slice a0 n cap) n) (hb : w.heap.size ≤ b) : Nums w b a0 n := by
 obtain ⟨a1, c1, e, hn, hc⟩ := h
 obtain ⟨rfl, -, -⟩ := by simpa using e
 refine ⟨hn, fun h0 => ?_⟩
 obtain ⟨g, off, zs, rfl, hg, hz⟩ := hc h0
 exact ⟨g, off, fun j => zs.getD j 0, rfl, hg, by omega, hz⟩
def MadeRes (F : Int) (w : World) (e : Ending) (w' : World) : Prop := ∃ (t : Ex) (x : Value), e = .returned (.agg #[.int .i64 t.op, .int .i64 t.va, .int .i64 t.vb, .int .i64 t.dm, .string t.nm, x]) ∧ ExKids t w' x ∧ t.size ≤ F ∧ Rel w w'
theorem kids_put6 {P : Nat → Prop} {t : Ex} {w : World} {x : Value} (h : ExKidsB P t w x) {g : Nat} (hg : ∀ q, P q → q ≠ g) (v0 v1 v2 v3 v4 v5 : Value) :
  ExKids t ((((((w.setCell ⟨g, 0, none⟩ v0).setCell ⟨g, 1, none⟩ v1).setCell ⟨g, 2, none⟩ v2).setCell ⟨g, 3, none⟩ v3).setCell ⟨g, 4, none⟩ v4).setCell ⟨g, 5, none⟩ v5) x :=
 kidsB_to (kidsB_keep (Q := fun _ => True) (by simp [World.setCell]) (fun q _ hp => ⟨by
  have hne := hg q hp
  rw [Below.heap_setCell _ _ _ _ hne, Below.heap_setCell _ _ _ _ hne, Below.heap_setCell _ _ _ _ hne, Below.heap_setCell _ _ _ _ hne, Below.heap_setCell _ _ _ _ hne, Below.heap_setCell _ _ _ _ hne], trivial⟩) h)
theorem rel_put6 {w w1 : World} (h : Rel w w1) {g : Nat} (hg : w.heap.size ≤ g) (v0 v1 v2 v3 v4 v5 : Value) :
  Rel w ((((((w1.setCell ⟨g, 0, none⟩ v0).setCell ⟨g, 1, none⟩ v1).setCell ⟨g, 2, none⟩ v2).setCell ⟨g, 3, none⟩ v3).setCell ⟨g, 4, none⟩ v4).setCell ⟨g, 5, none⟩ v5) :=
 (((((h.setCell (p := ⟨g, 0, none⟩) hg v0).setCell (p := ⟨g, 1, none⟩) hg v1).setCell (p := ⟨g, 2, none⟩) hg v2).setCell (p := ⟨g, 3, none⟩) hg v3).setCell (p := ⟨g, 4, none⟩) hg v4).setCell (p := ⟨g, 5, none⟩) hg v5
set_option maxRecDepth 20000 in
set_option maxHeartbeats 4000000 in
theorem Wild_any (v : Value) (n : Nat) (w : World) (hI : IntsIn w v n) : Calls Tryz.prog 22 #[v] w (MadeRes 2000000 w) := by
 obtain ⟨ad, cap, rfl, -⟩ := id hI
 have hI2 := Lib.hid hI
 clear hI
 unfold MadeRes
 go_enter Tryz.func22, Tryz.ntmps22
 go_wp2_with fail
 have hN := (nums_of (b := w.heap.size + 1) hI2.out (by omega)).ro (Ro.of (((Rel.refl w).alloc (.cells #[.int .i64 0, .int .i64 0, .int .i64 0, .int .i64 0, .string ⟨#[]⟩, .slice none 0 0] 29)).alloc (.cells #[.slice ad n cap, .int .i64 0, .int .i64 30] 95)))
 have HS : Hid (Src ((w.alloc (.cells #[.int .i64 0, .int .i64 0, .int .i64 0, .int .i64 0, .string ⟨#[]⟩, .slice none 0 0] 29)).alloc (.cells #[.slice ad n cap, .int .i64 0, .int .i64 30] 95)) (w.heap.size + 1) ad n cap 0 30) :=
  ⟨by simp, by simp, by simp, by simp, by simp, by simp, hN, by decide, by decide, by decide⟩
 clear hN
 refine (wild_any (w.heap.size + 1) ad n cap 8 (by decide) 0 30 _ HS.out (by decide)).mono ?_
 rintro e w1 ⟨t, x, at2, left2, rfl, hK, hz, -, -, h1⟩
 obtain ⟨xa, xc, rfl⟩ := kids_slice (kidsB_to hK)
 have hz2 : t.size ≤ 2000000 := Int.le_trans hz (by decide)
 have HK := Lib.hid hK
 have R1 := Lib.hid (Ro.rel (((Rel.refl w).alloc (.cells #[.int .i64 0, .int .i64 0, .int .i64 0, .int .i64 0, .string ⟨#[]⟩, .slice none 0 0] 29)).alloc (.cells #[.slice ad n cap, .int .i64 0, .int .i64 30] 95)) h1 (by omega))
 have q := keepr6 h1 (b := w.heap.size) (by first | (simp; done) | (simp; omega) | omega) (by first | (simp; done) | (simp; omega) | omega)
 have kc1_0_0 := q.1
 have kc1_0_1 := q.2.1
 have kc1_0_2 := q.2.2.1
 have kc1_0_3 := q.2.2.2.1
 have kc1_0_4 := q.2.2.2.2.1
 have kc1_0_5 := q.2.2.2.2.2.1
 have kf1_0_0 := q.2.2.2.2.2.2.1
 have kf1_0_1 := q.2.2.2.2.2.2.2.1
 have kf1_0_2 := q.2.2.2.2.2.2.2.2.1
 have kf1_0_3 := q.2.2.2.2.2.2.2.2.2.1
 have kf1_0_4 := q.2.2.2.2.2.2.2.2.2.2.1
 have kf1_0_5 := q.2.2.2.2.2.2.2.2.2.2.2.1
 have kl1_0 := q.2.2.2.2.2.2.2.2.2.2.2.2.1
 have kn1_0 := q.2.2.2.2.2.2.2.2.2.2.2.2.2.1
 have km1_0 := q.2.2.2.2.2.2.2.2.2.2.2.2.2.2
 clear q
 have kz1 := h1.size
 (try simp only [World.size_alloc, World.size_setCell, World.size_drew] at kz1)
 have H1 := Lib.hid h1
 clear h1
 clear hK hz
 go_wp2
 have g0 : ((((((w1.setCell ⟨w.heap.size, 0, none⟩ (.int .i64 t.op)).setCell ⟨w.heap.size, 1, none⟩ (.int .i64 t.va)).setCell ⟨w.heap.size, 2, none⟩ (.int .i64 t.vb)).setCell ⟨w.heap.size, 3, none⟩ (.int .i64 t.dm)).setCell ⟨w.heap.size, 4, none⟩ (.string t.nm)).setCell ⟨w.heap.size, 5, none⟩ (.slice xa t.cnt xc)).cell? ⟨w.heap.size, 0, none⟩ = some (.int .i64 t.op) := by go_simp
 have g1 : ((((((w1.setCell ⟨w.heap.size, 0, none⟩ (.int .i64 t.op)).setCell ⟨w.heap.size, 1, none⟩ (.int .i64 t.va)).setCell ⟨w.heap.size, 2, none⟩ (.int .i64 t.vb)).setCell ⟨w.heap.size, 3, none⟩ (.int .i64 t.dm)).setCell ⟨w.heap.size, 4, none⟩ (.string t.nm)).setCell ⟨w.heap.size, 5, none⟩ (.slice xa t.cnt xc)).cell? ⟨w.heap.size, 1, none⟩ = some (.int .i64 t.va) := by go_simp
 have g2 : ((((((w1.setCell ⟨w.heap.size, 0, none⟩ (.int .i64 t.op)).setCell ⟨w.heap.size, 1, none⟩ (.int .i64 t.va)).setCell ⟨w.heap.size, 2, none⟩ (.int .i64 t.vb)).setCell ⟨w.heap.size, 3, none⟩ (.int .i64 t.dm)).setCell ⟨w.heap.size, 4, none⟩ (.string t.nm)).setCell ⟨w.heap.size, 5, none⟩ (.slice xa t.cnt xc)).cell? ⟨w.heap.size, 2, none⟩ = some (.int .i64 t.vb) := by go_simp
 have g3 : ((((((w1.setCell ⟨w.heap.size, 0, none⟩ (.int .i64 t.op)).setCell ⟨w.heap.size, 1, none⟩ (.int .i64 t.va)).setCell ⟨w.heap.size, 2, none⟩ (.int .i64 t.vb)).setCell ⟨w.heap.size, 3, none⟩ (.int .i64 t.dm)).setCell ⟨w.heap.size, 4, none⟩ (.string t.nm)).setCell ⟨w.heap.size, 5, none⟩ (.slice xa t.cnt xc)).cell? ⟨w.heap.size, 3, none⟩ = some (.int .i64 t.dm) := by go_simp
 have g4 : ((((((w1.setCell ⟨w.heap.size, 0, none⟩ (.int .i64 t.op)).setCell ⟨w.heap.size, 1, none⟩ (.int .i64 t.va)).setCell ⟨w.heap.size, 2, none⟩ (.int .i64 t.vb)).setCell ⟨w.heap.size, 3, none⟩ (.int .i64 t.dm)).setCell ⟨w.heap.size, 4, none⟩ (.string t.nm)).setCell ⟨w.heap.size, 5, none⟩ (.slice xa t.cnt xc)).cell? ⟨w.heap.size, 4, none⟩ = some (.string t.nm) := by go_simp
 have g5 : ((((((w1.setCell ⟨w.heap.size, 0, none⟩ (.int .i64 t.op)).setCell ⟨w.heap.size, 1, none⟩ (.int .i64 t.va)).setCell ⟨w.heap.size, 2, none⟩ (.int .i64 t.vb)).setCell ⟨w.heap.size, 3, none⟩ (.int .i64 t.dm)).setCell ⟨w.heap.size, 4, none⟩ (.string t.nm)).setCell ⟨w.heap.size, 5, none⟩ (.slice xa t.cnt xc)).cell? ⟨w.heap.size, 5, none⟩ = some (.slice xa t.cnt xc) := by go_simp
 refine bodyPost_ret (v := .agg #[.int .i64 t.op, .int .i64 t.va, .int .i64 t.vb, .int .i64 t.dm, .string t.nm, .slice xa t.cnt xc]) ?_ rfl ⟨t, _, rfl, kids_put6 HK.out (g := w.heap.size) (fun q hq => by simp at hq; omega) _ _ _ _ _ _, hz2, rel_put6 R1.out (Nat.le_refl _) _ _ _ _ _ _⟩
 simp [results, Tryz.results22, go_sem, g0, g1, g2, g3, g4, g5]
end Go.Proofs.YtkghmghjgikihaaGreatDoor

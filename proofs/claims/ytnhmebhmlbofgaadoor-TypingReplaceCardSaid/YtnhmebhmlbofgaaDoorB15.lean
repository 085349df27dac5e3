/- Bundle of texts: each says at its head what it proves; no conditions but those printed. -/
import Derived.Test.YtnhmebhmlbofgaaDoorB11
import Derived.Test.YtnhmebhmlbofgaaDoorB7
import Derived.Test.YtnhmebhmlbofgaaDoorB10
/- Contracts of Wild and of the law's bindings. No conditions but those printed. -/
namespace Go.Proofs.YtnhmebhmlbofgaaDoor
open Go.RowKit Cal Str Tok Frac Txt Tree
attribute [local go_sem] calmUpon
set_option linter.unusedVariables false
set_option linter.unusedSimpArgs false

theorem nums_of {w : World} {b n : Nat} {a0 : Option Addr} {cap : Nat} (h : IntsIn w (.slice a0 n cap) n) (hb : w.heap.size ≤ b) : Nums w b a0 n := by
  obtain ⟨a1, c1, e, hn, hc⟩ := h
  obtain ⟨rfl, -, -⟩ := by simpa using e
  refine ⟨hn, fun h0 => ?_⟩
  obtain ⟨g, off, zs, rfl, hg, hz⟩ := hc h0
  exact ⟨g, off, fun j => zs.getD j 0, rfl, hg, by omega, hz⟩
/-- A tree that was made: it lies where nothing lay. -/
def MadeRes (F : Int) (w : World) (e : Ending) (w' : World) : Prop := ∃ (t : Ex) (x : Value), e = .returned (.agg #[.int .i64 t.op, .int .i64 t.va, .int .i64 t.vb, .int .i64 t.dm, .string t.nm, x]) ∧ ExKids t w' x ∧ t.size ≤ F ∧ Rel w w'
theorem kids_put6 {P : Nat → Prop} {t : Ex} {w : World} {x : Value} (h : ExKidsB P t w x) {g : Nat} (hg : ∀ q, P q → q ≠ g) (v0 v1 v2 v3 v4 v5 : Value) :
    ExKids t ((((((w.setCell ⟨g, 0, none⟩ v0).setCell ⟨g, 1, none⟩ v1).setCell ⟨g, 2, none⟩ v2).setCell ⟨g, 3, none⟩ v3).setCell ⟨g, 4, none⟩ v4).setCell ⟨g, 5, none⟩ v5) x :=
  kidsB_to (kidsB_keep (Q := fun _ => True) (by simp [World.setCell]) (fun q _ hp => ⟨by
    have hne := hg q hp
    rw [Below.heap_setCell _ _ _ _ hne, Below.heap_setCell _ _ _ _ hne, Below.heap_setCell _ _ _ _ hne, Below.heap_setCell _ _ _ _ hne, Below.heap_setCell _ _ _ _ hne, Below.heap_setCell _ _ _ _ hne], trivial⟩) h)
theorem rel_put6 {w w1 : World} (h : Rel w w1) {g : Nat} (hg : w.heap.size ≤ g) (v0 v1 v2 v3 v4 v5 : Value) :
    Rel w ((((((w1.setCell ⟨g, 0, none⟩ v0).setCell ⟨g, 1, none⟩ v1).setCell ⟨g, 2, none⟩ v2).setCell ⟨g, 3, none⟩ v3).setCell ⟨g, 4, none⟩ v4).setCell ⟨g, 5, none⟩ v5) :=
  (((((h.setCell (p := ⟨g, 0, none⟩) hg v0).setCell (p := ⟨g, 1, none⟩) hg v1).setCell (p := ⟨g, 2, none⟩) hg v2).setCell (p := ⟨g, 3, none⟩) hg v3).setCell (p := ⟨g, 4, none⟩) hg v4).setCell (p := ⟨g, 5, none⟩) hg v5

set_option maxRecDepth 20000 in
set_option maxHeartbeats 4000000 in
theorem Wild_any (v : Value) (n : Nat) (w : World) (hI : IntsIn w v n) : Calls Tryd.prog 12 #[v] w (MadeRes 2000000 w) := by
  obtain ⟨ad, cap, rfl, -⟩ := id hI
  have hI2 := Lib.hid hI
  clear hI
  unfold MadeRes
  go_enter Tryd.func12, Tryd.ntmps12
  go_wp2_with fail
  have hN := (nums_of (b := w.heap.size + 1) hI2.out (by omega)).ro (Ro.of (((Rel.refl w).alloc (.cells #[.int .i64 0, .int .i64 0, .int .i64 0, .int .i64 0, .string ⟨#[]⟩, .slice none 0 0] 34)).alloc (.cells #[.slice ad n cap, .int .i64 0, .int .i64 30] 68)))
  have HS : Hid (Src ((w.alloc (.cells #[.int .i64 0, .int .i64 0, .int .i64 0, .int .i64 0, .string ⟨#[]⟩, .slice none 0 0] 34)).alloc (.cells #[.slice ad n cap, .int .i64 0, .int .i64 30] 68)) (w.heap.size + 1) ad n cap 0 30) :=
    ⟨by simp, by simp, by simp, by simp, by simp, by simp, hN, by decide, by decide, by decide⟩
  clear hN
  refine (wild_any (w.heap.size + 1) ad n cap 8 (by decide) 0 30 _ HS.out (by decide)).mono ?_
  rintro e w1 ⟨t, x, at2, left2, rfl, hK, hz, -, -, h1⟩
  obtain ⟨xa, xc, rfl⟩ := kids_slice (kidsB_to hK)
  have hz2 : t.size ≤ 2000000 := Int.le_trans hz (by decide)
  have HK := Lib.hid hK
  have R1 := Lib.hid (Ro.rel (((Rel.refl w).alloc (.cells #[.int .i64 0, .int .i64 0, .int .i64 0, .int .i64 0, .string ⟨#[]⟩, .slice none 0 0] 34)).alloc (.cells #[.slice ad n cap, .int .i64 0, .int .i64 30] 68)) h1 (by omega))
  have q := keepr6 h1 (b := w.heap.size) (by first | (simp; done) | (simp; omega) | omega) (by first | (simp; done) | (simp; omega) | omega)
  have kc1_0_0 := q.1
  have kc1_0_1 := q.2.1
  have kc1_0_2 := q.2.2.1
  have kc1_0_3 := q.2.2.2.1
  have kc1_0_4 := q.2.2.2.2.1
  have kc1_0_5 := q.2.2.2.2.2.1
  have kf1_0_0 := q.2.2.2.2.2.2.1
  have kf1_0_1 := q.2.2.2.2.2.2.2.1
  have kf1_0_2 := q.2.2.2.2.2.2.2.2.1
  have kf1_0_3 := q.2.2.2.2.2.2.2.2.2.1
  have kf1_0_4 := q.2.2.2.2.2.2.2.2.2.2.1
  have kf1_0_5 := q.2.2.2.2.2.2.2.2.2.2.2.1
  have kl1_0 := q.2.2.2.2.2.2.2.2.2.2.2.2.1
  have kn1_0 := q.2.2.2.2.2.2.2.2.2.2.2.2.2.1
  have km1_0 := q.2.2.2.2.2.2.2.2.2.2.2.2.2.2
  clear q
  have kz1 := h1.size
  (try simp only [World.size_alloc, World.size_setCell, World.size_drew] at kz1)
  have H1 := Lib.hid h1
  clear h1
  clear hK hz
  go_wp2
  have g0 : ((((((w1.setCell ⟨w.heap.size, 0, none⟩ (.int .i64 t.op)).setCell ⟨w.heap.size, 1, none⟩ (.int .i64 t.va)).setCell ⟨w.heap.size, 2, none⟩ (.int .i64 t.vb)).setCell ⟨w.heap.size, 3, none⟩ (.int .i64 t.dm)).setCell ⟨w.heap.size, 4, none⟩ (.string t.nm)).setCell ⟨w.heap.size, 5, none⟩ (.slice xa t.cnt xc)).cell? ⟨w.heap.size, 0, none⟩ = some (.int .i64 t.op) := by go_simp
  have g1 : ((((((w1.setCell ⟨w.heap.size, 0, none⟩ (.int .i64 t.op)).setCell ⟨w.heap.size, 1, none⟩ (.int .i64 t.va)).setCell ⟨w.heap.size, 2, none⟩ (.int .i64 t.vb)).setCell ⟨w.heap.size, 3, none⟩ (.int .i64 t.dm)).setCell ⟨w.heap.size, 4, none⟩ (.string t.nm)).setCell ⟨w.heap.size, 5, none⟩ (.slice xa t.cnt xc)).cell? ⟨w.heap.size, 1, none⟩ = some (.int .i64 t.va) := by go_simp
  have g2 : ((((((w1.setCell ⟨w.heap.size, 0, none⟩ (.int .i64 t.op)).setCell ⟨w.heap.size, 1, none⟩ (.int .i64 t.va)).setCell ⟨w.heap.size, 2, none⟩ (.int .i64 t.vb)).setCell ⟨w.heap.size, 3, none⟩ (.int .i64 t.dm)).setCell ⟨w.heap.size, 4, none⟩ (.string t.nm)).setCell ⟨w.heap.size, 5, none⟩ (.slice xa t.cnt xc)).cell? ⟨w.heap.size, 2, none⟩ = some (.int .i64 t.vb) := by go_simp
  have g3 : ((((((w1.setCell ⟨w.heap.size, 0, none⟩ (.int .i64 t.op)).setCell ⟨w.heap.size, 1, none⟩ (.int .i64 t.va)).setCell ⟨w.heap.size, 2, none⟩ (.int .i64 t.vb)).setCell ⟨w.heap.size, 3, none⟩ (.int .i64 t.dm)).setCell ⟨w.heap.size, 4, none⟩ (.string t.nm)).setCell ⟨w.heap.size, 5, none⟩ (.slice xa t.cnt xc)).cell? ⟨w.heap.size, 3, none⟩ = some (.int .i64 t.dm) := by go_simp
  have g4 : ((((((w1.setCell ⟨w.heap.size, 0, none⟩ (.int .i64 t.op)).setCell ⟨w.heap.size, 1, none⟩ (.int .i64 t.va)).setCell ⟨w.heap.size, 2, none⟩ (.int .i64 t.vb)).setCell ⟨w.heap.size, 3, none⟩ (.int .i64 t.dm)).setCell ⟨w.heap.size, 4, none⟩ (.string t.nm)).setCell ⟨w.heap.size, 5, none⟩ (.slice xa t.cnt xc)).cell? ⟨w.heap.size, 4, none⟩ = some (.string t.nm) := by go_simp
  have g5 : ((((((w1.setCell ⟨w.heap.size, 0, none⟩ (.int .i64 t.op)).setCell ⟨w.heap.size, 1, none⟩ (.int .i64 t.va)).setCell ⟨w.heap.size, 2, none⟩ (.int .i64 t.vb)).setCell ⟨w.heap.size, 3, none⟩ (.int .i64 t.dm)).setCell ⟨w.heap.size, 4, none⟩ (.string t.nm)).setCell ⟨w.heap.size, 5, none⟩ (.slice xa t.cnt xc)).cell? ⟨w.heap.size, 5, none⟩ = some (.slice xa t.cnt xc) := by go_simp
  refine bodyPost_ret (v := .agg #[.int .i64 t.op, .int .i64 t.va, .int .i64 t.vb, .int .i64 t.dm, .string t.nm, .slice xa t.cnt xc]) ?_ rfl ⟨t, _, rfl, kids_put6 HK.out (g := w.heap.size) (fun q hq => by simp at hq; omega) _ _ _ _ _ _, hz2, rel_put6 R1.out (Nat.le_refl _) _ _ _ _ _ _⟩
  simp [results, Tryd.results12, go_sem, g0, g1, g2, g3, g4, g5]

/-! Rows of bindings -/
def bndL : List (ByteArray × Int) → List Value
  | [] => []
  | p :: L => .string p.1 :: .int .i64 p.2 :: bndL L
theorem bndL_snoc (L : List (ByteArray × Int)) (p : ByteArray × Int) : bndL (L ++ [p]) = bndL L ++ [.string p.1, .int .i64 p.2] := by
  induction L with
  | nil => rfl
  | cons q L ih => simp only [List.cons_append, bndL, ih]
theorem bndL_at {p : ByteArray × Int} : ∀ {L : List (ByteArray × Int)} {i : Nat}, L[i]? = some p → (bndL L)[i * 2]? = some (.string p.1) ∧ (bndL L)[i * 2 + 1]? = some (.int .i64 p.2) := by
  intro L
  induction L with
  | nil => intro i h; simp at h
  | cons q L ih =>
    intro i h
    cases i with
    | zero => simp at h; subst h; exact ⟨rfl, rfl⟩
    | succ i =>
      simp only [List.getElem?_cons_succ] at h
      obtain ⟨h1, h2⟩ := ih h
      simp only [bndL]
      rw [show (i + 1) * 2 = i * 2 + 1 + 1 by omega, show i * 2 + 1 + 1 + 1 = (i * 2 + 1) + 1 + 1 by omega]
      simp only [List.getElem?_cons_succ]
      exact ⟨h1, h2⟩
def nmO (L : List (ByteArray × Int)) (i : Nat) : ByteArray := ((L[i]?).map Prod.fst).getD ⟨#[]⟩
def dmO (L : List (ByteArray × Int)) (i : Nat) : Int := ((L[i]?).map Prod.snd).getD 0
theorem nmO_at {L : List (ByteArray × Int)} {i : Nat} {p : ByteArray × Int} (h : L[i]? = some p) : nmO L i = p.1 ∧ dmO L i = p.2 := by unfold nmO dmO; rw [h]; exact ⟨rfl, rfl⟩
def BndOk (p : ByteArray × Int) : Prop := p.1.size ≤ 140737488355328 ∧ -9223372036854775808 ≤ p.2 ∧ p.2 ≤ 9223372036854775807
theorem own_env {w : World} {base k rc : Nat} {T : TypeId} {ra : Option Addr} {L : List (ByteArray × Int)} (hO : w.ownsRow base T 2 (.slice ra k rc) k (bndL L)) (hl : L.length = k) (hok : ∀ p ∈ L, BndOk p) : EnvAt w k (nmO L) (dmO L) ra := fun h0 => by
  obtain ⟨g, cap, hv, hb, hg⟩ := World.ownsRow.form hO h0
  simp only [Value.slice.injEq] at hv
  obtain ⟨rfl, -, rfl⟩ := hv
  refine ⟨g, 0, rfl, hg, fun i hi => ?_⟩
  obtain ⟨p, hp⟩ : ∃ p, L[i]? = some p := ⟨_, List.getElem?_eq_getElem (by omega)⟩
  obtain ⟨h1, h2⟩ := bndL_at hp
  obtain ⟨e1, e2⟩ := nmO_at hp
  have hadd : ∀ j, (⟨g, 0, none⟩ : Addr).add j = ⟨g, 0 + j, none⟩ := fun j => by unfold Addr.add; split <;> simp_all
  have c1 := hO.cells (g := g) rfl _ _ h1
  have c2 := hO.cells (g := g) rfl _ _ h2
  rw [hadd] at c1 c2
  rw [e1, e2]
  exact ⟨c1, c2, hok p (List.mem_of_getElem? hp)⟩
theorem new2 (w : World) (p : ByteArray × Int) (T : TypeId) {g : Nat} (hg : g = w.heap.size) : ∀ (j : Nat) u, [Value.string p.1, .int .i64 p.2][j]? = some u → (w.alloc (.cells #[.string p.1, .int .i64 p.2] T)).cell? ((⟨g, 0, none⟩ : Addr).add j) = some u := by
  subst hg
  intro j u h
  match j with
  | 0 => simp at h; subst h; simp [Addr.add]
  | 1 => simp at h; subst h; simp [Addr.add]
  | j + 2 => simp at h
def BindsRes (m : Nat) (w : World) (e : Ending) (w' : World) : Prop := ∃ (v : Value) (n : Nat) (nm : Nat → ByteArray) (dm : Nat → Int), e = .returned v ∧ BindsIn w' v n nm dm ∧ n ≤ m ∧ Rel w w'
def tabB : Array Value := #[.string ⟨#[97]⟩, .string ⟨#[98]⟩, .string ⟨#[99]⟩, .string ⟨#[100]⟩, .string ⟨#[97, 103, 101]⟩, .string ⟨#[120]⟩]
theorem tabB_ok : ∀ k, k < 6 → ∃ s : ByteArray, tabB[k]? = some (.string s) ∧ s.size ≤ 20 := by
  intro k hk
  rcases (show k = 0 ∨ k = 1 ∨ k = 2 ∨ k = 3 ∨ k = 4 ∨ k = 5 by omega) with rfl | rfl | rfl | rfl | rfl | rfl <;> exact ⟨_, rfl, by decide⟩

set_option maxRecDepth 20000 in
set_option maxHeartbeats 8000000 in
theorem bindings_any (v : Value) (n : Nat) (nm : Nat → ByteArray) (dm : Nat → Int) (mood : Int) (w : World) (hB : BindsIn w v n nm dm) (m0 : -9223372036854775808 ≤ mood) (m1 : mood ≤ 9223372036854775807) : Calls Tryd.prog 13 #[v, .int .i64 mood] w (BindsRes 8 w) := by
  obtain ⟨ad, cap, rfl, hn, hE⟩ := hB
  have HE := Lib.hid hE
  clear hE
  unfold BindsRes
  have hi3 : (Tryd.prog.info? 42).map (fun i => (i.zero, i.size, i.bytes)) = some (some (.agg #[.string ByteArray.empty, .int .i64 0]), 2, 24) := by kernel_rfl
  obtain ⟨i0, hi, hx⟩ := Option.map_eq_some_iff.1 hi3
  simp only [Prod.mk.injEq] at hx
  obtain ⟨hz0, hz1, hz2⟩ := hx
  have HI1 := Lib.hid hi
  have HZ0 := Lib.hid hz0
  have HZ1 := Lib.hid hz1
  have HZ2 := Lib.hid hz2
  clear hi3 hi hz0 hz1 hz2
  go_enter Tryd.func13, Tryd.ntmps13
  go_wp2_with fail
  have HT : Hid (∀ k, k < 6 → ∃ s : ByteArray, (w.alloc (.cells tabB 9)).cell? ⟨w.heap.size, k, none⟩ = some (.string s) ∧ s.size ≤ 20) := fun k hk => by
    obtain ⟨s, h1, h2⟩ := tabB_ok k hk
    exact ⟨s, by simpa using h1, h2⟩
  go_loopw [6, 7] (fun ov i wx => ∃ (k : Nat) (L' : List (ByteArray × Int)) (ra : Option Addr) (rc : Nat), Hid (L'.length = k) ∧ k ≤ n ∧ k ≤ 8 ∧ i = .int .i64 k ∧ ov = .slice ra k rc ∧ Hid (∀ p ∈ L', BndOk p) ∧ Hid (wx.ownsRow (w.heap.size + 1) 42 2 (.slice ra k rc) k (bndL L')) ∧ Hid (Rel (w.alloc (.cells tabB 9)) wx)) (fun _ i _ => 8 - (intOf i).toNat)
  case atStart => exact ⟨0, [], none, 0, rfl, by omega, by omega, rfl, rfl, fun p h => by simp at h, World.ownsRow_nil _ _ _ _, Rel.refl _⟩
  case round =>
    obtain ⟨k, L', ra, rc, hLk, hkn, hk8, rfl, rfl, hOk, hO, hR⟩ := hrel
    have RW : Hid (Rel w wr) := ((Rel.refl w).alloc _).trans hR.out
    have rsz := hR.out.size
    simp only [World.size_alloc] at rsz
    by_cases hlt : k < n ∧ k < 8
    · obtain ⟨l1, l2⟩ := hlt
      have e1 : decide ((k : Int) < (n : Int)) = true := decide_eq_true (by omega)
      have e2 : decide ((k : Int) < 8) = true := decide_eq_true (by omega)
      obtain ⟨g, off, rfl, hg, hc⟩ := HE.out (by omega)
      obtain ⟨q0, q1, q2, q3, q4⟩ := hc k l1
      obtain ⟨s, hs⟩ : ∃ s, nm k = s := ⟨_, rfl⟩
      obtain ⟨z, hz⟩ : ∃ z, dm k = z := ⟨_, rfl⟩
      rw [hs] at q0 q2
      rw [hz] at q1 q3 q4
      have c0 := RW.out.cell q0
      have c1 := RW.out.cell q1
      have ws : IntKind.i64.wrap ((s.size : Int) + (k : Int)) = (s.size : Int) + (k : Int) := IntWalk.i64_in _ ⟨by omega, by omega⟩
      have P1 := Lib.hid fun w => pick_any ((s.size : Int) + (k : Int)) 6 w (by omega) (by omega) (by decide) (by decide)
      obtain ⟨j, hj, hj6⟩ : ∃ j : Nat, ((s.size : Int) + (k : Int)) % 6 = j ∧ j < 6 := ⟨(((s.size : Int) + (k : Int)) % 6).toNat, by omega, by omega⟩
      rw [hj] at P1
      have hj6i : (j : Int) < 6 := by omega
      obtain ⟨t, ht, hts⟩ := HT.out j hj6
      have c2 := hR.out.cell ht
      have P2 := Lib.hid fun w => pick_any z 4 w (by omega) (by omega) (by decide) (by decide)
      obtain ⟨y, hy, hy0, hy4⟩ : ∃ y, z % 4 = y ∧ 0 ≤ y ∧ y < 4 := ⟨_, rfl, by omega, by omega⟩
      rw [hy] at P2
      have wy : IntKind.i64.wrap (1 + y) = 1 + y := IntWalk.i64_in _ ⟨by omega, by omega⟩
      clear q0 q1 hs hz hc ht hj hy
      go_wp2_with fail
      refine wp_region_calm (fun M w' => M.getD 19 false = false → w'.cell? ⟨g, off + k * 2, none⟩ = some (.string s) ∧ w'.cell? ⟨g, off + k * 2 + 1, none⟩ = some (.int .i64 z) ∧ w'.cell? ⟨w.heap.size, j, none⟩ = some (.string t)) (fun i => i == 19) [0, 1, 2, 3, 4, 5, 6, 7, 8, 9, 10, 11, 12, 13, 14, 15, 16, 17] 2 (by kernel_rfl) (by kernel_rfl) ?hst ?hS0 (fun w0 h0 => ?_)
      case hst => exact fun _ _ _ h r hM => ⟨r.cell (h hM).1, r.cell (h hM).2.1, r.cell (h hM).2.2⟩
      case hS0 => exact fun _ => ⟨c0, c1, c2⟩
      iterate 9
        refine wpCalm_go rfl (by kernel_rfl) (fun K hK => ?_)
        apply Exists.intro
        refine ⟨fun M w hM hS => ?_, hK _ ?_⟩
        · have hS := hS (hM 19 (by kernel_rfl))
          have d0 := hS.1
          have d1 := hS.2.1
          have d2 := hS.2.2
          unfold calmAt
          go_simp
          exact ⟨rfl, Rel.refl _⟩
        clear hK K
      refine wpCalm_go rfl (by kernel_rfl) (fun K hK => ?_)
      apply Exists.intro
      refine ⟨fun M w hM hS => ?_, hK _ ?_⟩
      · have hS := hS (hM 19 (by kernel_rfl))
        have d0 := hS.1
        have d1 := hS.2.1
        have d2 := hS.2.2
        unfold calmAt
        go_simp
        with_reducible refine (P1.out _).mono ?_
        rintro e w1 ⟨rfl, rfl⟩
        exact ⟨rfl, Rel.refl _⟩
      clear hK K
      iterate 8
        refine wpCalm_go rfl (by kernel_rfl) (fun K hK => ?_)
        apply Exists.intro
        refine ⟨fun M w hM hS => ?_, hK _ ?_⟩
        · have hS := hS (hM 19 (by kernel_rfl))
          have d0 := hS.1
          have d1 := hS.2.1
          have d2 := hS.2.2
          unfold calmAt
          go_simp
          exact ⟨rfl, Rel.refl _⟩
        clear hK K
      refine wpCalm_nil ?_
      have kz3 := h0.size
      (try simp only [World.size_alloc, World.size_setCell, World.size_drew] at kz3)
      have H3 := Lib.hid h0
      clear h0
      refine wpAnyR_ready (rs := [18]) (by kernel_rfl) (by simp) (AllR.cons rfl (fun w4 h4 K' hK' => ?_) AllR.nil)
      have kz4 := h4.size
      (try simp only [World.size_alloc, World.size_setCell, World.size_drew] at kz4)
      have H4 := Lib.hid h4
      clear h4
      go_simp
      refine hK'.out _ _ (fun _ => ⟨((Rel.refl _).alloc _).cell ((H3.out.trans H4.out).cell c0), ((Rel.refl _).alloc _).cell ((H3.out.trans H4.out).cell c1), ((Rel.refl _).alloc _).cell ((H3.out.trans H4.out).cell c2)⟩) ?_
      clear hK' K'
      refine wpAnyR_ready (rs := [19]) (by kernel_rfl) (by simp) (AllR.cons rfl (fun w5 h5 K' hK' => ?_) AllR.nil)
      have q := keep2 h5 (b := w4.heap.size) (by first | (simp; done) | (simp; omega) | omega)
      have kc5_0_0 := q.1
      have kc5_0_1 := q.2.1
      have kf5_0_0 := q.2.2.1
      have kf5_0_1 := q.2.2.2.1
      have kl5_0 := q.2.2.2.2.1
      have kn5_0 := q.2.2.2.2.2.1
      have km5_0 := q.2.2.2.2.2.2
      clear q
      have kz5 := h5.size
      (try simp only [World.size_alloc, World.size_setCell, World.size_drew] at kz5)
      have H5 := Lib.hid h5
      clear h5
      go_simp
      refine hK'.out _ _ (fun h => absurd (h.symm.trans (by kernel_rfl : _ = true)) (by simp)) ?_
      clear hK' K'
      refine wpAnyR_end (by kernel_rfl) (fun w6 h6 => ?_)
      (try simp only [Act.put, List.setIfInBounds_toArray, List.set_cons_zero, List.set_cons_succ])
      have q := keep2 h6 (b := w4.heap.size) (by first | (simp; done) | (simp; omega) | omega)
      have kc6_0_0 := q.1
      have kc6_0_1 := q.2.1
      have kf6_0_0 := q.2.2.1
      have kf6_0_1 := q.2.2.2.1
      have kl6_0 := q.2.2.2.2.1
      have kn6_0 := q.2.2.2.2.2.1
      have km6_0 := q.2.2.2.2.2.2
      clear q
      have kz6 := h6.size
      (try simp only [World.size_alloc, World.size_setCell, World.size_drew] at kz6)
      have H6 := Lib.hid h6
      clear h6
      have R6 : Hid (Rel wr w6) := by (show Rel _ _; repeat (first | with_reducible exact Rel.refl _ | with_reducible refine Rel.alloc ?_ _ | with_reducible refine Rel.setCell ?_ (by first | (simp; done) | (simp; omega)) _ | with_reducible refine Rel.drew ?_ | with_reducible refine Rel.trans ?_ H6.out | with_reducible refine Rel.trans ?_ H5.out | with_reducible refine Rel.trans ?_ H4.out | with_reducible refine Rel.trans ?_ H3.out | with_reducible refine Rel.trans ?_ H2.out | with_reducible refine Rel.trans ?_ H1.out | with_reducible refine Rel.trans ?_ H0.out))
      clear c0 c1 c2
      by_cases hm : mood.tmod 7 = 0
      · have em : (mood.tmod 7 == 0) = true := by simpa using hm
        clear hm
        have hb4 : wr.heap.size ≤ w4.heap.size := by omega
        have R7 : Hid (Rel wr w6) := R6
        have OW := Lib.hid (own_rel hO.out R7.out)
        have O7 := Lib.hid (own_rel OW.out ((Rel.refl _).alloc (.cells #[.string t, .int .i64 (z)] 42)))
        go_wp2_with (at_builtin; refine wpList_append_lies _ rfl _ _ 29 rfl (w.heap.size + 1) 42 i0 (.agg #[.string ByteArray.empty, .int .i64 0]) 2 24 Tryd.underlying29 HI1.out HZ0.out HZ1.out HZ2.out rfl (by decide) (.slice ra k rc) k (bndL L') rfl O7.out ⟨w6.heap.size, 0, none⟩ 1 1 [.string t, .int .i64 (z)] rfl rfl ?c1 ?c2 (by decide) ?c3 ?c4 ?c5 (w6.heap.size + 1) ?c6 ?_)
        case c1 => exact new2 w6 (t, z) 42 rfl
        case c2 => intro u hu; simp at hu; rcases hu with rfl | rfl <;> rfl
        case c3 => unfold maxLen; omega
        case c4 => omega
        case c5 => simp; omega
        case c6 => simp
        intro g2 cap2 w8 hown hgrow hat' hlt'
        have rb := hO.out.lt
        have R8 : Hid (Rel (w.alloc (.cells tabB 9)) w8) := Below.grown ((hR.out.trans R7.out).alloc _) hgrow (by simp; omega) (fun q hq => by have := (rb q hq).1; simpa using this)
        have O8 := Lib.hid hown
        clear hown hgrow hat'
        go_wp2
        go_roundw
        case rel => exact ⟨k + 1, L' ++ [(t, z)], some ⟨g2, 0, none⟩, cap2, (by show _ = _; rw [List.length_append, hLk.out]; rfl), by omega, by omega, by go_num, rfl, (by intro p hp; rcases List.mem_append.1 hp with h | h; exact hOk.out p h; simp at h; subst h; exact ⟨by dsimp only; omega, by dsimp only; omega, by dsimp only; omega⟩), (by show World.ownsRow _ _ _ _ _ _ _; rw [bndL_snoc]; exact O8.out), R8⟩
        case measure => simp [intOf]; omega
      · have em : (mood.tmod 7 == 0) = false := by simpa using hm
        clear hm
        go_wp2_with fail
        refine (P2.out _).mono ?_
        rintro e w7 ⟨rfl, rfl⟩
        have c61 : w6.cell? ⟨w4.heap.size, 1, none⟩ = some (.int .i64 z) := by go_simp
        have c71 : (w6.setCell ⟨w4.heap.size, 1, none⟩ (.int .i64 (1 + y))).cell? ⟨w4.heap.size, 1, none⟩ = some (.int .i64 (1 + y)) := World.cell?_setCell_same _ _ _ c61

        have hb4 : wr.heap.size ≤ w4.heap.size := by omega
        have R7 : Hid (Rel wr (w6.setCell ⟨w4.heap.size, 1, none⟩ (.int .i64 (1 + y)))) := R6.out.setCell (by simpa using hb4) _
        have OW := Lib.hid (own_rel hO.out R7.out)
        have O7 := Lib.hid (own_rel OW.out ((Rel.refl _).alloc (.cells #[.string t, .int .i64 (1 + y)] 42)))
        go_wp2_with (at_builtin; refine wpList_append_lies _ rfl _ _ 29 rfl (w.heap.size + 1) 42 i0 (.agg #[.string ByteArray.empty, .int .i64 0]) 2 24 Tryd.underlying29 HI1.out HZ0.out HZ1.out HZ2.out rfl (by decide) (.slice ra k rc) k (bndL L') rfl O7.out ⟨w6.heap.size, 0, none⟩ 1 1 [.string t, .int .i64 (1 + y)] rfl rfl ?c1 ?c2 (by decide) ?c3 ?c4 ?c5 (w6.heap.size + 1) ?c6 ?_)
        case c1 => exact new2 (w6.setCell ⟨w4.heap.size, 1, none⟩ (.int .i64 (1 + y))) (t, 1 + y) 42 (by simp [World.setCell])
        case c2 => intro u hu; simp at hu; rcases hu with rfl | rfl <;> rfl
        case c3 => unfold maxLen; omega
        case c4 => omega
        case c5 => simp; omega
        case c6 => simp
        intro g2 cap2 w8 hown hgrow hat' hlt'
        have rb := hO.out.lt
        have R8 : Hid (Rel (w.alloc (.cells tabB 9)) w8) := Below.grown ((hR.out.trans R7.out).alloc _) hgrow (by simp; omega) (fun q hq => by have := (rb q hq).1; simpa using this)
        have O8 := Lib.hid hown
        clear hown hgrow hat'
        go_wp2
        go_roundw
        case rel => exact ⟨k + 1, L' ++ [(t, 1 + y)], some ⟨g2, 0, none⟩, cap2, (by show _ = _; rw [List.length_append, hLk.out]; rfl), by omega, by omega, by go_num, rfl, (by intro p hp; rcases List.mem_append.1 hp with h | h; exact hOk.out p h; simp at h; subst h; exact ⟨by dsimp only; omega, by dsimp only; omega, by dsimp only; omega⟩), (by show World.ownsRow _ _ _ _ _ _ _; rw [bndL_snoc]; exact O8.out), R8⟩
        case measure => simp [intOf]; omega
    · have hkk : k = n ∧ k < 8 ∨ k = 8 ∧ k < n ∨ k = 8 ∧ k = n := by omega
      rcases hkk with ⟨rfl, h8⟩ | ⟨rfl, hn8⟩ | ⟨rfl, rfl⟩
      · have e1 : decide ((k : Int) < (k : Int)) = false := decide_eq_false (by omega)
        have hE2 := own_env hO.out hLk.out hOk.out
        go_wp2
        go_ret
        exact ⟨_, _, _, _, rfl, ⟨_, _, rfl, by omega, hE2⟩, by omega, RW.out⟩
      · have e1 : decide ((8 : Int) < (n : Int)) = true := decide_eq_true (by omega)
        have hE2 := own_env hO.out hLk.out hOk.out
        go_wp2
        go_ret
        exact ⟨_, _, _, _, rfl, ⟨_, _, rfl, by omega, hE2⟩, by omega, RW.out⟩
      · have e1 : decide ((8 : Int) < (8 : Int)) = false := decide_eq_false (by omega)
        have hE2 := own_env hO.out hLk.out hOk.out
        go_wp2
        go_ret
        exact ⟨_, _, _, _, rfl, ⟨_, _, rfl, by omega, hE2⟩, by omega, RW.out⟩

end Go.Proofs.YtnhmebhmlbofgaaDoor

/- Bundle of texts: each says at its head what it proves; no conditions but those printed. -/
import Derived.Test.YtlmclkaighlfaaaGreatDoorSB21
namespace Go.Proofs.YtlmclkaighlfaaaGreatDoor
set_option maxHeartbeats 16000000
open Go.RowKit Cal Str Tok Frac Txt Tree
attribute [local go_sem] calmUpon
set_option linter.unusedVariables false
set_option linter.unusedSimpArgs false
theorem vclC_any (k0 l0 : Int) (c : Int) (B : Nat) (w : World) (hx : w.cell? ⟨B, 0, none⟩ = some (.int .i64 c)) :
  Calls Tryz.prog 72 #[.agg #[.int .i64 k0, .int .i64 l0], .pointer (some ⟨B, 0, none⟩)] w (BRes (k0 == c) w) := by
 have hb : B < w.heap.size := World.block_lt_of_cell? _ _ hx;have hne : ¬ B = w.heap.size := by omega
 unfold BRes;go_enter Tryz.func72, Tryz.ntmps72;go_wp2;go_ret;exact ⟨rfl, by (show Rel _ _; repeat (first | with_reducible (first | exact qR _ | refine qA ?_ _ | refine qD ?_ | refine qT ?_ H0.out) | with_reducible refine qS ?_ (by first | (simp; done) | (simp; omega)) _))⟩
theorem vixC_any (L : List (Int × Int)) (n k : Nat) (hn : L.length = n) (hk : k ≤ n) (h5 : n ≤ 100000) (ad : Option Addr) (cap : Nat) (c : Int) (B : Nat) (w : World) (hr : Hid (0 < n → ∃ g off, ad = some ⟨g, off, none⟩ ∧ g < w.heap.size ∧ True ∧ ∀ i p, L[i]? = some p → ∀ j u, (crC p)[j]? = some u → w.cell? ⟨g, off + i * 2 + j, none⟩ = some u)) (hx : Hid (w.cell? ⟨B, 0, none⟩ = some (.int .i64 c))) :
  Calls Tryz.prog 146 #[.slice ad k cap, .func (.func 72) #[] #[.pointer (some ⟨B, 0, none⟩)]] w fun e w' => ∃ r : Int, e = .returned (.int .i64 r) ∧ decide (0 ≤ r) = anK (fun i => kdO L i == c) k ∧ Rel w w' := by
 have HGET : Hid (∀ i, i < n → ∃ p, L[i]? = some p) := fun i hi => get_some (by omega)
 clear hn;go_enter Tryz.func146, Tryz.ntmps146;go_wp2_with fail
 go_loopw [8] (fun i wx => ∃ j : Nat, j ≤ k ∧ i = .int .i64 j ∧ Hid (∀ q, q < j → (kdO L q == c) = false) ∧ Hid (Rel w wx)) (fun i _ => k - (intOf i).toNat)
 case atStart => exact ⟨0, by omega, rfl, fun q hq => by omega, Rel.refl _⟩
 case round =>
  obtain ⟨j, hkn, rfl, hA, hR⟩ := hrel;by_cases hlt : j < k
  ·obtain ⟨g, off, rfl, hg, -, hc⟩ := hr.out (by omega);obtain ⟨p, hp⟩ := HGET.out j (by omega);have hf : kdO L j = p.1 := kd_at hp;obtain ⟨k0, l0⟩ := p;have c0 := hR.out.cell (hc j _ hp 0 _ rfl);have c1 := hR.out.cell (hc j _ hp 1 _ rfl);simp only [Nat.add_zero] at c0;simp only at hf;have hg2 := hR.out.lt hg;have C := Hj (vclC_any k0 l0 c B wr (hR.out.cell hx.out));unfold BRes at C;obtain ⟨Z, hZ⟩ : ∃ Z, (k0 == c) = Z := ⟨_, rfl⟩;rw [hZ] at C;rw [← hf] at hZ;have HZ := Hj hZ;clear hc hp hf hZ;go_wp2_with fail;refine C.out.mono ?_;rintro e w1 ⟨rfl, h1⟩;have H1 := Hj h1;clear h1;cases Z
   ·have fin : Hid (∀ q, q < j + 1 → (kdO L q == c) = false) := fun q hq => by
     rcases Nat.lt_or_ge q j with h | h
     ·exact hA.out q h
     ·rw [show q = j by omega]; exact HZ.out
    go_wp2
    go_roundw
    case rel => exact ⟨j + 1, by omega, by go_num, fin, hR.out.trans H1.out⟩
    case measure => simp [intOf]; omega
   ·have fin : Hid (decide (0 ≤ (j : Int)) = anK (fun i => kdO L i == c) k) := by
     show _ = _
     rw [anK_hit hlt HZ.out]; simp
    go_wp2;go_ret;exact ⟨_, rfl, fin.out, hR.out.trans H1.out⟩
  ·have : j = k := by omega
   subst this;go_wp2;go_ret;exact ⟨-1, rfl, by rw [anK_none hA.out]; rfl, hR.out⟩
theorem vcoC_any (L : List (Int × Int)) (n k : Nat) (hn : L.length = n) (hk : k ≤ n) (h5 : n ≤ 100000) (ad : Option Addr) (cap : Nat) (c : Int) (B : Nat) (w : World) (hr : Hid (0 < n → ∃ g off, ad = some ⟨g, off, none⟩ ∧ g < w.heap.size ∧ True ∧ ∀ i p, L[i]? = some p → ∀ j u, (crC p)[j]? = some u → w.cell? ⟨g, off + i * 2 + j, none⟩ = some u)) (hx : Hid (w.cell? ⟨B, 0, none⟩ = some (.int .i64 c))) :
  Calls Tryz.prog 71 #[.slice ad k cap, .func (.func 72) #[] #[.pointer (some ⟨B, 0, none⟩)]] w (BRes (anK (fun i => kdO L i == c) k) w) := by
 have C := Hj (vixC_any L n k hn hk h5 ad cap c B w hr hx);unfold BRes;clear hn;go_enter Tryz.func71, Tryz.ntmps71;go_wp2_with fail;refine C.out.mono ?_;rintro e w1 ⟨r, rfl, hr, h1⟩;have HR := Hj hr;clear hr;go_wp2;go_ret;exact ⟨ret_b2 HR.out, h1⟩
theorem vclG_any (k0 : Int) (t u : Ex) (xa ya : Option Addr) (xn xc yn yc : Nat) (c : Int) (B : Nat) (w : World) (hx : w.cell? ⟨B, 0, none⟩ = some (.int .i64 c)) :
  Calls Tryz.prog 74 #[.agg #[.int .i64 k0, .int .i64 t.op, .int .i64 t.va, .int .i64 t.vb, .int .i64 t.dm, .string t.nm, .slice xa xn xc, .int .i64 u.op, .int .i64 u.va, .int .i64 u.vb, .int .i64 u.dm, .string u.nm, .slice ya yn yc], .pointer (some ⟨B, 0, none⟩)] w (BRes (k0 == c) w) := by
 have hb : B < w.heap.size := World.block_lt_of_cell? _ _ hx;have hne : ¬ B = w.heap.size := by omega
 unfold BRes;go_enter Tryz.func74, Tryz.ntmps74;go_wp2;go_ret;exact ⟨rfl, by (show Rel _ _; repeat (first | with_reducible (first | exact qR _ | refine qA ?_ _ | refine qD ?_ | refine qT ?_ H0.out) | with_reducible refine qS ?_ (by first | (simp; done) | (simp; omega)) _))⟩
theorem vixG_any (L : List (Int × (Ex × Value) × (Ex × Value))) (n k : Nat) (hn : L.length = n) (hk : k ≤ n) (h5 : n ≤ 100000) (ad : Option Addr) (cap : Nat) (c : Int) (B : Nat) (w : World) (hr : Hid (0 < n → ∃ g off, ad = some ⟨g, off, none⟩ ∧ g < w.heap.size ∧ True ∧ ∀ i p, L[i]? = some p → ∀ j u, (grC p)[j]? = some u → w.cell? ⟨g, off + i * 13 + j, none⟩ = some u)) (hs : Hid (∀ (i : Nat) (p : (Int × (Ex × Value) × (Ex × Value))), L[i]? = some p → (∃ a n c, p.2.1.2 = .slice a n c) ∧ ∃ a n c, p.2.2.2 = .slice a n c)) (hx : Hid (w.cell? ⟨B, 0, none⟩ = some (.int .i64 c))) :
  Calls Tryz.prog 147 #[.slice ad k cap, .func (.func 74) #[] #[.pointer (some ⟨B, 0, none⟩)]] w fun e w' => ∃ r : Int, e = .returned (.int .i64 r) ∧ decide (0 ≤ r) = anK (fun i => gbO L i == c) k ∧ Rel w w' := by
 have HGET : Hid (∀ i, i < n → ∃ p, L[i]? = some p) := fun i hi => get_some (by omega)
 clear hn;go_enter Tryz.func147, Tryz.ntmps147;go_wp2_with fail
 go_loopw [8] (fun i wx => ∃ j : Nat, j ≤ k ∧ i = .int .i64 j ∧ Hid (∀ q, q < j → (gbO L q == c) = false) ∧ Hid (Rel w wx)) (fun i _ => k - (intOf i).toNat)
 case atStart => exact ⟨0, by omega, rfl, fun q hq => by omega, Rel.refl _⟩
 case round =>
  obtain ⟨j, hkn, rfl, hA, hR⟩ := hrel;by_cases hlt : j < k
  ·obtain ⟨g, off, rfl, hg, -, hc⟩ := hr.out (by omega);obtain ⟨p, hp⟩ := HGET.out j (by omega);have hf : gbO L j = p.1 := (gr_at hp).1;obtain ⟨k0, ⟨t, x⟩, ⟨u, y⟩⟩ := p;obtain ⟨⟨xa, xn, xc, e1⟩, ⟨ya, yn, yc, e2⟩⟩ := hs.out j _ hp;simp only at e1 e2;subst e1 e2;have c0 := hR.out.cell (hc j _ hp 0 _ rfl);have c1 := hR.out.cell (hc j _ hp 1 _ rfl);have c2 := hR.out.cell (hc j _ hp 2 _ rfl);have c3 := hR.out.cell (hc j _ hp 3 _ rfl);have c4 := hR.out.cell (hc j _ hp 4 _ rfl);have c5 := hR.out.cell (hc j _ hp 5 _ rfl);have c6 := hR.out.cell (hc j _ hp 6 _ rfl);have c7 := hR.out.cell (hc j _ hp 7 _ rfl);have c8 := hR.out.cell (hc j _ hp 8 _ rfl);have c9 := hR.out.cell (hc j _ hp 9 _ rfl);have c10 := hR.out.cell (hc j _ hp 10 _ rfl);have c11 := hR.out.cell (hc j _ hp 11 _ rfl);have c12 := hR.out.cell (hc j _ hp 12 _ rfl);simp only [Nat.add_zero] at c0;simp only at hf;have hg2 := hR.out.lt hg;have C := Hj (vclG_any k0 t u xa ya xn xc yn yc c B wr (hR.out.cell hx.out));unfold BRes at C;obtain ⟨Z, hZ⟩ : ∃ Z, (k0 == c) = Z := ⟨_, rfl⟩;rw [hZ] at C;rw [← hf] at hZ;have HZ := Hj hZ;clear hc hp hf hZ;go_wp2_with fail;refine C.out.mono ?_;rintro e w1 ⟨rfl, h1⟩;have H1 := Hj h1;clear h1;cases Z
   ·have fin : Hid (∀ q, q < j + 1 → (gbO L q == c) = false) := fun q hq => by
     rcases Nat.lt_or_ge q j with h | h
     ·exact hA.out q h
     ·rw [show q = j by omega]; exact HZ.out
    go_wp2
    go_roundw
    case rel => exact ⟨j + 1, by omega, by go_num, fin, hR.out.trans H1.out⟩
    case measure => simp [intOf]; omega
   ·have fin : Hid (decide (0 ≤ (j : Int)) = anK (fun i => gbO L i == c) k) := by
     show _ = _
     rw [anK_hit hlt HZ.out]; simp
    go_wp2;go_ret;exact ⟨_, rfl, fin.out, hR.out.trans H1.out⟩
  ·have : j = k := by omega
   subst this;go_wp2;go_ret;exact ⟨-1, rfl, by rw [anK_none hA.out]; rfl, hR.out⟩
theorem vcoG_any (L : List (Int × (Ex × Value) × (Ex × Value))) (n k : Nat) (hn : L.length = n) (hk : k ≤ n) (h5 : n ≤ 100000) (ad : Option Addr) (cap : Nat) (c : Int) (B : Nat) (w : World) (hr : Hid (0 < n → ∃ g off, ad = some ⟨g, off, none⟩ ∧ g < w.heap.size ∧ True ∧ ∀ i p, L[i]? = some p → ∀ j u, (grC p)[j]? = some u → w.cell? ⟨g, off + i * 13 + j, none⟩ = some u)) (hs : Hid (∀ (i : Nat) (p : (Int × (Ex × Value) × (Ex × Value))), L[i]? = some p → (∃ a n c, p.2.1.2 = .slice a n c) ∧ ∃ a n c, p.2.2.2 = .slice a n c)) (hx : Hid (w.cell? ⟨B, 0, none⟩ = some (.int .i64 c))) :
  Calls Tryz.prog 73 #[.slice ad k cap, .func (.func 74) #[] #[.pointer (some ⟨B, 0, none⟩)]] w (BRes (anK (fun i => gbO L i == c) k) w) := by
 have C := Hj (vixG_any L n k hn hk h5 ad cap c B w hr hs hx);unfold BRes;clear hn;go_enter Tryz.func73, Tryz.ntmps73;go_wp2_with fail;refine C.out.mono ?_;rintro e w1 ⟨r, rfl, hr, h1⟩;have HR := Hj hr;clear hr;go_wp2;go_ret;exact ⟨ret_b2 HR.out, h1⟩
theorem vclR_any (k0 : Int) (t : Ex) (xa : Option Addr) (xn xc : Nat) (c : Int) (B : Nat) (w : World) (hx : w.cell? ⟨B, 0, none⟩ = some (.int .i64 c)) :
  Calls Tryz.prog 77 #[.agg #[.int .i64 k0, .int .i64 t.op, .int .i64 t.va, .int .i64 t.vb, .int .i64 t.dm, .string t.nm, .slice xa xn xc], .pointer (some ⟨B, 0, none⟩)] w (BRes (k0 == c) w) := by
 have hb : B < w.heap.size := World.block_lt_of_cell? _ _ hx;have hne : ¬ B = w.heap.size := by omega
 unfold BRes;go_enter Tryz.func77, Tryz.ntmps77;go_wp2;go_ret;exact ⟨rfl, by (show Rel _ _; repeat (first | with_reducible (first | exact qR _ | refine qA ?_ _ | refine qD ?_ | refine qT ?_ H0.out) | with_reducible refine qS ?_ (by first | (simp; done) | (simp; omega)) _))⟩
theorem vixR_any (L : List (Int × (Ex × Value))) (n k : Nat) (hn : L.length = n) (hk : k ≤ n) (h5 : n ≤ 100000) (ad : Option Addr) (cap : Nat) (c : Int) (B : Nat) (w : World) (hr : Hid (0 < n → ∃ g off, ad = some ⟨g, off, none⟩ ∧ g < w.heap.size ∧ True ∧ ∀ i p, L[i]? = some p → ∀ j u, (reC p)[j]? = some u → w.cell? ⟨g, off + i * 7 + j, none⟩ = some u)) (hs : Hid (∀ (i : Nat) (p : (Int × (Ex × Value))), L[i]? = some p → ∃ a n c, p.2.2 = .slice a n c)) (hx : Hid (w.cell? ⟨B, 0, none⟩ = some (.int .i64 c))) :
  Calls Tryz.prog 148 #[.slice ad k cap, .func (.func 77) #[] #[.pointer (some ⟨B, 0, none⟩)]] w fun e w' => ∃ r : Int, e = .returned (.int .i64 r) ∧ decide (0 ≤ r) = anK (fun i => rbO L i == c) k ∧ Rel w w' := by
 have HGET : Hid (∀ i, i < n → ∃ p, L[i]? = some p) := fun i hi => get_some (by omega)
 clear hn;go_enter Tryz.func148, Tryz.ntmps148;go_wp2_with fail
 go_loopw [8] (fun i wx => ∃ j : Nat, j ≤ k ∧ i = .int .i64 j ∧ Hid (∀ q, q < j → (rbO L q == c) = false) ∧ Hid (Rel w wx)) (fun i _ => k - (intOf i).toNat)
 case atStart => exact ⟨0, by omega, rfl, fun q hq => by omega, Rel.refl _⟩
 case round =>
  obtain ⟨j, hkn, rfl, hA, hR⟩ := hrel;by_cases hlt : j < k
  ·obtain ⟨g, off, rfl, hg, -, hc⟩ := hr.out (by omega);obtain ⟨p, hp⟩ := HGET.out j (by omega);have hf : rbO L j = p.1 := (re_at hp).1;obtain ⟨k0, ⟨t, x⟩⟩ := p;obtain ⟨xa, xn, xc, e1⟩ := hs.out j _ hp;simp only at e1;subst e1;have c0 := hR.out.cell (hc j _ hp 0 _ rfl);have c1 := hR.out.cell (hc j _ hp 1 _ rfl);have c2 := hR.out.cell (hc j _ hp 2 _ rfl);have c3 := hR.out.cell (hc j _ hp 3 _ rfl);have c4 := hR.out.cell (hc j _ hp 4 _ rfl);have c5 := hR.out.cell (hc j _ hp 5 _ rfl);have c6 := hR.out.cell (hc j _ hp 6 _ rfl);simp only [Nat.add_zero] at c0;simp only at hf;have hg2 := hR.out.lt hg;have C := Hj (vclR_any k0 t xa xn xc c B wr (hR.out.cell hx.out));unfold BRes at C;obtain ⟨Z, hZ⟩ : ∃ Z, (k0 == c) = Z := ⟨_, rfl⟩;rw [hZ] at C;rw [← hf] at hZ;have HZ := Hj hZ;clear hc hp hf hZ;go_wp2_with fail;refine C.out.mono ?_;rintro e w1 ⟨rfl, h1⟩;have H1 := Hj h1;clear h1;cases Z
   ·have fin : Hid (∀ q, q < j + 1 → (rbO L q == c) = false) := fun q hq => by
     rcases Nat.lt_or_ge q j with h | h
     ·exact hA.out q h
     ·rw [show q = j by omega]; exact HZ.out
    go_wp2
    go_roundw
    case rel => exact ⟨j + 1, by omega, by go_num, fin, hR.out.trans H1.out⟩
    case measure => simp [intOf]; omega
   ·have fin : Hid (decide (0 ≤ (j : Int)) = anK (fun i => rbO L i == c) k) := by
     show _ = _
     rw [anK_hit hlt HZ.out]; simp
    go_wp2;go_ret;exact ⟨_, rfl, fin.out, hR.out.trans H1.out⟩
  ·have : j = k := by omega
   subst this;go_wp2;go_ret;exact ⟨-1, rfl, by rw [anK_none hA.out]; rfl, hR.out⟩
theorem vcoR_any (L : List (Int × (Ex × Value))) (n k : Nat) (hn : L.length = n) (hk : k ≤ n) (h5 : n ≤ 100000) (ad : Option Addr) (cap : Nat) (c : Int) (B : Nat) (w : World) (hr : Hid (0 < n → ∃ g off, ad = some ⟨g, off, none⟩ ∧ g < w.heap.size ∧ True ∧ ∀ i p, L[i]? = some p → ∀ j u, (reC p)[j]? = some u → w.cell? ⟨g, off + i * 7 + j, none⟩ = some u)) (hs : Hid (∀ (i : Nat) (p : (Int × (Ex × Value))), L[i]? = some p → ∃ a n c, p.2.2 = .slice a n c)) (hx : Hid (w.cell? ⟨B, 0, none⟩ = some (.int .i64 c))) :
  Calls Tryz.prog 76 #[.slice ad k cap, .func (.func 77) #[] #[.pointer (some ⟨B, 0, none⟩)]] w (BRes (anK (fun i => rbO L i == c) k) w) := by
 have C := Hj (vixR_any L n k hn hk h5 ad cap c B w hr hs hx);unfold BRes;clear hn;go_enter Tryz.func76, Tryz.ntmps76;go_wp2_with fail;refine C.out.mono ?_;rintro e w1 ⟨r, rfl, hr, h1⟩;have HR := Hj hr;clear hr;go_wp2;go_ret;exact ⟨ret_b2 HR.out, h1⟩
theorem vof_any (E : List (ByteArray × Int)) (ea : Option Addr) (ke ec : Nat) (hE : E.length = ke) (hk : ke ≤ 100000) (t : Ex) (xa : Option Addr) (xn xc : Nat) (want : Int) (w : World) (he : EnvAt w ke (nmO E) (dmO E) ea) (h : ExKids t w (.slice xa xn xc)) (hz : t.size ≤ 1000000000) (ht : TabW w) :
  Calls Tryz.prog 75 #[.agg #[.int .i64 t.op, .int .i64 t.va, .int .i64 t.vb, .int .i64 t.dm, .string t.nm, .slice xa xn xc], .slice ea ke ec, .int .i64 want] w (IntRes (ofV E t want) w) := by
 have C := Hj fun w' (r : Rel w w') => Infer_any ea ke ec (nmO E) (dmO E) w' (env_rel he r) (by omega) t _ (kids_rel h r) (by omega) (ht.rel r)
 have HO : Hid (ofV E t want = if (infV t (nmO E) (dmO E) ke).2 = 0 then (if (infV t (nmO E) (dmO E) ke).1 = want then 0 else 6) else (infV t (nmO E) (dmO E) ke).2) := by show _ = _; unfold ofV letD; rw [hE]
 obtain ⟨⟨r1, r2⟩, hr⟩ : ∃ r, infV t (nmO E) (dmO E) ke = r := ⟨_, rfl⟩;rw [hr] at C HO;unfold InfRes at C;unfold IntRes;clear hr he h hE;by_cases h0 : r2 = 0
 ·subst h0;by_cases hw : r1 = want
  ·subst hw;have fin : Hid (ofV E t r1 = 0) := by show _ = _; rw [HO.out]; simp
   clear HO;go_enter Tryz.func75, Tryz.ntmps75;go_wp2_with fail;refine (C.out _ (by show Rel _ _; (show Rel _ _; repeat (first | with_reducible (first | exact qR _ | refine qA ?_ _ | refine qD ?_ | refine qT ?_ H0.out) | with_reducible refine qS ?_ (by first | (simp; done) | (simp; omega)) _)))).mono ?_;rintro e w1 ⟨rfl, h1⟩;have R1 : Hid (Rel w w1) := ((Rel.refl _).alloc _).trans h1;clear h1;go_wp2;go_ret;exact ⟨int_ret fin.out.symm, R1.out⟩
  ·have ew : (r1 == want) = false := by rw [zn]; exact hw
   have fin : Hid (ofV E t want = 6) := by show _ = _; rw [HO.out]; simp [hw]
   clear HO;go_enter Tryz.func75, Tryz.ntmps75;go_wp2_with fail;refine (C.out _ (by show Rel _ _; (show Rel _ _; repeat (first | with_reducible (first | exact qR _ | refine qA ?_ _ | refine qD ?_ | refine qT ?_ H0.out) | with_reducible refine qS ?_ (by first | (simp; done) | (simp; omega)) _)))).mono ?_;rintro e w1 ⟨rfl, h1⟩;have R1 : Hid (Rel w w1) := ((Rel.refl _).alloc _).trans h1;clear h1;go_wp2;go_ret;exact ⟨int_ret fin.out.symm, R1.out⟩
 ·have e0 : (r2 == 0) = false := by rw [zn]; exact h0
  have fin : Hid (ofV E t want = r2) := by show _ = _; rw [HO.out]; simp [h0]
  clear HO;go_enter Tryz.func75, Tryz.ntmps75;go_wp2_with fail;refine (C.out _ (by show Rel _ _; (show Rel _ _; repeat (first | with_reducible (first | exact qR _ | refine qA ?_ _ | refine qD ?_ | refine qT ?_ H0.out) | with_reducible refine qS ?_ (by first | (simp; done) | (simp; omega)) _)))).mono ?_;rintro e w1 ⟨rfl, h1⟩;have R1 : Hid (Rel w w1) := ((Rel.refl _).alloc _).trans h1;clear h1;go_wp2;go_ret;exact ⟨int_ret fin.out.symm, R1.out⟩
theorem needs_any (E : List (ByteArray × Int)) (ea : Option Addr) (ke ec : Nat) (hE : E.length = ke) (hk : ke ≤ 100000) (t : Ex) (xa : Option Addr) (xn xc : Nat) (want : Int) (w : World) (he : EnvAt w ke (nmO E) (dmO E) ea) (h : ExKids t w (.slice xa xn xc)) (hz : t.size ≤ 1000000000) :
  Calls Tryz.prog 79 #[.agg #[.int .i64 t.op, .int .i64 t.va, .int .i64 t.vb, .int .i64 t.dm, .string t.nm, .slice xa xn xc], .slice ea ke ec, .int .i64 want] w (IntRes (ofV E t want) w) := by
 have C := Hj fun w' (r : Rel w w') => rInfer_any ea ke ec (nmO E) (dmO E) w' (env_rel he r) (by omega) t _ (kids_rel h r) (by omega)
 have HO : Hid (ofV E t want = if (infV t (nmO E) (dmO E) ke).2 = 0 then (if (infV t (nmO E) (dmO E) ke).1 = want then 0 else 6) else (infV t (nmO E) (dmO E) ke).2) := by show _ = _; unfold ofV letD; rw [hE]
 obtain ⟨⟨r1, r2⟩, hr⟩ : ∃ r, infV t (nmO E) (dmO E) ke = r := ⟨_, rfl⟩;rw [hr] at C HO;unfold InfRes at C;unfold IntRes;clear hr he h hE;by_cases h0 : r2 = 0
 ·subst h0;by_cases hw : r1 = want
  ·subst hw;have fin : Hid (ofV E t r1 = 0) := by show _ = _; rw [HO.out]; simp
   clear HO;go_enter Tryz.func79, Tryz.ntmps79;go_wp2_with fail;refine (C.out _ (by show Rel _ _; (show Rel _ _; repeat (first | with_reducible (first | exact qR _ | refine qA ?_ _ | refine qD ?_ | refine qT ?_ H0.out) | with_reducible refine qS ?_ (by first | (simp; done) | (simp; omega)) _)))).mono ?_;rintro e w1 ⟨rfl, h1⟩;have R1 : Hid (Rel w w1) := ((Rel.refl _).alloc _).trans h1;clear h1;go_wp2;go_ret;exact ⟨int_ret fin.out.symm, R1.out⟩
  ·have ew : (r1 == want) = false := by rw [zn]; exact hw
   have fin : Hid (ofV E t want = 6) := by show _ = _; rw [HO.out]; simp [hw]
   clear HO;go_enter Tryz.func79, Tryz.ntmps79;go_wp2_with fail;refine (C.out _ (by show Rel _ _; (show Rel _ _; repeat (first | with_reducible (first | exact qR _ | refine qA ?_ _ | refine qD ?_ | refine qT ?_ H0.out) | with_reducible refine qS ?_ (by first | (simp; done) | (simp; omega)) _)))).mono ?_;rintro e w1 ⟨rfl, h1⟩;have R1 : Hid (Rel w w1) := ((Rel.refl _).alloc _).trans h1;clear h1;go_wp2;go_ret;exact ⟨int_ret fin.out.symm, R1.out⟩
 ·have e0 : (r2 == 0) = false := by rw [zn]; exact h0
  have fin : Hid (ofV E t want = r2) := by show _ = _; rw [HO.out]; simp [h0]
  clear HO;go_enter Tryz.func79, Tryz.ntmps79;go_wp2_with fail;refine (C.out _ (by show Rel _ _; (show Rel _ _; repeat (first | with_reducible (first | exact qR _ | refine qA ?_ _ | refine qD ?_ | refine qT ?_ H0.out) | with_reducible refine qS ?_ (by first | (simp; done) | (simp; omega)) _)))).mono ?_;rintro e w1 ⟨rfl, h1⟩;have R1 : Hid (Rel w w1) := ((Rel.refl _).alloc _).trans h1;clear h1;go_wp2;go_ret;exact ⟨int_ret fin.out.symm, R1.out⟩
end Go.Proofs.YtlmclkaighlfaaaGreatDoor

/- Lemmas, each as it is printed; no conditions but those printed. -/
import Derived.Test.YtojghojlapgbiaaGreatDoorWB12
namespace Go.Proofs.YtojghojlapgbiaaGreatDoor
set_option maxHeartbeats 16000000
open Cal Str Tok Frac Txt Tree
set_option linter.unusedVariables false
theorem num_fd {n k x : Int} (h0 : 0 ≤ n) (h1 : n < 4000) (hk : k = 1 ∨ k = 10 ∨ k = 4 ∨ k = 1000 ∨ k = 10000) (hx : 2 ≤ x ∧ x ≤ 4) : fdB (mkN n k) (mkD n k) x = true := by
 have kp : 0 < k := by omega
 have kd : k ∣ 10000 := by rcases hk with rfl | rfl | rfl | rfl | rfl <;> decide
 have eN : mkN n k = nN n k := by
  unfold mkN mkS; rw [if_neg (by omega), if_neg (by omega)]; congr 1; omega
 have eD : mkD n k = nD n k := by
  unfold mkD mkS; rw [if_neg (by omega), if_neg (by omega)]; congr 1; omega
 rw [eN, eD]
 rcases n_cases n k kp with ⟨_, _, _, hb⟩ | ⟨he0, _, hv, he⟩
 ·exfalso
  have a1 := rN_mul n k;have a2 := rD_mul n k;have a3 := rD_pos n k kp;have g := gOf_pos n k kp;unfold nOk at hb;rw [Int.mul_comm] at a1 a2
  have b1 : 0 ≤ rN n k := by
   rcases Int.lt_or_le (rN n k) 0 with hlt | hge
   ·have := Int.mul_neg_of_neg_of_pos hlt (show (0 : Int) < (gOf n k : Int) by omega); omega
   ·exact hge
  have b2 : rN n k * 1 ≤ rN n k * (gOf n k : Int) := Int.mul_le_mul_of_nonneg_left (by omega) b1;have b3 : rD n k * 1 ≤ rD n k * (gOf n k : Int) := Int.mul_le_mul_of_nonneg_left (by omega) (by omega);simp at hb;omega
 ·have hn0 : 0 ≤ nN n k := by
   have := (n_sign n k kp he0).1;omega
  obtain ⟨⟨d1, d2, -, -⟩, hg⟩ := (validB_iff _ _).1 hv;generalize nN n k = N at *;generalize nD n k = D at *
  have hdk : D ∣ k := by
   have h1 : D.natAbs ∣ N.natAbs * k.natAbs := by
    rw [← Int.natAbs_mul, he, Int.natAbs_mul]; exact Nat.dvd_mul_left _ _
   have h2 := Nat.Coprime.dvd_of_dvd_mul_left (show Nat.Coprime D.natAbs N.natAbs by rw [Nat.coprime_comm]; exact hg) h1;exact Int.natAbs_dvd_natAbs.1 h2
  have hd1 : 10000 % D = 0 := Int.emod_eq_zero_of_dvd (Int.dvd_trans hdk kd)
  have hq : N / D ≤ 999999999 := by
   have b1 : N * 1 ≤ N * k := Int.mul_le_mul_of_nonneg_left (by omega) hn0;have b2 : n * D ≤ 4000 * D := Int.mul_le_mul_of_nonneg_right (by omega) (by omega);have := Int.ediv_lt_of_lt_mul (a := N) (b := 4001) (c := D) (by omega) (by omega);omega
  exact fdB_iff.2 ⟨fdC_iff.2 ⟨hv, hn0, hd1⟩, hx.1, hx.2, hq⟩
theorem numV_fd {N D x : Int} (h : NumV N D) (hx : 2 ≤ x ∧ x ≤ 4) : fdB N D x = true := by
 obtain ⟨n, k, h0, h1, hk, rfl, rfl⟩ := h;exact num_fd h0 h1 hk hx
structure EnvG (nm : Nat → ByteArray) (dm : Nat → Int) (k : Nat) : Prop where
 bd : ∀ i, i < k → 1 ≤ dm i ∧ dm i ≤ 4
 nam : ∀ i, i < k → namB (nm i) = true
 inp : ∀ i, i < k → inpI (nm i) = 0
 one : ∀ i j, i < k → j < k → (nm i).data.toList = (nm j).data.toList → i = j
theorem namL_ok : namL.all (fun s => namB s) = true := by kernel_rfl
theorem lok_nms {nm : Nat → ByteArray} {dm : Nat → Int} {k : Nat} {dim : Int} {s : ByteArray} (hE : EnvG nm dm k) (hd : 1 ≤ dim) (h : s ∈ nmsL nm dm dim k) : lokI nm dm k s = dim ∧ namB s = true := by
 rcases nmsL_mem h with ⟨h1, h2⟩ | ⟨i, hi, rfl, h2⟩
 ·refine ⟨?_, List.all_eq_true.1 namL_ok s h1⟩;unfold lokI; rw [if_neg (by omega)]; exact h2
 ·refine ⟨?_, hE.nam i hi⟩;unfold lokI;rw [if_pos (hE.inp i hi), envI_hit hi rfl (fun j h1 h2 e => by have := hE.one j i h2 hi e; omega)];exact h2
theorem leaf_inf {nm : Nat → ByteArray} {dm : Nat → Int} {k : Nat} {dim op a b d : Int} {s : ByteArray} (hE : EnvG nm dm k) (hd : 1 ≤ dim) (h : LeafV (nmsL nm dm dim k) dim op a b d s) : (Ex.mk op a b d s 0 (fun _ => .no)).inf nm dm k = (dim, 0) := by
 rw [inf_mk]
 rcases h with ⟨rfl, rfl, rfl, rfl, h⟩ | ⟨rfl, rfl, -, rfl, rfl, rfl⟩ | ⟨rfl, -, rfl, rfl⟩
 ·rw [(lok_nms hE hd h).1];simp; omega
 ·simp
 ·simp
theorem leaf_form {nm : Nat → ByteArray} {dm : Nat → Int} {k : Nat} {dim op a b d : Int} {s : ByteArray} (hE : EnvG nm dm k) (hd : 2 ≤ dim ∧ dim ≤ 4) (h : LeafV (nmsL nm dm dim k) dim op a b d s) : (Ex.mk op a b d s 0 (fun _ => .no)).form = true := by
 rw [form_mk];simp only [alK, Bool.and_true];unfold nodB arI emS
 rcases h with ⟨rfl, rfl, rfl, rfl, h⟩ | ⟨rfl, rfl, h, rfl, rfl, rfl⟩ | ⟨rfl, h, rfl, rfl⟩
 ·rw [(lok_nms hE (by omega) h).2];simp
 ·simp; omega
 ·rw [numV_fd h hd];simp
def TyV (nm : Nat → ByteArray) (dm : Nat → Int) (k : Nat) (dim : Int) (t : Ex) : Prop := t.valid = true ∧ t.inf nm dm k = (dim, 0)
theorem leaf_ty {nm : Nat → ByteArray} {dm : Nat → Int} {k : Nat} {dim op a b d : Int} {s : ByteArray} (hE : EnvG nm dm k) (hd : 2 ≤ dim ∧ dim ≤ 4) (h : LeafV (nmsL nm dm dim k) dim op a b d s) : TyV nm dm k dim (Ex.mk op a b d s 0 (fun _ => .no)) := by
 refine ⟨?_, leaf_inf hE (by omega) h⟩;unfold Ex.valid;rw [leaf_form hE hd h, depth_mk, size_mk];simp [mxK, smK]
def cmpT (op : Int) (t u : Ex) : Ex := .mk op 0 0 0 ⟨#[]⟩ 2 (fun i => if i = 0 then t else u)
theorem cmp_inf {nm : Nat → ByteArray} {dm : Nat → Int} {k : Nat} {op d : Int} {t u : Ex} (hop : 11 ≤ op ∧ op ≤ 16) (hd : 2 ≤ d) (ht : t.inf nm dm k = (d, 0)) (hu : u.inf nm dm k = (d, 0)) : (cmpT op t u).inf nm dm k = (1, 0) := by
 unfold cmpT;rw [inf_mk, if_neg (by omega), if_neg (by omega), if_neg (by omega), opD_ok (by simp [erK, ht, hu])]
 have key : ∀ D : Nat → Int, D 0 = d → D 1 = d → resI op D = 1 := by
  intro D h0 h1;unfold resI;rw [h0, h1]
  repeat' split
  all_goals omega
 have hr := key (fun i => ((if i = 0 then t else u).inf nm dm k).1) (by simp [ht]) (by simp [hu]);rw [hr]; rfl
theorem cmp_ty {nm : Nat → ByteArray} {dm : Nat → Int} {k : Nat} {op d : Int} {t u : Ex} (hop : 11 ≤ op ∧ op ≤ 16) (hd : 2 ≤ d) (ht : t.inf nm dm k = (d, 0)) (hu : u.inf nm dm k = (d, 0)) (ft : t.form = true) (fu : u.form = true)
  (dt : t.depth = 1) (du : u.depth = 1) (st : t.size = 1) (su : u.size = 1) : TyV nm dm k 1 (cmpT op t u) := by
 refine ⟨?_, cmp_inf hop hd ht hu⟩;unfold Ex.valid cmpT;rw [form_mk, depth_mk, size_mk]
 have hn : nodB op 0 0 0 ⟨#[]⟩ 2 = true := by
  unfold nodB arI emS;rw [if_neg (by omega), if_neg (by omega), if_pos (by omega), if_neg (by omega), if_neg (by omega), if_neg (by omega)]; rfl
 simp [mxK, smK, alK, hn, ft, fu, dt, du, st, su];omega
open Go.RowKit in
def TyRes (nm : Nat → ByteArray) (dm : Nat → Int) (k : Nat) (dim : Int) (w : World) (e : Ending) (w' : World) : Prop := ∃ (t : Ex) (x : Value), e = .returned (.agg #[.int .i64 t.op, .int .i64 t.va, .int .i64 t.vb, .int .i64 t.dm, .string t.nm, x]) ∧ ExKidsB (fun g => w.heap.size ≤ g) t w' x ∧ t.size ≤ 60 ∧ Rel w w' ∧ TyV nm dm k dim t
end Go.Proofs.YtojghojlapgbiaaGreatDoor
namespace Go.Proofs.YtojghojlapgbiaaGreatDoor
set_option maxHeartbeats 16000000
open Go.RowKit Cal Str Tok Frac Txt Tree
attribute [local go_sem] calmUpon
set_option linter.unusedVariables false
set_option linter.unusedSimpArgs false
def leafT (op a b d : Int) (s : ByteArray) : Ex := .mk op a b d s 0 (fun _ => .no)
def MkRes (b : Nat) (la : Option Addr) (ln lc : Nat) (A F : Int) (PR : Ex → Prop) (w : World) (e : Ending) (w' : World) : Prop :=
 ∃ (t : Ex) (x : Value) (at2 left2 : Int), e = .returned (.agg #[.int .i64 t.op, .int .i64 t.va, .int .i64 t.vb, .int .i64 t.dm, .string t.nm, x]) ∧ ExKidsB (fun g => w.heap.size ≤ g) t w' x ∧ t.size ≤ F ∧ at2 ≤ A ∧ Src w' b la ln lc at2 left2 ∧ Ro b w w' ∧ PR t
theorem kidsB_put6 {P : Nat → Prop} {t : Ex} {w : World} {x : Value} (h : ExKidsB P t w x) {g : Nat} {Q : Nat → Prop} (hg : ∀ q, P q → q ≠ g ∧ Q q) (v0 v1 v2 v3 v4 v5 : Value) :
  ExKidsB Q t ((((((w.setCell ⟨g, 0, none⟩ v0).setCell ⟨g, 1, none⟩ v1).setCell ⟨g, 2, none⟩ v2).setCell ⟨g, 3, none⟩ v3).setCell ⟨g, 4, none⟩ v4).setCell ⟨g, 5, none⟩ v5) x :=
 kidsB_keep (by simp [World.setCell]) (fun q _ hp => ⟨by
  have hne := (hg q hp).1
  rw [Below.heap_setCell _ _ _ _ hne, Below.heap_setCell _ _ _ _ hne, Below.heap_setCell _ _ _ _ hne, Below.heap_setCell _ _ _ _ hne, Below.heap_setCell _ _ _ _ hne, Below.heap_setCell _ _ _ _ hne], (hg q hp).2⟩) h
theorem pair_kids {P : Nat → Prop} {w : World} {T : TypeId} {op o1 a1 b1 d1 o2 a2 b2 d2 : Int} {s1 s2 : ByteArray} (h0 : I64s op 0 0 0 ⟨#[]⟩) (h1 : I64s o1 a1 b1 d1 s1) (h2 : I64s o2 a2 b2 d2 s2) {g : Nat} (hg : g = w.heap.size) (hP : P g) :
  ExKidsB P (cmpT op (leafT o1 a1 b1 d1 s1) (leafT o2 a2 b2 d2 s2)) (w.alloc (.cells #[.int .i64 o1, .int .i64 a1, .int .i64 b1, .int .i64 d1, .string s1, .slice none 0 0, .int .i64 o2, .int .i64 a2, .int .i64 b2, .int .i64 d2, .string s2, .slice none 0 0] T)) (.slice (some ⟨g, 0, none⟩) 2 2) := by
 subst hg;refine ⟨h0, by omega, _, _, rfl, fun _ => ⟨w.heap.size, 0, rfl, by simp, hP, fun i hi => ?_⟩⟩
 rcases (show i = 0 ∨ i = 1 by omega) with rfl | rfl
 ·exact ⟨_, ⟨by simp [leafT, Ex.op], by simp [leafT, Ex.va], by simp [leafT, Ex.vb], by simp [leafT, Ex.dm], by simp [leafT, Ex.nm], by simp⟩, leaf_tree h1⟩
 ·exact ⟨_, ⟨by simp [leafT, Ex.op], by simp [leafT, Ex.va], by simp [leafT, Ex.vb], by simp [leafT, Ex.dm], by simp [leafT, Ex.nm], by simp⟩, leaf_tree h2⟩
theorem envB_size {w : World} {b k : Nat} {nm : Nat → ByteArray} {dm : Nat → Int} {ad : Option Addr} (h : EnvB w b k nm dm ad) : ∀ i, i < k → (nm i).size ≤ 140737488355328 := fun i hi => by
 obtain ⟨g, off, -, -, -, hc⟩ := h.at' (by omega);exact (hc i hi).2.2.1
set_option maxRecDepth 20000 in
theorem leafB_any (b : Nat) (la : Option Addr) (ln lc : Nat) (at' left : Int) (ea : Option Addr) (ke ecap : Nat) (nm : Nat → ByteArray) (dm : Nat → Int) (w : World) (hS : Src w b la ln lc at' left) (hE : EnvB w b ke nm dm ea) (ha : at' ≤ 3999999999999980000) :
  Calls Tryz.prog 122 #[.pointer (some ⟨b, 0, none⟩), .int .i64 1, .slice ea ke ecap] w (MkRes b la ln lc (at' + 10) 3 (fun t => ∃ (op d o1 a1 b1 d1 o2 a2 b2 d2 : Int) (s1 s2 : ByteArray), (11 ≤ op ∧ op ≤ 16) ∧ (2 ≤ d ∧ d ≤ 4) ∧ LeafV (nmsL nm dm d ke) d o1 a1 b1 d1 s1 ∧ LeafV (nmsL nm dm d ke) d o2 a2 b2 d2 s2 ∧ t = cmpT op (leafT o1 a1 b1 d1 s1) (leafT o2 a2 b2 d2 s2)) w) := by
 unfold MkRes;have HS := Hj hS;have HE := Hj hE;have hlt := hS.lt;have a0 := hS.at0;have c2 := hS.c2;have f2 := hS.f2;have l0 := hS.l0;have l1 := hS.l1;have hke := hE.le;have hbw : w.heap.size ≠ b := by omega
 clear hS hE;go_enter Tryz.func122, Tryz.ntmps122;go_wp2_with fail;have hL0 : -9223372036854775808 ≤ wrap64 (left - 1) := by unfold wrap64; omega
 have hL1 : wrap64 (left - 1) ≤ 9223372036854775807 := by unfold wrap64; omega
 obtain ⟨L, hL⟩ : ∃ L, wrap64 (left - 1) = L := ⟨_, rfl⟩;rw [hL] at hL0 hL1 ⊢;have S0 := Hj ((HS.out.setLeft L hL0 hL1).rel ((Rel.refl _).alloc (.cells #[.int .i64 0, .int .i64 0, .int .i64 0, .int .i64 0, .string ⟨#[]⟩, .slice none 0 0] 63)));have R0 := Hj ((((Ro.refl b w).set 2 (.int .i64 L))).alloc (.cells #[.int .i64 0, .int .i64 0, .int .i64 0, .int .i64 0, .string ⟨#[]⟩, .slice none 0 0] 63));clear hL;refine (next_any b la ln lc at' L 3 _ S0.out (by omega) (by decide) (by decide)).mono ?_;rintro e w1 ⟨v, rfl, v0, v1, hS1, h1⟩;obtain ⟨d, hd⟩ : ∃ d, 2 + v = d := ⟨_, rfl⟩;have v3 : IntKind.i64.wrap (2 + v) = d := by rw [← hd]; exact IntWalk.i64_in _ ⟨by omega, by omega⟩
 have d2 : 2 ≤ d := by omega
 have d4 : d ≤ 4 := by omega
 have S1 := Hj hS1;have R1 := Hj (R0.out.trans h1);clear hS1 hd;have kq0 := keepr6 h1 (b := w.heap.size) (by first | (simp; done) | (simp; omega) | omega) (by first | (simp; done) | (simp; omega) | omega);have kz1 := h1.size;(try simp only [zsa, zsc, zsd] at kz1);have H1 := Hj h1;clear h1;go_wp2_with fail;refine (next_any b la ln lc (at' + 1) L 6 _ S1.out (by omega) (by decide) (by decide)).mono ?_;rintro e w2 ⟨y, rfl, y0, y1, hS2, h2⟩;obtain ⟨op, hop⟩ : ∃ op, 11 + y = op := ⟨_, rfl⟩;have y3 : IntKind.i64.wrap (11 + y) = op := by rw [← hop]; exact IntWalk.i64_in _ ⟨by omega, by omega⟩
 have hop0 : 11 ≤ op := by omega
 have hop1 : op ≤ 16 := by omega
 have S2 := Hj hS2;have R2 := Hj (R1.out.trans h2);clear hS2 hop;have kq1 := keepr6 h2 (b := w.heap.size) (by first | (simp; done) | (simp; omega) | omega) (by first | (simp; done) | (simp; omega) | omega);have kz2 := h2.size;(try simp only [zsa, zsc, zsd] at kz2);have H2 := Hj h2;clear h2;go_wp2_with fail;refine (leafN_any b la ln lc (at' + 1 + 1) L d ea ke ecap nm dm _ S2.out (HE.out.ro R2.out) (by omega) (by omega)).mono ?_;unfold LeafRes;rintro e w3 ⟨o1, a1, b1, d1, s1, at2, left2, rfl, hV1, hat1, hS3, h3⟩;have S3 := Hj hS3;have R3 := Hj (R2.out.trans h3);have V1 := Hj hV1;have J1 := Hj (leafV_i64 (dim := d) ⟨by omega, by omega⟩ (envB_size HE.out) hV1);clear hS3 hV1;have kq2 := keepr6 h3 (b := w.heap.size) (by first | (simp; done) | (simp; omega) | omega) (by first | (simp; done) | (simp; omega) | omega);have kl3_0 := kq2.2.2.2.2.2.2.2.2.2.2.2.2.1;have kz3 := h3.size;(try simp only [zsa, zsc, zsd] at kz3);have H3 := Hj h3;clear h3;go_wp2_with fail;refine (leafN_any b la ln lc at2 left2 d ea ke ecap nm dm _ S3.out (HE.out.ro R3.out) (by omega) (by omega)).mono ?_;unfold LeafRes;rintro e w4 ⟨o2, a2, b2, d2', s2, at3, left3, rfl, hV2, hat2, hS4, h4⟩;have S4 := Hj hS4;have R4 := Hj (R3.out.trans h4);have V2 := Hj hV2;have J2 := Hj (leafV_i64 (dim := d) ⟨by omega, by omega⟩ (envB_size HE.out) hV2);have KP := Hj (fun (W : World) (hW : w4.heap.size = W.heap.size) => pair_kids (P := fun g => w.heap.size ≤ g) (w := W) (T := 63) (op := op) ⟨by omega, by omega, by decide, by decide, by decide, by decide, by decide, by decide, by decide⟩ J1.out J2.out hW (by have := kl3_0; have := h4.size; omega));clear hS4 hV2;have kq3 := keepr6 h4 (b := w.heap.size) (by first | (simp; done) | (simp; omega) | omega) (by first | (simp; done) | (simp; omega) | omega);have kz4 := h4.size;(try simp only [zsa, zsc, zsd] at kz4);have H4 := Hj h4;clear h4;((try simp only []); (repeat (first | go_values | go_skip | go_guarded | go_step | go_upon | go_in)));have hp := put6 S4.out HS.out.nums R4.out (Nat.le_refl w.heap.size) hbw (.int .i64 op) (.int .i64 0) (.int .i64 0) (.int .i64 0) (.string ⟨#[]⟩) (.slice (some ⟨w4.heap.size, 0, none⟩) 2 2);obtain ⟨g0, g1, g2, g3, g4, g5⟩ : G6 (((((((w4.setCell ⟨w.heap.size, 0, none⟩ (.int .i64 op)).setCell ⟨w.heap.size, 1, none⟩ (.int .i64 0)).setCell ⟨w.heap.size, 2, none⟩ (.int .i64 0)).setCell ⟨w.heap.size, 3, none⟩ (.int .i64 0)).setCell ⟨w.heap.size, 4, none⟩ (.string ⟨#[]⟩)).setCell ⟨w.heap.size, 5, none⟩ (.slice (some ⟨w4.heap.size, 0, none⟩) 2 2)).alloc (.cells #[.int .i64 o1, .int .i64 a1, .int .i64 b1, .int .i64 d1, .string s1, .slice none 0 0, .int .i64 o2, .int .i64 a2, .int .i64 b2, .int .i64 d2', .string s2, .slice none 0 0] 63)) (w.heap.size) (.int .i64 op) (.int .i64 0) (.int .i64 0) (.int .i64 0) (.string ⟨#[]⟩) (.slice (some ⟨w4.heap.size, 0, none⟩) 2 2) := ⟨by go_simp, by go_simp, by go_simp, by go_simp, by go_simp, by go_simp⟩;refine bodyPost_ret (v := .agg #[.int .i64 op, .int .i64 0, .int .i64 0, .int .i64 0, .string ⟨#[]⟩, .slice (some ⟨w4.heap.size, 0, none⟩) 2 2]) ?_ rfl ⟨cmpT op (leafT o1 a1 b1 d1 s1) (leafT o2 a2 b2 d2' s2), _, _, _, rfl, KP.out _ (by simp [World.setCell]), (by show Ex.size _ ≤ 3; unfold cmpT leafT; rw [size_mk]; simp [smK, size_mk]), (by omega), hp.1.rel ((Rel.refl _).alloc _), hp.2.alloc _, op, d, o1, a1, b1, d1, o2, a2, b2, d2', s1, s2, ⟨hop0, hop1⟩, ⟨d2, d4⟩, V1.out, V2.out, rfl⟩;simp [results, Tryz.results122, go_sem, g0, g1, g2, g3, g4, g5]
theorem leaf_any (b : Nat) (la : Option Addr) (ln lc : Nat) (at' left dim : Int) (ea : Option Addr) (ke ecap : Nat) (nm : Nat → ByteArray) (dm : Nat → Int) (w : World) (hG : EnvG nm dm ke) (hS : Src w b la ln lc at' left) (hE : EnvB w b ke nm dm ea) (ha : at' ≤ 3999999999999980000) (hd : 1 ≤ dim ∧ dim ≤ 4) :
  Calls Tryz.prog 122 #[.pointer (some ⟨b, 0, none⟩), .int .i64 dim, .slice ea ke ecap] w (MkRes b la ln lc (at' + 10) 3 (TyV nm dm ke dim) w) := by
 by_cases h1 : dim = 1
 ·subst h1;refine (leafB_any b la ln lc at' left ea ke ecap nm dm w hS hE ha).mono ?_;rintro e w' ⟨t, x, at2, left2, he, hK, hz, hat, hS', hR, op, d, o1, a1, b1, d1, o2, a2, b2, d2, s1, s2, h1, h2, V1, V2, rfl⟩;exact ⟨_, x, at2, left2, he, hK, hz, hat, hS', hR, cmp_ty h1 h2.1 (leaf_inf hG (by omega) V1) (leaf_inf hG (by omega) V2) (leaf_form hG h2 V1) (leaf_form hG h2 V2) rfl rfl rfl rfl⟩
 ·refine (leafN_any b la ln lc at' left dim ea ke ecap nm dm w hS hE (by omega) h1).mono ?_;rintro e w' ⟨op, a, bb, dd, s, at2, left2, rfl, hV, hat, hS', hR⟩;exact ⟨leafT op a bb dd s, _, at2, left2, rfl, leaf_tree (leafV_i64 hd (envB_size hE) hV), by unfold leafT; rw [size_mk]; simp [smK], by omega, hS', hR, leaf_ty hG (by omega) hV⟩
theorem snoc_all {PR : Int → Ex → Prop} {ds : Nat → Int} {L : List (Ex × Value)} {k : Nat} {p : Ex × Value} (hl : L.length = k) (h : ∀ (i : Nat) (p : Ex × Value), L[i]? = some p → PR (ds i) p.1) (hp : PR (ds k) p.1) : ∀ (i : Nat) (p' : Ex × Value), (L ++ [p])[i]? = some p' → PR (ds i) p'.1 := fun i p' hi => by
 by_cases hlt : i < L.length
 ·rw [List.getElem?_append_left hlt] at hi;exact h i p' hi
 ·rw [List.getElem?_append_right (by omega)] at hi
  have h0 : i - L.length = 0 := by
   by_cases e : i - L.length = 0
   ·exact e
   ·rw [List.getElem?_eq_none (by simp; omega)] at hi; cases hi
  rw [h0] at hi;simp at hi;subst hi;rw [show i = k by omega]; exact hp
theorem kidL_all {PR : Int → Ex → Prop} {ds : Nat → Int} {L : List (Ex × Value)} {k : Nat} (hl : L.length = k) (h : ∀ (i : Nat) (p : Ex × Value), L[i]? = some p → PR (ds i) p.1) (i : Nat) (hi : i < k) : PR (ds i) (kidL L i) := by
 obtain ⟨p, hp⟩ : ∃ p, L[i]? = some p := ⟨_, List.getElem?_eq_getElem (by omega)⟩;rw [kidL_at hp]; exact h i p hp
set_option maxRecDepth 20000 in
theorem mknode_any (b : Nat) (la : Option Addr) (ln lc : Nat) (op d : Int) (M : Nat) (ds : Nat → Int) (G : Int) (PR : Int → Ex → Prop) (ea : Option Addr) (ke ecap : Nat) (nm : Nat → ByteArray) (dm : Nat → Int)
  (IH : ∀ i, i < M → ∀ (at' left : Int) (w : World), Src w b la ln lc at' left → EnvB w b ke nm dm ea → at' + 10 * G ≤ 3000000000000000000 → Calls Tryz.prog 121 #[.pointer (some ⟨b, 0, none⟩), .int .i64 (ds i), .int .i64 (d + 1), .slice ea ke ecap] w (MkRes b la ln lc (at' + 10 * G) G (PR (ds i)) w))
  (at' left : Int) (w : World) (hS : Src w b la ln lc at' left) (hE : EnvB w b ke nm dm ea) (dg dc : Nat) (hdg : dg < w.heap.size) (hdb : dg ≠ b) (hdc : ∀ i, i < M → w.cell? ⟨dg, i, none⟩ = some (.int .i64 (ds i)))
  (hM1 : 1 ≤ M) (hM3 : M ≤ 3) (hop0 : 4 ≤ op) (hop1 : op ≤ 21) (hd0 : 0 ≤ d) (hd9 : d ≤ 9) (hG1 : 1 ≤ G) (hG2 : G ≤ 2000000) (ha : at' + 10 * (3 * G) ≤ 3000000000000000000) :
  Calls Tryz.prog 159 #[.pointer (some ⟨b, 0, none⟩), .int .i64 op, .int .i64 d, .slice ea ke ecap, .slice (some ⟨dg, 0, none⟩) M dc] w (MkRes b la ln lc (at' + 10 * (3 * G)) (5 * G) (fun t => ∃ kid, t = .mk op 0 0 0 ⟨#[]⟩ M kid ∧ ∀ i, i < M → PR (ds i) (kid i)) w) := by
 unfold MkRes;have HI := Hj IH;have HD := Hj hdc;clear IH hdc;have HS := Hj hS;have HE := Hj hE;have hlt := hS.lt;have a0 := hS.at0;have c2 := hS.c2;have f2 := hS.f2;have l0 := hS.l0;have l1 := hS.l1;have hke := hE.le;have hbw : w.heap.size ≠ b := by omega
 clear hS hE;have hi3 : (Tryz.prog.info? 63).map (fun i => (i.zero, i.size, i.bytes)) = some (some (.agg #[.int .i64 0, .int .i64 0, .int .i64 0, .int .i64 0, .string ByteArray.empty, .slice none 0 0]), 6, 72) := by kernel_rfl
 obtain ⟨i0, hi, hx⟩ := Option.map_eq_some_iff.1 hi3;simp only [Prod.mk.injEq] at hx;obtain ⟨hz0, hz1, hz2⟩ := hx;have HI1 := Hj hi;have HZ0 := Hj hz0;have HZ1 := Hj hz1;have HZ2 := Hj hz2;clear hi3 hi hz0 hz1 hz2 c2 f2;go_enter Tryz.func159, Tryz.ntmps159;go_wp2_with fail;have R4 := Hj (((Ro.refl b w).alloc (.cells #[.int .i64 0, .int .i64 0, .int .i64 0, .int .i64 0, .string ⟨#[]⟩, .slice none 0 0] 63)).alloc (.cells #[.int .i64 op, .int .i64 0, .int .i64 0, .int .i64 0, .string ⟨#[]⟩, .slice none 0 0] 63));have S4 := Hj (HS.out.rel (((Rel.refl w).alloc (.cells #[.int .i64 0, .int .i64 0, .int .i64 0, .int .i64 0, .string ⟨#[]⟩, .slice none 0 0] 63)).alloc (.cells #[.int .i64 op, .int .i64 0, .int .i64 0, .int .i64 0, .string ⟨#[]⟩, .slice none 0 0] 63)));have BR4 := Hj ((BoxAt.new (w := w) (g := w.heap.size) rfl (.int .i64 0) (.int .i64 0) (.int .i64 0) (.int .i64 0) (.string ⟨#[]⟩) (.slice none 0 0) 63).rel ((Rel.refl _).alloc (.cells #[.int .i64 op, .int .i64 0, .int .i64 0, .int .i64 0, .string ⟨#[]⟩, .slice none 0 0] 63)));have BE4 := Hj (BoxAt.new (w := w.alloc (.cells #[.int .i64 0, .int .i64 0, .int .i64 0, .int .i64 0, .string ⟨#[]⟩, .slice none 0 0] 63)) (g := w.heap.size + 1) (by simp) (.int .i64 op) (.int .i64 0) (.int .i64 0) (.int .i64 0) (.string ⟨#[]⟩) (.slice none 0 0) 63)
 go_loopw [12, 13] (fun i rw wx => ∃ (k : Nat) (L' : List (Ex × Value)) (ra : Option Addr) (rc : Nat) (ax lx : Int), Hid (L'.length = k) ∧ k ≤ M ∧ i = .int .i64 k ∧ ax ≤ at' + 10 * (G * (k : Int)) ∧ Hid (Src wx b la ln lc ax lx) ∧ Hid (Ro b w wx) ∧ Hid (BoxAt wx w.heap.size (.int .i64 0) (.int .i64 0) (.int .i64 0) (.int .i64 0) (.string ⟨#[]⟩) (.slice none 0 0)) ∧ Hid (BoxAt wx (w.heap.size + 1) (.int .i64 op) (.int .i64 0) (.int .i64 0) (.int .i64 0) (.string ⟨#[]⟩) (.slice ra k rc)) ∧ Hid (wx.ownsRow (w.heap.size + 2) 63 6 (.slice ra k rc) k (celL L')) ∧ Hid (∀ (i : Nat) (p : Ex × Value), L'[i]? = some p → PR (ds i) p.1) ∧ Hid (∀ (i : Nat) (p : Ex × Value), L'[i]? = some p → ExKidsB (fun q => w.heap.size + 2 ≤ q ∧ Value.ownBlock (.slice ra k rc) ≠ some q) p.1 wx p.2 ∧ p.1.size ≤ G)) (fun i _ _ => M - (intOf i).toNat)
 case atStart => exact ⟨0, [], none, 0, at', left, rfl, by omega, rfl, by simp, S4.out, R4.out, BR4.out, BE4.out, World.ownsRow_nil _ _ _ _, fun i p h => by simp at h, fun i p h => by simp at h⟩
 case round =>
  obtain ⟨k, L', ra, rc, ax, lx, hLk, hk, rfl, hax, hS', hR', hBR, hBE, hO, hPP, hKK⟩ := hrel;have rb := hO.out.lt;have hblt := hS'.out.lt;by_cases hlt : k < M
  ·have bc5 := hBE.out.c5;have bf5 := hBE.out.f5;have bel := hBE.out.lt;have d3 : IntKind.i64.wrap (d + 1) = d + 1 := IntWalk.i64_in _ ⟨by omega, by omega⟩;have gk : G * (k : Int) ≤ G * 2 := Int.mul_le_mul_of_nonneg_left (by omega) (by omega);have gs : G * ((k + 1 : Nat) : Int) = G * (k : Int) + G := by rw [Int.natCast_add, Int.mul_add]; simp
   have cd := hR'.out.cell hdg hdb (HD.out k hlt);have C := Hj (HI.out k hlt);obtain ⟨D, hD⟩ : ∃ D, ds k = D := ⟨_, rfl⟩;rw [hD] at cd C;have HDk := Hj hD;clear hD;go_wp2_with fail;refine (C.out ax lx _ hS'.out (HE.out.ro hR'.out) (by omega)).mono ?_;unfold MkRes;rintro e w5 ⟨t, x, at3, left3, rfl, hK, hsz, hat, hS5, h5, hPR⟩;obtain ⟨xa, xc, rfl⟩ := kids_slice (kidsB_to hK);have BR5 := Hj ((hBR.out.ro h5 hbw).rel ((Rel.refl _).alloc (.cells #[.int .i64 t.op, .int .i64 t.va, .int .i64 t.vb, .int .i64 t.dm, .string t.nm, .slice xa t.cnt xc] 63)));have BE5 := Hj ((hBE.out.ro h5 (by omega)).rel ((Rel.refl _).alloc (.cells #[.int .i64 t.op, .int .i64 t.va, .int .i64 t.vb, .int .i64 t.dm, .string t.nm, .slice xa t.cnt xc] 63)));have S5 := Hj (hS5.rel ((Rel.refl _).alloc (.cells #[.int .i64 t.op, .int .i64 t.va, .int .i64 t.vb, .int .i64 t.dm, .string t.nm, .slice xa t.cnt xc] 63)));have O5 := Hj (own_rel (own_ro hO.out h5 (by omega)) ((Rel.refl _).alloc (.cells #[.int .i64 t.op, .int .i64 t.va, .int .i64 t.vb, .int .i64 t.dm, .string t.nm, .slice xa t.cnt xc] 63)));have R5 := Hj ((hR'.out.trans h5).alloc (.cells #[.int .i64 t.op, .int .i64 t.va, .int .i64 t.vb, .int .i64 t.dm, .string t.nm, .slice xa t.cnt xc] 63));have H5 := Hj h5;have HK5 := Hj hK;have HPR := Hj hPR;have sz5 := h5.size;clear hS5 h5 hK bc5 bf5 hPR cd
   go_wp2_with (at_builtin; refine wpList_append_lies _ rfl _ _ 61 rfl (w.heap.size + 2) 63 i0 (.agg #[.int .i64 0, .int .i64 0, .int .i64 0, .int .i64 0, .string ByteArray.empty, .slice none 0 0]) 6 72 Tryz.underlying61 HI1.out HZ0.out HZ1.out HZ2.out rfl (by decide) (.slice ra k rc) k (celL L') rfl O5.out ⟨w5.heap.size, 0, none⟩ 1 1 (cel (t, .slice xa t.cnt xc)) rfl rfl ?c1 ?c2 (by decide) ?c3 ?c4 ?c5 (w5.heap.size + 1) ?c6 ?_)
   case c1 => exact new6 w5 (t, .slice xa t.cnt xc) 63
   case c2 => intro u hu; simp [cel] at hu; rcases hu with rfl | rfl | rfl | rfl | rfl | rfl <;> rfl
   case c3 => unfold maxLen; omega
   case c4 => omega
   case c5 => simp; omega
   case c6 => simp
   intro g cap w6 hown hgrow hat' hlt';have hbrow : ∀ q, Value.ownBlock (.slice ra k rc) = some q → w.heap.size + 2 ≤ q ∧ q < wr.heap.size := rb;have R6 := Hj (R5.out.grown hgrow (fun q hq => by have := hbrow q hq; omega));have S6 := Hj (S5.out.grown HS.out.nums R6.out hgrow (fun e => by have := hbrow b e.symm; omega));have BR6 := Hj (BR5.out.grown hgrow (fun e => by have := hbrow _ e.symm; omega));have BE6 := Hj (BE5.out.grown hgrow (fun e => by have := hbrow _ e.symm; omega));have KK6 := Hj (fun u => kids_step (u := u) (n := k + 1) (cap := cap) H5.out hgrow (show b < w.heap.size + 2 by omega) (show w.heap.size + 1 < w.heap.size + 2 by omega) (fun q hq => (hbrow q hq).2) hat' (by omega) hKK.out (p := (t, .slice xa t.cnt xc)) HK5.out hsz);have O6 := Hj hown;have bc5 := BE6.out.c5;have bf5 := BE6.out.f5;clear hown hgrow hat';go_wp2
   go_roundw
   case rel => exact ⟨k + 1, L' ++ [(t, Value.slice xa t.cnt xc)], some ⟨g, 0, none⟩, cap, at3, left3, (by show _ = _; rw [List.length_append, hLk.out]; rfl), by omega, by go_num, by omega, S6.out.other (by omega) (HS.out.nums.ro (R6.out.setNew (by simp) _)), R6.out.setNew (by simp) _, BR6.out.other (by omega) _ _, BE6.out.set5 _, (by show World.ownsRow _ _ _ _ _ _ _; rw [celL_snoc]; exact own_ro O6.out ((Ro.refl (w.heap.size + 1) _).set 5 _) (by omega)), (by show ∀ (_ : Nat) (_ : Ex × Value), _ → _; exact snoc_all hLk.out hPP.out (by rw [HDk.out]; exact HPR.out)), (by show ∀ _ _, _; exact KK6.out _)⟩
   case measure => simp [intOf]; omega
  ·have : k = M := by omega
   subst this;obtain ⟨g, cap, hv, hgb, hgl⟩ := World.ownsRow.form hO.out (by omega);simp only [Value.slice.injEq] at hv;obtain ⟨rfl, -, rfl⟩ := hv;obtain ⟨bel, bc0, bc1, bc2, bc3, bc4, bc5, bf0, bf1, bf2, bf3, bf4, bf5⟩ := hBE.out;obtain ⟨rl, rc0, rc1, rc2, rc3, rc4, rc5, rf0, rf1, rf2, rf3, rf4, rf5⟩ := hBR.out;have gk : G * (k : Int) ≤ G * 3 := Int.mul_le_mul_of_nonneg_left (by omega) (by omega);((try simp only []); (repeat (first | go_values | go_skip | go_guarded | go_step | go_upon | go_in)));have hp := put6 hS'.out HS.out.nums hR'.out (Nat.le_refl w.heap.size) hbw (.int .i64 op) (.int .i64 0) (.int .i64 0) (.int .i64 0) (.string ⟨#[]⟩) (.slice (some ⟨g, 0, none⟩) k rc);obtain ⟨g0, g1, g2, g3, g4, g5⟩ : G6 ((((((wr.setCell ⟨w.heap.size, 0, none⟩ (.int .i64 op)).setCell ⟨w.heap.size, 1, none⟩ (.int .i64 0)).setCell ⟨w.heap.size, 2, none⟩ (.int .i64 0)).setCell ⟨w.heap.size, 3, none⟩ (.int .i64 0)).setCell ⟨w.heap.size, 4, none⟩ (.string ⟨#[]⟩)).setCell ⟨w.heap.size, 5, none⟩ (.slice (some ⟨g, 0, none⟩) k rc)) (w.heap.size) (.int .i64 op) (.int .i64 0) (.int .i64 0) (.int .i64 0) (.string ⟨#[]⟩) (.slice (some ⟨g, 0, none⟩) k rc) := ⟨by go_simp, by go_simp, by go_simp, by go_simp, by go_simp, by go_simp⟩;refine bodyPost_ret (v := .agg #[.int .i64 op, .int .i64 0, .int .i64 0, .int .i64 0, .string ⟨#[]⟩, .slice (some ⟨g, 0, none⟩) k rc]) ?_ rfl ⟨.mk op 0 0 0 ⟨#[]⟩ k (kidL L'), _, _, _, rfl, kids_fin (r := w.heap.size) hLk.out (by omega) (by omega) ⟨hop0, hop1⟩ hO.out (by omega) (by omega) hKK.out _ _ _ _ _ _, fin_size hLk.out (by omega) hG1 (fun i p hp => (hKK.out i p hp).2), (by omega), hp.1, hp.2, kidL L', rfl, (fun i hi => kidL_all hLk.out hPP.out i hi)⟩;simp [results, Tryz.results159, go_sem, g0, g1, g2, g3, g4, g5]
end Go.Proofs.YtojghojlapgbiaaGreatDoor

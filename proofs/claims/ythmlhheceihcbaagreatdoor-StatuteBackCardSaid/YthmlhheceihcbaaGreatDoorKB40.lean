/- Lemmas, each as it is printed; no conditions but those printed. -/
import Derived.Test.YthmlhheceihcbaaGreatDoorKB24
import Derived.Test.YthmlhheceihcbaaGreatDoorKB46
namespace Go.Proofs.YthmlhheceihcbaaGreatDoor
set_option maxHeartbeats 16000000
open Go.RowKit Cal Str Tok Frac Txt Tree Go.Proofs.Tryz
attribute [local go_sem] calmUpon
set_option linter.unusedVariables false
set_option linter.unusedSimpArgs false
def WrdRes (b G : Nat) (tk : List Tk) (E : Int) (l : List (List UInt8 × Int)) (s : Pt) (w : World) (e : Ending) (w' : World) : Prop := e = .returned (.int .i64 (wrdT tk l s)) /\ Prs w' b G tk E (wrdP tk l s) /\ Ro b w w'
theorem word_any (b G : Nat) (tk : List Tk) (E : Int) (l : List (List UInt8 × Int)) (s : Pt) (g c : Nat) (w : World) (h : Prs w b G tk E s) (hT : TksOk tk) (hA : TabAt w g l) (hl : l.length <= 100) (hz : ∀ p ∈ l, ¬ p.2 = 0) :
  Calls prog 73 #[.pointer (some ⟨b, 0, none⟩), .slice (some ⟨g, 0, none⟩) l.length c] w (WrdRes b G tk E l s w) := by
 have PK := Hj (peek_any b G tk E s w h);have HP := Hj h;have hO : wrdO tk l s = (pkK tk s == 1 && !(tabI l (pkT tk s) == 0)) := rfl;unfold PkRes at PK;unfold WrdRes wrdT wrdP;obtain ⟨K, hK⟩ : ∃ K, pkK tk s = K := ⟨_, rfl⟩;obtain ⟨T, hT'⟩ : ∃ T, pkT tk s = T := ⟨_, rfl⟩;obtain ⟨A, hA'⟩ : ∃ A, pkA tk E s = A := ⟨_, rfl⟩;rw [hK, hT', hA'] at PK;rw [hT'] at |-;rw [hK, hT'] at hO;have I := Hj fun w' (r : Rel w w') => byName_any l g c T w' (hA.rel r) hl hz
 unfold BynRes at I;obtain ⟨z, hzz⟩ : ∃ z, tabI l T = z := ⟨_, rfl⟩;rw [hzz] at I hO |-;obtain ⟨n, hn⟩ : ∃ n, l.length = n := ⟨_, rfl⟩;rw [hn] at I |-;have kb : Hid (∀ w1 : World, Rel w w1 -> w1.heap.size ≠ b) := fun w1 r => by have := HP.out.lt; have := r.size; omega
 have HO := Hj hO;have HK := Hj hK;clear h hT' hA' hzz hA hn hz hO hK;by_cases h1 : K = 1
 ·subst h1;by_cases h2 : z = 0
  ·have e2 : (z == 0) = true := by rw [beq_iff_eq]; exact h2
   rw [HO.out, if_neg (by simp [e2]), if_neg (by simp [e2])];clear h2;go_enter func73, ntmps73;go_wp2_with fail;refine PK.out.mono ?_;rintro e w1 ⟨rfl, h1⟩;obtain ⟨X, hX⟩ : ∃ X, w1.alloc (.cells #[.int .i64 1, .string T, .int .i64 A] 129) = X := ⟨_, rfl⟩;have R1 : Hid (Rel w X) := by show Rel _ _; rw [<- hX]; exact h1.alloc _
   have BX : Hid (Blk X w1.heap.size 129 [.int .i64 1, .string T, .int .i64 A]) := by show Blk _ _ _ _; rw [<- hX]; exact Blk.new w1 _ #[.int .i64 1, .string T, .int .i64 A]
   have x1 := BX.out.c (j := 1) rfl;have xl := BX.out.lt;clear h1;go_wp2_with fail;(try rw [hX]);refine (I.out _ R1.out).mono ?_;rintro e w2 ⟨rfl, h2⟩;have R2 := Hj (R1.out.trans h2);have x0 := (BX.out.rel h2).c (j := 0) rfl;clear h2 x1 hX;go_wp2_with fail;refine (fail_any b G tk E s _ (HP.out.rel R2.out)).mono ?_;unfold UnRes;rintro e w3 ⟨⟨v, rfl⟩, hP, h3⟩;have P3 := Hj hP;have R3 : Hid (Ro b w w3) := (Ro.of R2.out).trans h3;clear hP h3;go_wp2;go_ret;exact ⟨rfl, P3.out, R3.out⟩
  ·have e2 : (z == 0) = false := by rw [zn]; exact h2
   rw [HO.out, if_pos (by simp [e2]), if_pos (by simp [e2])];clear h2;go_enter func73, ntmps73;go_wp2_with fail;refine PK.out.mono ?_;rintro e w1 ⟨rfl, h1⟩;obtain ⟨X, hX⟩ : ∃ X, w1.alloc (.cells #[.int .i64 1, .string T, .int .i64 A] 129) = X := ⟨_, rfl⟩;have R1 : Hid (Rel w X) := by show Rel _ _; rw [<- hX]; exact h1.alloc _
   have BX : Hid (Blk X w1.heap.size 129 [.int .i64 1, .string T, .int .i64 A]) := by show Blk _ _ _ _; rw [<- hX]; exact Blk.new w1 _ #[.int .i64 1, .string T, .int .i64 A]
   have x1 := BX.out.c (j := 1) rfl;have xl := BX.out.lt;clear h1;go_wp2_with fail;(try rw [hX]);refine (I.out _ R1.out).mono ?_;rintro e w2 ⟨rfl, h2⟩;have R2 := Hj (R1.out.trans h2);have x0 := (BX.out.rel h2).c (j := 0) rfl;clear h2 x1 hX;go_wp2_with fail;obtain ⟨ho, hi'⟩ := pkK_some (tk := tk) (s := s) (by rw [HK.out]; decide);refine (next_tok b G tk E s _ (HP.out.rel R2.out) ho hi').mono ?_;unfold UnRes;rintro e w3 ⟨⟨v, rfl⟩, hP, h3⟩;have P3 := Hj hP;have R3 : Hid (Ro b w w3) := (Ro.of R2.out).trans h3;clear hP h3;go_wp2;go_ret;exact ⟨rfl, P3.out, R3.out⟩
 ·have e1 : (K == 1) = false := by rw [zn]; exact h1
  rw [HO.out, if_neg (by simp [e1]), if_neg (by simp [e1])];clear h1;go_enter func73, ntmps73;go_wp2_with fail;refine PK.out.mono ?_;rintro e w1 ⟨rfl, h1⟩;obtain ⟨X, hX⟩ : ∃ X, w1.alloc (.cells #[.int .i64 K, .string T, .int .i64 A] 129) = X := ⟨_, rfl⟩;have R1 : Hid (Rel w X) := by show Rel _ _; rw [<- hX]; exact h1.alloc _
  have BX : Hid (Blk X w1.heap.size 129 [.int .i64 K, .string T, .int .i64 A]) := by show Blk _ _ _ _; rw [<- hX]; exact Blk.new w1 _ #[.int .i64 K, .string T, .int .i64 A]
  have x1 := BX.out.c (j := 1) rfl;have xl := BX.out.lt;clear h1;go_wp2_with fail;(try rw [hX]);refine (I.out _ R1.out).mono ?_;rintro e w2 ⟨rfl, h2⟩;have R2 := Hj (R1.out.trans h2);have x0 := (BX.out.rel h2).c (j := 0) rfl;clear h2 x1 hX;go_wp2_with fail;refine (fail_any b G tk E s _ (HP.out.rel R2.out)).mono ?_;unfold UnRes;rintro e w3 ⟨⟨v, rfl⟩, hP, h3⟩;have P3 := Hj hP;have R3 : Hid (Ro b w w3) := (Ro.of R2.out).trans h3;clear hP h3;go_wp2;go_ret;exact ⟨rfl, P3.out, R3.out⟩
def FacRes (b G : Nat) (tk : List Tk) (E : Int) (s : Pt) (w : World) (e : Ending) (w' : World) : Prop := e = .returned (.agg #[.int .i64 (facT tk s).1, .int .i64 (facT tk s).2]) /\ Prs w' b G tk E (facP tk s) /\ Ro b w w'
theorem factorN_any (b G : Nat) (tk : List Tk) (E : Int) (s : Pt) (w : World) (h : Prs w b G tk E s) (hT : TksOk tk) : Calls prog 117 #[.pointer (some ⟨b, 0, none⟩)] w (FacRes b G tk E s w) := by
 have R0 : Hid (Rel w (w.alloc (.cells #[.int .i64 0, .int .i64 0] 54))) := (Rel.refl w).alloc _;have BZ : Hid (Blk (w.alloc (.cells #[.int .i64 0, .int .i64 0] 54)) w.heap.size 54 [.int .i64 0, .int .i64 0]) := Blk.new w _ #[.int .i64 0, .int .i64 0];obtain ⟨W0, hW0⟩ : ∃ X, w.alloc (.cells #[.int .i64 0, .int .i64 0] 54) = X := ⟨_, rfl⟩;rw [hW0] at R0 BZ;have PK := Hj (peek_any b G tk E s W0 (h.rel R0.out));have HP := Hj h;have hz := pkT_size hT s;have hO : facO tk s = (pkK tk s == 2 && (decB (pkT tk s) && (decX (pkT tk s) == 2 && decide (1 <= decN (pkT tk s))))) := rfl;unfold PkRes at PK;unfold FacRes facT facP;obtain ⟨K, hK⟩ : ∃ K, pkK tk s = K := ⟨_, rfl⟩;obtain ⟨T, hT'⟩ : ∃ T, pkT tk s = T := ⟨_, rfl⟩;obtain ⟨A, hA'⟩ : ∃ A, pkA tk E s = A := ⟨_, rfl⟩;rw [hK, hT', hA'] at PK;rw [hT'] at hz |-;rw [hK, hT'] at hO;have I := Hj fun w' => Decimal_any T w' (by unfold maxLen; omega)
 unfold DecRes at I;obtain ⟨dn, hdn⟩ : ∃ z, decN T = z := ⟨_, rfl⟩;obtain ⟨dd, hdd⟩ : ∃ z, decD T = z := ⟨_, rfl⟩;obtain ⟨dx, hdx⟩ : ∃ z, decX T = z := ⟨_, rfl⟩;obtain ⟨db, hdb⟩ : ∃ z, decB T = z := ⟨_, rfl⟩;rw [hdn, hdd, hdx, hdb] at I;rw [hdn, hdx, hdb] at hO;rw [hdn, hdd];have hbw : b < w.heap.size := h.lt
 have hG : Hid (tk = [] \/ G ≠ w.heap.size) := by
  rcases h.toks with e | ⟨hg, -⟩
  ·exact .inl e
  ·exact .inr (by omega)
 have HO := Hj hO;have HK := Hj hK;clear h hT' hA' hdn hdd hdx hdb hO hK hT;by_cases h1 : K = 2
 ·subst h1;cases db
  ·rw [HO.out, if_neg (by simp), if_neg (by simp)];go_enter func117, ntmps117;go_wp2_with fail;(try rw [hW0]);refine PK.out.mono ?_;rintro e w1 ⟨rfl, h1⟩;obtain ⟨X, hX⟩ : ∃ X, w1.alloc (.cells #[.int .i64 2, .string T, .int .i64 A] 129) = X := ⟨_, rfl⟩;have R1 : Hid (Rel W0 X) := by show Rel _ _; rw [<- hX]; exact h1.alloc _
   have BX : Hid (Blk X w1.heap.size 129 [.int .i64 2, .string T, .int .i64 A]) := by show Blk _ _ _ _; rw [<- hX]; exact Blk.new w1 _ #[.int .i64 2, .string T, .int .i64 A]
   have x1 := BX.out.c (j := 1) rfl;have xl := BX.out.lt;clear h1 hW0;go_wp2_with fail;(try rw [hX]);refine (I.out _).mono ?_;rintro e w2 ⟨rfl, h2⟩;obtain ⟨Y, hY⟩ : ∃ Y, w2.alloc (.cells #[.int .i64 dn, .int .i64 dd] 54) = Y := ⟨_, rfl⟩;have RY : Hid (Rel X Y) := by show Rel _ _; rw [<- hY]; exact h2.alloc _
   have BY : Hid (Blk Y w2.heap.size 54 [.int .i64 dn, .int .i64 dd]) := by show Blk _ _ _ _; rw [<- hY]; exact Blk.new w2 _ #[.int .i64 dn, .int .i64 dd]
   have R2 : Hid (Rel w Y) := R0.out.trans (R1.out.trans RY.out);have x0 := (BX.out.rel RY.out).c (j := 0) rfl;have y0 := BY.out.c (j := 0) rfl;have yl := BY.out.lt;have xl2 := (BX.out.rel RY.out).lt;have BZ2 : Hid (Blk Y w.heap.size 54 [.int .i64 0, .int .i64 0]) := BZ.out.rel (R1.out.trans RY.out);have k2 : w.heap.size <= w2.heap.size := (R0.out.trans (R1.out.trans h2)).size;clear h2 x1 hX;go_wp2_with fail;(try rw [hY]);refine (fail_any b G tk E s _ (HP.out.rel R2.out)).mono ?_;unfold UnRes;rintro e w3 ⟨⟨v, rfl⟩, hP, h3⟩;have P3 := Hj hP;have R3 : Hid (Ro b w w3) := (Ro.of R2.out).trans h3;have BZ3 : Hid (Blk w3 w.heap.size 54 [.int .i64 0, .int .i64 0]) := BZ2.out.ro h3 (by omega);have BY3 : Hid (Blk w3 w2.heap.size 54 [.int .i64 dn, .int .i64 dd]) := BY.out.ro h3 (by omega);have z0 := BZ3.out.c (j := 0) rfl;have z1 := BZ3.out.c (j := 1) rfl;have z2 := BZ3.out.f 0;have z3 := BZ3.out.f 1;have zl := BZ3.out.lt;have v0 := BY3.out.c (j := 0) rfl;have v1 := BY3.out.c (j := 1) rfl;have vl := BY3.out.lt;clear hP h3 x0 y0 yl xl2 hY;refine gw ?_;have BE : Hid (Blk ((w3.setCell ⟨w.heap.size, 0, none⟩ (.int .i64 0)).setCell ⟨w.heap.size, 1, none⟩ (.int .i64 0)) w.heap.size 54 [.int .i64 0, .int .i64 0]) := (BZ3.out.set 0 _).set 1 _;have g0 := BE.out.c (j := 0) rfl;have g1 := BE.out.c (j := 1) rfl;refine bodyPost_ret (v := .agg #[.int .i64 0, .int .i64 0]) ?_ rfl ⟨rfl, (P3.out.put (by omega) hG.out).put (by omega) hG.out, (R3.out.setNew (p := ⟨w.heap.size, 0, none⟩) (Nat.le_refl _) _).setNew (p := ⟨w.heap.size, 1, none⟩) (Nat.le_refl _) _⟩;simp [results, results117, go_sem, g0, g1]
  ·by_cases h2 : dx = 2
   ·subst h2;by_cases h3 : 1 <= dn
    ·have e3 : decide (dn < 1) = false := dF (by omega);rw [HO.out, if_pos (by simp [h3]), if_pos (by simp [h3])];go_enter func117, ntmps117;go_wp2_with fail;(try rw [hW0]);refine PK.out.mono ?_;rintro e w1 ⟨rfl, h1⟩;obtain ⟨X, hX⟩ : ∃ X, w1.alloc (.cells #[.int .i64 2, .string T, .int .i64 A] 129) = X := ⟨_, rfl⟩;have R1 : Hid (Rel W0 X) := by show Rel _ _; rw [<- hX]; exact h1.alloc _
     have BX : Hid (Blk X w1.heap.size 129 [.int .i64 2, .string T, .int .i64 A]) := by show Blk _ _ _ _; rw [<- hX]; exact Blk.new w1 _ #[.int .i64 2, .string T, .int .i64 A]
     have x1 := BX.out.c (j := 1) rfl;have xl := BX.out.lt;clear h1 hW0;go_wp2_with fail;(try rw [hX]);refine (I.out _).mono ?_;rintro e w2 ⟨rfl, h2⟩;obtain ⟨Y, hY⟩ : ∃ Y, w2.alloc (.cells #[.int .i64 dn, .int .i64 dd] 54) = Y := ⟨_, rfl⟩;have RY : Hid (Rel X Y) := by show Rel _ _; rw [<- hY]; exact h2.alloc _
     have BY : Hid (Blk Y w2.heap.size 54 [.int .i64 dn, .int .i64 dd]) := by show Blk _ _ _ _; rw [<- hY]; exact Blk.new w2 _ #[.int .i64 dn, .int .i64 dd]
     have R2 : Hid (Rel w Y) := R0.out.trans (R1.out.trans RY.out);have x0 := (BX.out.rel RY.out).c (j := 0) rfl;have y0 := BY.out.c (j := 0) rfl;have yl := BY.out.lt;have xl2 := (BX.out.rel RY.out).lt;have BZ2 : Hid (Blk Y w.heap.size 54 [.int .i64 0, .int .i64 0]) := BZ.out.rel (R1.out.trans RY.out);have k2 : w.heap.size <= w2.heap.size := (R0.out.trans (R1.out.trans h2)).size;clear h2 x1 hX;go_wp2_with fail;(try rw [hY]);obtain ⟨ho, hi'⟩ := pkK_some (tk := tk) (s := s) (by rw [HK.out]; decide);refine (next_tok b G tk E s _ (HP.out.rel R2.out) ho hi').mono ?_;unfold UnRes;rintro e w3 ⟨⟨v, rfl⟩, hP, h3⟩;have P3 := Hj hP;have R3 : Hid (Ro b w w3) := (Ro.of R2.out).trans h3;have BZ3 : Hid (Blk w3 w.heap.size 54 [.int .i64 0, .int .i64 0]) := BZ2.out.ro h3 (by omega);have BY3 : Hid (Blk w3 w2.heap.size 54 [.int .i64 dn, .int .i64 dd]) := BY.out.ro h3 (by omega);have z0 := BZ3.out.c (j := 0) rfl;have z1 := BZ3.out.c (j := 1) rfl;have z2 := BZ3.out.f 0;have z3 := BZ3.out.f 1;have zl := BZ3.out.lt;have v0 := BY3.out.c (j := 0) rfl;have v1 := BY3.out.c (j := 1) rfl;have vl := BY3.out.lt;clear hP h3 x0 y0 yl xl2 hY;refine gw ?_;have BE : Hid (Blk ((w3.setCell ⟨w.heap.size, 0, none⟩ (.int .i64 dn)).setCell ⟨w.heap.size, 1, none⟩ (.int .i64 dd)) w.heap.size 54 [.int .i64 dn, .int .i64 dd]) := (BZ3.out.set 0 _).set 1 _;have g0 := BE.out.c (j := 0) rfl;have g1 := BE.out.c (j := 1) rfl;refine bodyPost_ret (v := .agg #[.int .i64 dn, .int .i64 dd]) ?_ rfl ⟨rfl, (P3.out.put (by omega) hG.out).put (by omega) hG.out, (R3.out.setNew (p := ⟨w.heap.size, 0, none⟩) (Nat.le_refl _) _).setNew (p := ⟨w.heap.size, 1, none⟩) (Nat.le_refl _) _⟩;simp [results, results117, go_sem, g0, g1]
    ·have e3 : decide (dn < 1) = true := dT (by omega);rw [HO.out, if_neg (by simp [h3]), if_neg (by simp [h3])];go_enter func117, ntmps117;go_wp2_with fail;(try rw [hW0]);refine PK.out.mono ?_;rintro e w1 ⟨rfl, h1⟩;obtain ⟨X, hX⟩ : ∃ X, w1.alloc (.cells #[.int .i64 2, .string T, .int .i64 A] 129) = X := ⟨_, rfl⟩;have R1 : Hid (Rel W0 X) := by show Rel _ _; rw [<- hX]; exact h1.alloc _
     have BX : Hid (Blk X w1.heap.size 129 [.int .i64 2, .string T, .int .i64 A]) := by show Blk _ _ _ _; rw [<- hX]; exact Blk.new w1 _ #[.int .i64 2, .string T, .int .i64 A]
     have x1 := BX.out.c (j := 1) rfl;have xl := BX.out.lt;clear h1 hW0;go_wp2_with fail;(try rw [hX]);refine (I.out _).mono ?_;rintro e w2 ⟨rfl, h2⟩;obtain ⟨Y, hY⟩ : ∃ Y, w2.alloc (.cells #[.int .i64 dn, .int .i64 dd] 54) = Y := ⟨_, rfl⟩;have RY : Hid (Rel X Y) := by show Rel _ _; rw [<- hY]; exact h2.alloc _
     have BY : Hid (Blk Y w2.heap.size 54 [.int .i64 dn, .int .i64 dd]) := by show Blk _ _ _ _; rw [<- hY]; exact Blk.new w2 _ #[.int .i64 dn, .int .i64 dd]
     have R2 : Hid (Rel w Y) := R0.out.trans (R1.out.trans RY.out);have x0 := (BX.out.rel RY.out).c (j := 0) rfl;have y0 := BY.out.c (j := 0) rfl;have yl := BY.out.lt;have xl2 := (BX.out.rel RY.out).lt;have BZ2 : Hid (Blk Y w.heap.size 54 [.int .i64 0, .int .i64 0]) := BZ.out.rel (R1.out.trans RY.out);have k2 : w.heap.size <= w2.heap.size := (R0.out.trans (R1.out.trans h2)).size;clear h2 x1 hX;go_wp2_with fail;(try rw [hY]);refine (fail_any b G tk E s _ (HP.out.rel R2.out)).mono ?_;unfold UnRes;rintro e w3 ⟨⟨v, rfl⟩, hP, h3⟩;have P3 := Hj hP;have R3 : Hid (Ro b w w3) := (Ro.of R2.out).trans h3;have BZ3 : Hid (Blk w3 w.heap.size 54 [.int .i64 0, .int .i64 0]) := BZ2.out.ro h3 (by omega);have BY3 : Hid (Blk w3 w2.heap.size 54 [.int .i64 dn, .int .i64 dd]) := BY.out.ro h3 (by omega);have z0 := BZ3.out.c (j := 0) rfl;have z1 := BZ3.out.c (j := 1) rfl;have z2 := BZ3.out.f 0;have z3 := BZ3.out.f 1;have zl := BZ3.out.lt;have v0 := BY3.out.c (j := 0) rfl;have v1 := BY3.out.c (j := 1) rfl;have vl := BY3.out.lt;clear hP h3 x0 y0 yl xl2 hY;refine gw ?_;have BE : Hid (Blk ((w3.setCell ⟨w.heap.size, 0, none⟩ (.int .i64 0)).setCell ⟨w.heap.size, 1, none⟩ (.int .i64 0)) w.heap.size 54 [.int .i64 0, .int .i64 0]) := (BZ3.out.set 0 _).set 1 _;have g0 := BE.out.c (j := 0) rfl;have g1 := BE.out.c (j := 1) rfl;refine bodyPost_ret (v := .agg #[.int .i64 0, .int .i64 0]) ?_ rfl ⟨rfl, (P3.out.put (by omega) hG.out).put (by omega) hG.out, (R3.out.setNew (p := ⟨w.heap.size, 0, none⟩) (Nat.le_refl _) _).setNew (p := ⟨w.heap.size, 1, none⟩) (Nat.le_refl _) _⟩;simp [results, results117, go_sem, g0, g1]
   ·have e2 : (dx == 2) = false := by rw [zn]; exact h2
    rw [HO.out, if_neg (by simp [e2]), if_neg (by simp [e2])];go_enter func117, ntmps117;go_wp2_with fail;(try rw [hW0]);refine PK.out.mono ?_;rintro e w1 ⟨rfl, h1⟩;obtain ⟨X, hX⟩ : ∃ X, w1.alloc (.cells #[.int .i64 2, .string T, .int .i64 A] 129) = X := ⟨_, rfl⟩;have R1 : Hid (Rel W0 X) := by show Rel _ _; rw [<- hX]; exact h1.alloc _
    have BX : Hid (Blk X w1.heap.size 129 [.int .i64 2, .string T, .int .i64 A]) := by show Blk _ _ _ _; rw [<- hX]; exact Blk.new w1 _ #[.int .i64 2, .string T, .int .i64 A]
    have x1 := BX.out.c (j := 1) rfl;have xl := BX.out.lt;clear h1 hW0;go_wp2_with fail;(try rw [hX]);refine (I.out _).mono ?_;rintro e w2 ⟨rfl, h2⟩;obtain ⟨Y, hY⟩ : ∃ Y, w2.alloc (.cells #[.int .i64 dn, .int .i64 dd] 54) = Y := ⟨_, rfl⟩;have RY : Hid (Rel X Y) := by show Rel _ _; rw [<- hY]; exact h2.alloc _
    have BY : Hid (Blk Y w2.heap.size 54 [.int .i64 dn, .int .i64 dd]) := by show Blk _ _ _ _; rw [<- hY]; exact Blk.new w2 _ #[.int .i64 dn, .int .i64 dd]
    have R2 : Hid (Rel w Y) := R0.out.trans (R1.out.trans RY.out);have x0 := (BX.out.rel RY.out).c (j := 0) rfl;have y0 := BY.out.c (j := 0) rfl;have yl := BY.out.lt;have xl2 := (BX.out.rel RY.out).lt;have BZ2 : Hid (Blk Y w.heap.size 54 [.int .i64 0, .int .i64 0]) := BZ.out.rel (R1.out.trans RY.out);have k2 : w.heap.size <= w2.heap.size := (R0.out.trans (R1.out.trans h2)).size;clear h2 x1 hX;go_wp2_with fail;(try rw [hY]);refine (fail_any b G tk E s _ (HP.out.rel R2.out)).mono ?_;unfold UnRes;rintro e w3 ⟨⟨v, rfl⟩, hP, h3⟩;have P3 := Hj hP;have R3 : Hid (Ro b w w3) := (Ro.of R2.out).trans h3;have BZ3 : Hid (Blk w3 w.heap.size 54 [.int .i64 0, .int .i64 0]) := BZ2.out.ro h3 (by omega);have BY3 : Hid (Blk w3 w2.heap.size 54 [.int .i64 dn, .int .i64 dd]) := BY.out.ro h3 (by omega);have z0 := BZ3.out.c (j := 0) rfl;have z1 := BZ3.out.c (j := 1) rfl;have z2 := BZ3.out.f 0;have z3 := BZ3.out.f 1;have zl := BZ3.out.lt;have v0 := BY3.out.c (j := 0) rfl;have v1 := BY3.out.c (j := 1) rfl;have vl := BY3.out.lt;clear hP h3 x0 y0 yl xl2 hY;refine gw ?_;have BE : Hid (Blk ((w3.setCell ⟨w.heap.size, 0, none⟩ (.int .i64 0)).setCell ⟨w.heap.size, 1, none⟩ (.int .i64 0)) w.heap.size 54 [.int .i64 0, .int .i64 0]) := (BZ3.out.set 0 _).set 1 _;have g0 := BE.out.c (j := 0) rfl;have g1 := BE.out.c (j := 1) rfl;refine bodyPost_ret (v := .agg #[.int .i64 0, .int .i64 0]) ?_ rfl ⟨rfl, (P3.out.put (by omega) hG.out).put (by omega) hG.out, (R3.out.setNew (p := ⟨w.heap.size, 0, none⟩) (Nat.le_refl _) _).setNew (p := ⟨w.heap.size, 1, none⟩) (Nat.le_refl _) _⟩;simp [results, results117, go_sem, g0, g1]
 ·have e1 : (K == 2) = false := by rw [zn]; exact h1
  rw [HO.out, if_neg (by simp [e1]), if_neg (by simp [e1])];go_enter func117, ntmps117;go_wp2_with fail;(try rw [hW0]);refine PK.out.mono ?_;rintro e w1 ⟨rfl, h1⟩;obtain ⟨X, hX⟩ : ∃ X, w1.alloc (.cells #[.int .i64 K, .string T, .int .i64 A] 129) = X := ⟨_, rfl⟩;have R1 : Hid (Rel W0 X) := by show Rel _ _; rw [<- hX]; exact h1.alloc _
  have BX : Hid (Blk X w1.heap.size 129 [.int .i64 K, .string T, .int .i64 A]) := by show Blk _ _ _ _; rw [<- hX]; exact Blk.new w1 _ #[.int .i64 K, .string T, .int .i64 A]
  have x1 := BX.out.c (j := 1) rfl;have xl := BX.out.lt;clear h1 hW0;go_wp2_with fail;(try rw [hX]);refine (I.out _).mono ?_;rintro e w2 ⟨rfl, h2⟩;obtain ⟨Y, hY⟩ : ∃ Y, w2.alloc (.cells #[.int .i64 dn, .int .i64 dd] 54) = Y := ⟨_, rfl⟩;have RY : Hid (Rel X Y) := by show Rel _ _; rw [<- hY]; exact h2.alloc _
  have BY : Hid (Blk Y w2.heap.size 54 [.int .i64 dn, .int .i64 dd]) := by show Blk _ _ _ _; rw [<- hY]; exact Blk.new w2 _ #[.int .i64 dn, .int .i64 dd]
  have R2 : Hid (Rel w Y) := R0.out.trans (R1.out.trans RY.out);have x0 := (BX.out.rel RY.out).c (j := 0) rfl;have y0 := BY.out.c (j := 0) rfl;have yl := BY.out.lt;have xl2 := (BX.out.rel RY.out).lt;have BZ2 : Hid (Blk Y w.heap.size 54 [.int .i64 0, .int .i64 0]) := BZ.out.rel (R1.out.trans RY.out);have k2 : w.heap.size <= w2.heap.size := (R0.out.trans (R1.out.trans h2)).size;clear h2 x1 hX;go_wp2_with fail;(try rw [hY]);refine (fail_any b G tk E s _ (HP.out.rel R2.out)).mono ?_;unfold UnRes;rintro e w3 ⟨⟨v, rfl⟩, hP, h3⟩;have P3 := Hj hP;have R3 : Hid (Ro b w w3) := (Ro.of R2.out).trans h3;have BZ3 : Hid (Blk w3 w.heap.size 54 [.int .i64 0, .int .i64 0]) := BZ2.out.ro h3 (by omega);have BY3 : Hid (Blk w3 w2.heap.size 54 [.int .i64 dn, .int .i64 dd]) := BY.out.ro h3 (by omega);have z0 := BZ3.out.c (j := 0) rfl;have z1 := BZ3.out.c (j := 1) rfl;have z2 := BZ3.out.f 0;have z3 := BZ3.out.f 1;have zl := BZ3.out.lt;have v0 := BY3.out.c (j := 0) rfl;have v1 := BY3.out.c (j := 1) rfl;have vl := BY3.out.lt;clear hP h3 x0 y0 yl xl2 hY;refine gw ?_;have BE : Hid (Blk ((w3.setCell ⟨w.heap.size, 0, none⟩ (.int .i64 0)).setCell ⟨w.heap.size, 1, none⟩ (.int .i64 0)) w.heap.size 54 [.int .i64 0, .int .i64 0]) := (BZ3.out.set 0 _).set 1 _;have g0 := BE.out.c (j := 0) rfl;have g1 := BE.out.c (j := 1) rfl;refine bodyPost_ret (v := .agg #[.int .i64 0, .int .i64 0]) ?_ rfl ⟨rfl, (P3.out.put (by omega) hG.out).put (by omega) hG.out, (R3.out.setNew (p := ⟨w.heap.size, 0, none⟩) (Nat.le_refl _) _).setNew (p := ⟨w.heap.size, 1, none⟩) (Nat.le_refl _) _⟩;simp [results, results117, go_sem, g0, g1]
theorem ClS.o8 {b BO N : Nat} {w0 W w8 : World} {m : VerM} {row : Option Nat} (h : ClS b w0 W BO N m) (hg : W.grownBy w8 row) (hrow : ∀ q, row = some q -> BO + 1 <= q) : Blk w8 BO 48 (verC m) := h.o.grown hg (fun e => by have := hrow _ e.symm; omega)
theorem prs_ro {b G g : Nat} {tk : List Tk} {E : Int} {s : Pt} {W X : World} (h : Prs W b G tk E s) (r : Ro g W X) (hb : b ≠ g) (hG : tk = [] \/ G ≠ g) : Prs X b G tk E s := by
 refine h.eq r.size (r.block b h.lt hb) ?_
 rcases h.toks with e | ⟨hl, -⟩
 ·exact .inl e
 ·rcases hG with e | e
  ·exact .inl e
  ·exact .inr (r.block G hl e)
theorem new_cells2 (w : World) (c : Array Value) (T : TypeId) {g : Nat} (hg : g = w.heap.size) : ∀ (j : Nat) u, c.toList[j]? = some u -> (w.alloc (.cells c T)).cell? ((⟨g, 0, none⟩ : Addr).add j) = some u := by
 subst hg;intro j u h
 have hadd : (⟨w.heap.size, 0, none⟩ : Addr).add j = ⟨w.heap.size, j, none⟩ := by unfold Addr.add; split <;> simp_all
 rw [hadd];exact (Blk.new w T c).c h
theorem tab_bd {s : ByteArray} : ∀ {l : List (List UInt8 × Int)}, (∀ p ∈ l, 0 <= p.2 /\ p.2 <= 100) -> 0 <= tabI l s /\ tabI l s <= 100 := by
 intro l
 induction l with
 | nil => intro _; simp [tabI]
 | cons a l ih =>
  intro h;simp only [tabI];split
  ·exact h a (List.mem_cons_self ..)
  ·exact ih (fun p hp => h p (List.mem_cons_of_mem _ hp))
theorem wrd_bd {tk : List Tk} {l : List (List UInt8 × Int)} {s : Pt} (h : ∀ p ∈ l, 0 <= p.2 /\ p.2 <= 100) : I64 (wrdT tk l s) := by
 unfold wrdT;split
 ·have := tab_bd (s := pkT tk s) h; exact ⟨by omega, by omega⟩
 ·exact ⟨by decide, by decide⟩
theorem kndL_bd : ∀ p ∈ kndL, 0 <= p.2 /\ p.2 <= 100 := by decide
theorem benL_bd : ∀ p ∈ benL, 0 <= p.2 /\ p.2 <= 100 := by decide
theorem modL_bd : ∀ p ∈ modL, 0 <= p.2 /\ p.2 <= 100 := by decide
theorem num_bd {tk : List Tk} {lo hi : Int} {s : Pt} : I64 (numT tk lo hi s) := by
 unfold numT;split
 ·exact (dec_bd _).1
 ·exact ⟨by decide, by decide⟩
theorem fac_bd {tk : List Tk} {s : Pt} : I64 (facT tk s).1 /\ I64 (facT tk s).2 := by
 unfold facT;split
 ·exact dec_bd _
 ·exact ⟨⟨by decide, by decide⟩, ⟨by decide, by decide⟩⟩
theorem nam_size {tk : List Tk} (hT : TksOk tk) (s : Pt) : (namT tk s).size <= 140737488355328 := by
 unfold namT;split
 ·exact pkT_size hT s
 ·decide
theorem rem_le (tk : List Tk) (s : Pt) : rem tk s <= tk.length := by
 unfold rem
 split <;> omega
theorem pq_size {tk : List Tk} (hT : TksOk tk) {s : Pt} (hs : s.i <= tk.length) : (pq tk s).1.size <= 1000000 := by
 have h1 := (pe_size tk (10 * tk.length + 8)).2 0 s (by decide);have h2 := (pe_beh tk (10 * tk.length + 8) 0 .no s (by unfold md; decide)).2.2 hs;have h3 := hT.len;unfold pq;omega
theorem pq_at (b G : Nat) (tk : List Tk) (E : Int) (s : Pt) (w : World) (hT : TksOk tk) (h : Prs w b G tk E s) : Calls prog 85 #[.pointer (some ⟨b, 0, none⟩)] w fun e w' => ∃ x, e = .returned (.agg #[.int .i64 (pq tk s).1.op, .int .i64 (pq tk s).1.va, .int .i64 (pq tk s).1.vb, .int .i64 (pq tk s).1.dm, .string (pq tk s).1.nm, x]) /\ ExKidsB (fun g => w.heap.size <= g) (pq tk s).1 w' x /\ (pq tk s).1.size <= 1000000 /\ Prs w' b G tk E (pq tk s).2 /\ Ro b w w' := by
 have hf : 10 * rem tk s + cc 0 <= 10 * tk.length + 8 := by have := rem_le tk s; unfold cc; simp only [if_true]; omega
 refine ((parse_all b G tk E hT (10 * tk.length + 8)).p0 w s h hf).mono ?_;rintro e w' ⟨x, h1, h2, h3, h4⟩;exact ⟨x, h1, h2, pq_size hT h.le, h3, h4⟩
theorem TxB.got {P : Nat -> Prop} {w W : World} {t : Ex} {x : Value} (h : ExKidsB (fun g => w.heap.size <= g) t W x) (hz : t.size <= 1000000) (hb : ∀ q, w.heap.size <= q -> P q) : TxB P W (t, x) := ⟨kidsB_keep (Nat.le_refl _) (fun g _ hp => ⟨rfl, hb g hp⟩) h, by show t.size <= _; omega⟩
theorem limQ_yes {tk : List Tk} {s : Pt} (h : accB tk kLimit s = true) : limQ tk s = (numT tk 1 73049 s.adv, numP tk 1 73049 s.adv) := if_pos h
theorem limQ_no {tk : List Tk} {s : Pt} (h : accB tk kLimit s = false) : limQ tk s = (0, s) := if_neg (by simp [h])
section
variable {tk : List Tk} {v : Ver} {s : Pt}
theorem claQ_cr (h : accB tk kCredit s = true) : claQ tk v s = ((crQ tk v s.adv).1, expP tk kSemi (crQ tk v s.adv).2) /\ claO tk s = true := ⟨by unfold claQ; rw [if_pos h], by unfold claO; rw [h]; rfl⟩
theorem claQ_se (h0 : accB tk kCredit s = false) (h : accB tk kIndex s = true) : claQ tk v s = ((seQ tk v s.adv).1, expP tk kSemi (seQ tk v s.adv).2) /\ claO tk s = true := ⟨by unfold claQ; rw [if_neg (by simp [h0]), if_pos h], by unfold claO; rw [h0, h]; rfl⟩
theorem claQ_le (h0 : accB tk kCredit s = false) (h1 : accB tk kIndex s = false) (h : accB tk kLet s = true) : claQ tk v s = ((leQ tk v s.adv).1, expP tk kSemi (leQ tk v s.adv).2) /\ claO tk s = true := ⟨by unfold claQ; rw [if_neg (by simp [h0]), if_neg (by simp [h1]), if_pos h], by unfold claO; rw [h0, h1, h]; rfl⟩
theorem claQ_gr (h0 : accB tk kCredit s = false) (h1 : accB tk kIndex s = false) (h2 : accB tk kLet s = false) (h : accB tk kGrant s = true) : claQ tk v s = ((grQ tk v s.adv).1, expP tk kSemi (grQ tk v s.adv).2) /\ claO tk s = true := ⟨by unfold claQ; rw [if_neg (by simp [h0]), if_neg (by simp [h1]), if_neg (by simp [h2]), if_pos h], by unfold claO; rw [h0, h1, h2, h]; rfl⟩
theorem claQ_re (h0 : accB tk kCredit s = false) (h1 : accB tk kIndex s = false) (h2 : accB tk kLet s = false) (h3 : accB tk kGrant s = false) (h : accB tk kReduce s = true) : claQ tk v s = ((reQ tk v s.adv).1, expP tk kSemi (reQ tk v s.adv).2) /\ claO tk s = true := ⟨by unfold claQ; rw [if_neg (by simp [h0]), if_neg (by simp [h1]), if_neg (by simp [h2]), if_neg (by simp [h3]), if_pos h], by unfold claO; rw [h0, h1, h2, h3, h]; rfl⟩
theorem claQ_no (h0 : accB tk kCredit s = false) (h1 : accB tk kIndex s = false) (h2 : accB tk kLet s = false) (h3 : accB tk kGrant s = false) (h : accB tk kReduce s = false) : claQ tk v s = (v, s) /\ claO tk s = false := ⟨by unfold claQ; rw [if_neg (by simp [h0]), if_neg (by simp [h1]), if_neg (by simp [h2]), if_neg (by simp [h3]), if_neg (by simp [h])], by unfold claO; rw [h0, h1, h2, h3, h]; rfl⟩
end
def ClRes (b G : Nat) (tk : List Tk) (E : Int) (w0 : World) (BO N : Nat) (o : Bool) (r : Ver × Pt) (e : Ending) (w' : World) : Prop := ∃ m', e = .returned (.bool o) /\ m'.pl = r.1 /\ Prs w' b G tk E r.2 /\ ClS b w0 w' BO (N + 1) m'
theorem prs_day (s : ByteArray) : 0 <= prsN s /\ prsN s <= 73048 := by
 unfold prsN;split
 ·cases h : dateB (strV (s.extract 0 4)) (strV (s.extract 5 7)) (strV (s.extract 8 s.size))
  ·rw [dayN_no h]; decide
  ·exact (vdayB_iff _).1 (date_day _ _ _ h).1
 ·decide
theorem dat_bd {tk : List Tk} {s : Pt} : I64 (datT tk s) := by
 unfold datT;split
 ·have := prs_day ((pkT tk s).extract 1 (pkT tk s).size); exact ⟨by omega, by omega⟩
 ·exact ⟨by decide, by decide⟩
theorem hd_one {tk : List Tk} (hH : TkHd tk) {s : Pt} (h : pkK tk s = 3) : 1 <= (pkT tk s).size := by
 unfold pkK at h;unfold pkT
 cases ht : tkAt tk s with
 | none => rw [ht] at h; cases h
 | some t =>
  rw [ht] at h;obtain ⟨-, -, h3⟩ := tkAt_some ht;obtain ⟨c, l, e, -⟩ := hH t (List.mem_of_getElem? h3) (.inr h);have : t.T.data.toList.length = (c :: l).length := by rw [e]
  simp only [];rw [size_list] at this;simp at this; omega
def zeroM : VerM := ⟨0, 0, 0, [], [], [], [], [], none, none, none, none, none, 0, 0, 0, 0, 0⟩
theorem ClS.new {b BO : Nat} {w0 W : World} (r : Ro b w0 W) (hb : b < w0.heap.size) (lt : w0.heap.size <= BO) (o : Blk W BO 48 (verC zeroM)) : ClS b w0 W BO 0 zeroM :=
 have z : I64 0 := ⟨by decide, by decide⟩
 ⟨r, hb, lt, o, World.ownsRow_nil _ _ _ _, World.ownsRow_nil _ _ _ _, World.ownsRow_nil _ _ _ _, World.ownsRow_nil _ _ _ _, World.ownsRow_nil _ _ _ _, fun i j hi hj hne a b' ha => by (rcases (show i = 0 \/ i = 1 \/ i = 2 \/ i = 3 \/ i = 4 by omega) with rfl | rfl | rfl | rfl | rfl <;> cases ha),
  ⟨Nat.le_refl _, Nat.le_refl _, Nat.le_refl _, Nat.le_refl _, Nat.le_refl _⟩, z, z, z, fun p hp => (by cases hp), fun p hp => (by cases hp), fun p hp => (by cases hp), fun p hp => (by cases hp), fun p hp => (by cases hp)⟩
section
variable {b BO N : Nat} {w0 W : World} {m : VerM}
theorem ClS.put_frm (h : ClS b w0 W BO N m) {z : Int} (hz : I64 z) : ClS b w0 (W.setCell ⟨BO, 0, none⟩ (.int .i64 z)) BO N { m with frm := z } := by
 have h1 := h.hb;have h2 := h.lt;have hq : ∀ q, BO < q /\ OffV m q -> q ≠ BO := fun q hq => by omega
 exact ⟨h.ro.setNew (p := ⟨BO, 0, none⟩) h2 _, h1, h2, h.o.set 0 _, own_set h.c (by omega) _ _, own_set h.s (by omega) _ _, own_set h.l (by omega) _ _, own_set h.g (by omega) _ _, own_set h.r (by omega) _ _, h.ap, h.n, hz, h.i1, h.i2, h.b0, h.b1,
  fun p hp => ⟨(h.b2 p hp).1, (h.b2 p hp).2.other hq _ _⟩, fun p hp => ⟨(h.b3 p hp).1, (h.b3 p hp).2.1.other hq _ _, (h.b3 p hp).2.2.other hq _ _⟩, fun p hp => ⟨(h.b4 p hp).1, (h.b4 p hp).2.other hq _ _⟩⟩
theorem ClS.put_mode (h : ClS b w0 W BO N m) {z : Int} (hz : I64 z) : ClS b w0 (W.setCell ⟨BO, 1, none⟩ (.int .i64 z)) BO N { m with mode := z } := by
 have h1 := h.hb;have h2 := h.lt;have hq : ∀ q, BO < q /\ OffV m q -> q ≠ BO := fun q hq => by omega
 exact ⟨h.ro.setNew (p := ⟨BO, 1, none⟩) h2 _, h1, h2, h.o.set 1 _, own_set h.c (by omega) _ _, own_set h.s (by omega) _ _, own_set h.l (by omega) _ _, own_set h.g (by omega) _ _, own_set h.r (by omega) _ _, h.ap, h.n, h.i0, hz, h.i2, h.b0, h.b1,
  fun p hp => ⟨(h.b2 p hp).1, (h.b2 p hp).2.other hq _ _⟩, fun p hp => ⟨(h.b3 p hp).1, (h.b3 p hp).2.1.other hq _ _, (h.b3 p hp).2.2.other hq _ _⟩, fun p hp => ⟨(h.b4 p hp).1, (h.b4 p hp).2.other hq _ _⟩⟩
theorem ClS.put_unit (h : ClS b w0 W BO N m) {z : Int} (hz : I64 z) : ClS b w0 (W.setCell ⟨BO, 2, none⟩ (.int .i64 z)) BO N { m with unit := z } := by
 have h1 := h.hb;have h2 := h.lt;have hq : ∀ q, BO < q /\ OffV m q -> q ≠ BO := fun q hq => by omega
 exact ⟨h.ro.setNew (p := ⟨BO, 2, none⟩) h2 _, h1, h2, h.o.set 2 _, own_set h.c (by omega) _ _, own_set h.s (by omega) _ _, own_set h.l (by omega) _ _, own_set h.g (by omega) _ _, own_set h.r (by omega) _ _, h.ap, h.n, h.i0, h.i1, hz, h.b0, h.b1,
  fun p hp => ⟨(h.b2 p hp).1, (h.b2 p hp).2.other hq _ _⟩, fun p hp => ⟨(h.b3 p hp).1, (h.b3 p hp).2.1.other hq _ _, (h.b3 p hp).2.2.other hq _ _⟩, fun p hp => ⟨(h.b4 p hp).1, (h.b4 p hp).2.other hq _ _⟩⟩
end
theorem wrd_beh (tk : List Tk) (l : List (List UInt8 × Int)) (s : Pt) : Beh tk s (wrdP tk l s) := by
 unfold wrdP;split
 ·rename_i h
  have hk : ¬ pkK tk s = 0 := by
   intro e;unfold wrdO at h;rw [e] at h; simp at h
  obtain ⟨ho, hi⟩ := pkK_some hk;obtain ⟨t, ht⟩ : ∃ t, tkAt tk s = some t := ⟨tk[s.i], by unfold tkAt; rw [if_pos ho]; exact List.getElem?_eq_getElem hi⟩;exact (adv_beh ht).1
 ·exact no_beh tk s
theorem fac_beh (tk : List Tk) (s : Pt) : Beh tk s (facP tk s) := by
 unfold facP;split
 ·rename_i h
  have hk : ¬ pkK tk s = 0 := by
   intro e;unfold facO at h;rw [e] at h; simp at h
  obtain ⟨ho, hi⟩ := pkK_some hk;obtain ⟨t, ht⟩ : ∃ t, tkAt tk s = some t := ⟨tk[s.i], by unfold tkAt; rw [if_pos ho]; exact List.getElem?_eq_getElem hi⟩;exact (adv_beh ht).1
 ·exact no_beh tk s
theorem pq_beh (tk : List Tk) (s : Pt) : Beh tk s (pq tk s).2 := pe_beh tk _ 0 .no s (by unfold md; decide)
theorem lim_beh (tk : List Tk) (s : Pt) : Beh tk s (limQ tk s).2 := by
 cases h : accB tk kLimit s
 ·rw [limQ_no h]; exact Beh.refl tk s
 ·rw [limQ_yes h]; exact (acc_beh h).1.trans (num_beh tk _ _ _)
theorem cla_rem {tk : List Tk} {v : Ver} {s : Pt} (h : claO tk s = true) : rem tk (claQ tk v s).2 + 1 <= rem tk s := by
 have key : ∀ {x : List UInt8} {t : Pt}, accB tk x s = true -> Beh tk s.adv t -> rem tk (expP tk kSemi t) + 1 <= rem tk s := fun ha hb => by
  have h1 := (acc_beh ha).2;have h2 := (hb.trans (exp_beh tk kSemi _)).rem;omega
 unfold claO at h
 cases h0 : accB tk kCredit s
 ·cases h1 : accB tk kIndex s
  ·cases h2 : accB tk kLet s
   ·cases h3 : accB tk kGrant s
    ·cases h4 : accB tk kReduce s
     ·rw [h0, h1, h2, h3, h4] at h; cases h
     ·rw [(claQ_re h0 h1 h2 h3 h4).1];exact key h4 ((wrd_beh tk _ _).trans ((exp_beh tk _ _).trans (pq_beh tk _)))
    ·rw [(claQ_gr h0 h1 h2 h3).1];exact key h3 ((wrd_beh tk _ _).trans ((exp_beh tk _ _).trans ((pq_beh tk _).trans ((exp_beh tk _ _).trans (pq_beh tk _)))))
   ·rw [(claQ_le h0 h1 h2).1];exact key h2 ((nam_beh tk _).trans ((exp_beh tk _ _).trans (pq_beh tk _)))
  ·rw [(claQ_se h0 h1).1];exact key h1 ((num_beh tk _ _ _).trans (fac_beh tk _))
 ·rw [(claQ_cr h0).1];exact key h0 ((wrd_beh tk _ _).trans (lim_beh tk _))
theorem dat_beh (tk : List Tk) (s : Pt) : Beh tk s (datP tk s) := by
 unfold datP;split
 ·rename_i h;obtain ⟨ho, hi⟩ := pkK_some (tk := tk) (s := s) (by omega);obtain ⟨t, ht⟩ : ∃ t, tkAt tk s = some t := ⟨tk[s.i], by unfold tkAt; rw [if_pos ho]; exact List.getElem?_eq_getElem hi⟩;exact (adv_beh ht).1
 ·exact no_beh tk s
theorem claL_beh (tk : List Tk) (f : Nat) : ∀ v s, Beh tk s (claL tk f v s).2 := by
 induction f with
 | zero => intro v s; exact Beh.refl tk s
 | succ f ih =>
  intro v s;simp only [claL];split
  ·rename_i h;refine Beh.trans ?_ (ih _ _);have key : ∀ {x : List UInt8} {t : Pt}, accB tk x s = true -> Beh tk s.adv t -> Beh tk s (expP tk kSemi t) := fun ha hb => (acc_beh ha).1.trans (hb.trans (exp_beh tk kSemi _))
   cases h0 : accB tk kCredit s
   ·cases h1 : accB tk kIndex s
    ·cases h2 : accB tk kLet s
     ·cases h3 : accB tk kGrant s
      ·cases h4 : accB tk kReduce s
       ·rw [(claQ_no h0 h1 h2 h3 h4).1]; exact Beh.refl tk s
       ·rw [(claQ_re h0 h1 h2 h3 h4).1];exact key h4 ((wrd_beh tk _ _).trans ((exp_beh tk _ _).trans (pq_beh tk _)))
      ·rw [(claQ_gr h0 h1 h2 h3).1];exact key h3 ((wrd_beh tk _ _).trans ((exp_beh tk _ _).trans ((pq_beh tk _).trans ((exp_beh tk _ _).trans (pq_beh tk _)))))
     ·rw [(claQ_le h0 h1 h2).1];exact key h2 ((nam_beh tk _).trans ((exp_beh tk _ _).trans (pq_beh tk _)))
    ·rw [(claQ_se h0 h1).1];exact key h1 ((num_beh tk _ _ _).trans (fac_beh tk _))
   ·rw [(claQ_cr h0).1];exact key h0 ((wrd_beh tk _ _).trans (lim_beh tk _))
  ·exact Beh.refl tk s
theorem ver_beh (tk : List Tk) (s : Pt) : Beh tk s (verQ tk s).2 :=
 (dat_beh tk s).trans ((exp_beh tk _ _).trans ((exp_beh tk _ _).trans ((wrd_beh tk _ _).trans ((num_beh tk _ _ _).trans ((exp_beh tk _ _).trans ((claL_beh tk _ _ _).trans (exp_beh tk _ _)))))))
end Go.Proofs.YthmlhheceihcbaaGreatDoor

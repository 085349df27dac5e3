/- Bundle of texts: each says at its head what it proves; no conditions but those printed. -/
import Derived.Test.YtlmclkaighlfaaaGreatDoorSB8
import Derived.Lib.Hide
import Derived.RangeFuncNested
import Derived.RangeFuncLeaves
import Derived.RangeFuncBox
import Derived.Shelf.Abstract
import Derived.WalkKit
import Derived.OwnWalkIn
import Derived.TacticsInMore
import Derived.LoopNIn
import Derived.LoopIn
import Derived.Test.YtlmclkaighlfaaaGreatDoorProg
namespace Go.Proofs.YtlmclkaighlfaaaGreatDoor
set_option maxHeartbeats 16000000
open Go.RowKit Cal Str Tok Frac Txt Tree
attribute [local go_sem] calmUpon
set_option linter.unusedVariables false
set_option linter.unusedSimpArgs false
def EnvAt (w : World) (k : Nat) (nm : Nat → ByteArray) (dm : Nat → Int) (ad : Option Addr) : Prop := 0 < k → ∃ g off, ad = some ⟨g, off, none⟩ ∧ g < w.heap.size ∧ ∀ i, i < k →
 w.cell? ⟨g, off + i * 2, none⟩ = some (.string (nm i)) ∧ w.cell? ⟨g, off + i * 2 + 1, none⟩ = some (.int .i64 (dm i)) ∧ (nm i).size ≤ 140737488355328 ∧ -9223372036854775808 ≤ dm i ∧ dm i ≤ 9223372036854775807
theorem env_rel {w w' : World} {k : Nat} {nm : Nat → ByteArray} {dm : Nat → Int} {ad : Option Addr} (h : EnvAt w k nm dm ad) (r : Rel w w') : EnvAt w' k nm dm ad := fun h0 => by
 obtain ⟨g, off, e, hg, hc⟩ := h h0;exact ⟨g, off, e, Nat.lt_of_lt_of_le hg r.size, fun i hi => ⟨r.cell (hc i hi).1, r.cell (hc i hi).2.1, (hc i hi).2.2⟩⟩
def dmB (dm : Nat → Int) (i : Nat) : Bool := decide (1 ≤ dm i) && decide (dm i ≤ 4)
def envB (dm : Nat → Int) (k : Nat) : Bool := alK (dmB dm) k
theorem envB_bd {dm : Nat → Int} {k : Nat} (h : envB dm k = true) : ∀ i, i < k → 1 ≤ dm i ∧ dm i ≤ 4 := fun i hi => by
 have := alK_lt h i hi;unfold dmB at this; simpa using this
theorem inf1_any (s : ByteArray) (d : Int) (w : World) :
  Calls Tryz.prog 82 #[.agg #[.string s, .int .i64 d]] w (BRes (!(decide (1 ≤ d) && decide (d ≤ 4))) w) := by
 unfold BRes;by_cases h1 : 1 ≤ d
 ·have b1 : decide (d < 1) = false := dF (by omega)
  have fin : Hid (decide (4 < d) = (!(decide (1 ≤ d) && decide (d ≤ 4)))) := by
   show _ = _
   rw [decide_eq_true h1];by_cases h4 : d ≤ 4
   ·rw [decide_eq_true h4, dF (by omega)]; rfl
   ·rw [decide_eq_false h4, dT (by omega)]; rfl
  go_enter Tryz.func82, Tryz.ntmps82;go_wp2;go_ret;exact ⟨ret_b2 fin.out, by (show Rel _ _; repeat (first | with_reducible (first | exact qR _ | refine qA ?_ _ | refine qD ?_ | refine qT ?_ H0.out) | with_reducible refine qS ?_ (by first | (simp; done) | (simp; omega)) _))⟩
 ·have b1 : decide (d < 1) = true := dT (by omega)
  have fin : Hid (true = (!(decide (1 ≤ d) && decide (d ≤ 4)))) := by
   show _ = _
   rw [decide_eq_false h1]; rfl
  go_enter Tryz.func82, Tryz.ntmps82;go_wp2;go_ret;exact ⟨ret_b2 (by simpa using fin.out), by (show Rel _ _; repeat (first | with_reducible (first | exact qR _ | refine qA ?_ _ | refine qD ?_ | refine qT ?_ H0.out) | with_reducible refine qS ?_ (by first | (simp; done) | (simp; omega)) _))⟩
theorem indexB_any (k : Nat) (nm : Nat → ByteArray) (dm : Nat → Int) (ad : Option Addr) (cap : Nat) (w : World) (hk : Hid (EnvAt w k nm dm ad)) (hn : k ≤ 17592186044416) :
  Calls Tryz.prog 154 #[.slice ad k cap, .func (.func 82) #[] #[]] w fun e w' => ∃ r : Int, e = .returned (.int .i64 r) ∧ decide (0 ≤ r) = (!envB dm k) ∧ Rel w w' := by
 go_enter Tryz.func154, Tryz.ntmps154;go_wp2_with fail
 go_loopw [8] (fun i wx => ∃ j : Nat, j ≤ k ∧ i = .int .i64 j ∧ Hid (alK (dmB dm) j = true) ∧ Hid (Rel w wx)) (fun i _ => k - (intOf i).toNat)
 case atStart => exact ⟨0, by omega, rfl, rfl, Rel.refl _⟩
 case round =>
  obtain ⟨j, hkn, rfl, hA, hR⟩ := hrel;by_cases hlt : j < k
  ·obtain ⟨g, off, rfl, hg, hc⟩ := hk.out (by omega);obtain ⟨q0, q1, -⟩ := hc j hlt;have c0 := hR.out.cell q0;have c1 := hR.out.cell q1;have C := Hj (inf1_any (nm j) (dm j) wr);unfold BRes at C;clear hc q0 q1;go_wp2_with fail;refine C.out.mono ?_;rintro e w1 ⟨rfl, h1⟩;have kz1 := h1.size;(try simp only [zsa, zsc, zsd] at kz1);have H1 := Hj h1;clear h1;obtain ⟨B, hB⟩ : ∃ B, (decide (1 ≤ dm j) && decide (dm j ≤ 4)) = B := ⟨_, rfl⟩;rw [hB];cases B
   ·have fin : Hid (decide (0 ≤ (j : Int)) = !envB dm k) := by
     show _ = _
     unfold envB;rw [alK_no hlt hB]; simp
    clear hB;go_wp2;go_ret;exact ⟨_, rfl, fin.out, hR.out.trans H1.out⟩
   ·have fin : Hid (alK (dmB dm) (j + 1) = true) := by
     show _ = _
     simp only [alK]; rw [hA.out]; exact hB
    clear hB;go_wp2
    go_roundw
    case rel => exact ⟨j + 1, by omega, by go_num, fin, hR.out.trans H1.out⟩
    case measure => simp [intOf]; omega
  ·have : j = k := by omega
   subst this;go_wp2;go_ret;exact ⟨-1, rfl, by unfold envB; rw [hA.out]; rfl, hR.out⟩
theorem containsB_any (k : Nat) (nm : Nat → ByteArray) (dm : Nat → Int) (ad : Option Addr) (cap : Nat) (w : World) (hk : Hid (EnvAt w k nm dm ad)) (hn : k ≤ 17592186044416) :
  Calls Tryz.prog 81 #[.slice ad k cap, .func (.func 82) #[] #[]] w (BRes (!envB dm k) w) := by
 have C := Hj fun w' (r : Rel w w') => indexB_any k nm dm ad cap w' (Hj (env_rel hk.out r)) hn
 unfold BRes;go_enter Tryz.func81, Tryz.ntmps81;go_wp2_with fail;refine (C.out _ (Rel.refl _)).mono ?_;rintro e w1 ⟨r, rfl, hr, h1⟩;have HR := Hj hr;clear hr;go_wp2;go_ret;exact ⟨ret_b2 HR.out, h1⟩
def infV (t : Ex) (nm : Nat → ByteArray) (dm : Nat → Int) (k : Nat) : Int × Int := if (t.valid && envB dm k) = true then t.inf nm dm k else (0, 1)
theorem Infer_of (Q : ByteArray → Prop) (ad : Option Addr) (k cap : Nat) (nm : Nat → ByteArray) (dm : Nat → Int) (w : World) (HL : Hid (envB dm k = true → LookOk Q (.slice ad k cap) nm dm k w)) (hk : Hid (EnvAt w k nm dm ad)) (hn : k ≤ 17592186044416)
  (t : Ex) (x : Value) (h : ExKids t w x) (hz : t.size ≤ 1000000000000) (hq : t.allNm Q) (ht : Hid (TabW w)) :
  Calls Tryz.prog 25 #[.agg #[.int .i64 t.op, .int .i64 t.va, .int .i64 t.vb, .int .i64 t.dm, .string t.nm, x], .slice ad k cap] w (InfRes (infV t nm dm k) w) := by
 obtain ⟨xa, xc, rfl⟩ := kids_slice h;have V := Hj fun w' (r : Rel w w') => ValidExpr_any t _ w' (kids_rel h r) hz (Hj (ht.out.rel r))
 have C := Hj fun w' (r : Rel w w') => containsB_any k nm dm ad cap w' (Hj (env_rel hk.out r)) hn
 have HV : Hid (infV t nm dm k = if (t.valid && envB dm k) = true then t.inf nm dm k else (0, 1)) := rfl;have I := Hj fun (hv : t.valid = true) (he : envB dm k = true) w' (r : Rel w w') => infer_all Q (.slice ad k cap) nm dm k w (Hj (HL.out he)) (Hj (envB_bd he)) t _ w' r (kids_rel h r) (by unfold Ex.valid at hv; simp only [Bool.and_eq_true] at hv; exact hv.2.2) hq
 unfold BRes at V C;obtain ⟨RES, hRES⟩ : ∃ RES, infV t nm dm k = RES := ⟨_, rfl⟩;rw [hRES] at HV ⊢;obtain ⟨A, hA⟩ : ∃ A, t.valid = A := ⟨_, rfl⟩;obtain ⟨B, hB⟩ : ∃ B, envB dm k = B := ⟨_, rfl⟩;rw [hA] at V I HV;rw [hB] at C I HV;clear h hRES hA hB hq;cases A
 ·have fin : Hid (RES = (0, 1)) := HV.out;clear I;go_enter Tryz.func25, Tryz.ntmps25;go_wp2_with fail;refine (V.out _ (by show Rel _ _; (show Rel _ _; repeat (first | with_reducible (first | exact qR _ | refine qA ?_ _ | refine qD ?_ | refine qT ?_ H0.out) | with_reducible refine qS ?_ (by first | (simp; done) | (simp; omega)) _)))).mono ?_;rintro e w1 ⟨rfl, h1⟩;have kq0 := keep6 h1 (b := w.heap.size) (by first | (simp; done) | (simp; omega) | omega);have kz1 := h1.size;(try simp only [zsa, zsc, zsd] at kz1);have H1 := Hj h1;clear h1;go_wp2
  go_ret2
  exact inf_ret fin.out (by (show Rel _ _; repeat (first | with_reducible (first | exact qR _ | refine qA ?_ _ | refine qD ?_ | refine qT ?_ H1.out | refine qT ?_ H0.out) | with_reducible refine qS ?_ (by first | (simp; done) | (simp; omega)) _)))
 ·cases B
  ·have fin : Hid (RES = (0, 1)) := HV.out;clear I;go_enter Tryz.func25, Tryz.ntmps25;go_wp2_with fail;refine (V.out _ (by show Rel _ _; (show Rel _ _; repeat (first | with_reducible (first | exact qR _ | refine qA ?_ _ | refine qD ?_ | refine qT ?_ H0.out) | with_reducible refine qS ?_ (by first | (simp; done) | (simp; omega)) _)))).mono ?_;rintro e w1 ⟨rfl, h1⟩;have kq1 := keep6 h1 (b := w.heap.size) (by first | (simp; done) | (simp; omega) | omega);have kz1 := h1.size;(try simp only [zsa, zsc, zsd] at kz1);have H1 := Hj h1;clear h1;go_wp2_with fail;refine (C.out _ (by show Rel _ _; (show Rel _ _; repeat (first | with_reducible (first | exact qR _ | refine qA ?_ _ | refine qD ?_ | refine qT ?_ H1.out | refine qT ?_ H0.out) | with_reducible refine qS ?_ (by first | (simp; done) | (simp; omega)) _)))).mono ?_;rintro e w2 ⟨rfl, h2⟩;have kq2 := keep6 h2 (b := w.heap.size) (by first | (simp; done) | (simp; omega) | omega);have kz2 := h2.size;(try simp only [zsa, zsc, zsd] at kz2);have H2 := Hj h2;clear h2;go_wp2
   go_ret2
   exact inf_ret fin.out (by (show Rel _ _; repeat (first | with_reducible (first | exact qR _ | refine qA ?_ _ | refine qD ?_ | refine qT ?_ H2.out | refine qT ?_ H1.out | refine qT ?_ H0.out) | with_reducible refine qS ?_ (by first | (simp; done) | (simp; omega)) _)))
  ·have fin : Hid (RES = t.inf nm dm k) := HV.out;have J := Hj (I.out rfl rfl);unfold InfRes at J;obtain ⟨r, hr⟩ : ∃ r, t.inf nm dm k = r := ⟨_, rfl⟩;rw [hr] at J fin;clear I hr;obtain ⟨r1, r2⟩ := r;go_enter Tryz.func25, Tryz.ntmps25;go_wp2_with fail;refine (V.out _ (by show Rel _ _; (show Rel _ _; repeat (first | with_reducible (first | exact qR _ | refine qA ?_ _ | refine qD ?_ | refine qT ?_ H0.out) | with_reducible refine qS ?_ (by first | (simp; done) | (simp; omega)) _)))).mono ?_;rintro e w1 ⟨rfl, h1⟩;have kq3 := keep6 h1 (b := w.heap.size) (by first | (simp; done) | (simp; omega) | omega);have kz1 := h1.size;(try simp only [zsa, zsc, zsd] at kz1);have H1 := Hj h1;clear h1;go_wp2_with fail;refine (C.out _ (by show Rel _ _; (show Rel _ _; repeat (first | with_reducible (first | exact qR _ | refine qA ?_ _ | refine qD ?_ | refine qT ?_ H1.out | refine qT ?_ H0.out) | with_reducible refine qS ?_ (by first | (simp; done) | (simp; omega)) _)))).mono ?_;rintro e w2 ⟨rfl, h2⟩;have kq4 := keep6 h2 (b := w.heap.size) (by first | (simp; done) | (simp; omega) | omega);have kz2 := h2.size;(try simp only [zsa, zsc, zsd] at kz2);have H2 := Hj h2;clear h2;go_wp2_with fail;refine (J.out _ (by show Rel _ _; (show Rel _ _; repeat (first | with_reducible (first | exact qR _ | refine qA ?_ _ | refine qD ?_ | refine qT ?_ H2.out | refine qT ?_ H1.out | refine qT ?_ H0.out) | with_reducible refine qS ?_ (by first | (simp; done) | (simp; omega)) _)))).mono ?_;rintro e w3 ⟨rfl, h3⟩;have kq5 := keep6 h3 (b := w.heap.size) (by first | (simp; done) | (simp; omega) | omega);have kz3 := h3.size;(try simp only [zsa, zsc, zsd] at kz3);have H3 := Hj h3;clear h3;go_wp2
   go_ret2
   exact inf_ret fin.out (by (show Rel _ _; repeat (first | with_reducible (first | exact qR _ | refine qA ?_ _ | refine qD ?_ | refine qT ?_ H3.out | refine qT ?_ H2.out | refine qT ?_ H1.out | refine qT ?_ H0.out) | with_reducible refine qS ?_ (by first | (simp; done) | (simp; omega)) _)))
theorem lookup_in (ev : Value) (nm : Nat → ByteArray) (dm : Nat → Int) (k : Nat) (s : ByteArray) (w : World) (h : ¬ inpI s = 0) :
  Calls Tryz.prog 155 #[.string s, ev] w fun e w'' => e = .returned (.tuple #[.int .i64 (lokI nm dm k s), .bool (!(lokI nm dm k s == 0))]) ∧ Rel w w'' := by
 have hl : lokI nm dm k s = inpI s := by unfold lokI; rw [if_neg h]
 have hb : inpB s = true := by unfold inpB; simpa using h
 rw [hl];have I := Hj fun w => Input_any s w
 rw [hb] at I;have fin : Hid ((!(inpI s == 0)) = true) := hb;rw [fin.out];obtain ⟨l, hl⟩ : ∃ l, inpI s = l := ⟨_, rfl⟩;rw [hl] at I ⊢;clear hb hl h fin;go_enter Tryz.func155, Tryz.ntmps155;go_wp2_with fail;refine (I.out _).mono ?_;rintro e w1 ⟨rfl, rfl⟩;go_wp2;refine bodyPost_ret (v := .tuple #[.int .i64 l, .bool true]) ?_ rfl ⟨rfl, ?_⟩
 ·simp [results, Tryz.results155, go_sem]
 ·(show Rel _ _; repeat (first | with_reducible (first | exact qR _ | refine qA ?_ _ | refine qD ?_ | refine qT ?_ H0.out) | with_reducible refine qS ?_ (by first | (simp; done) | (simp; omega)) _))
def insS : ByteArray := ⟨#[105, 110, 115, 117, 114, 101, 100]⟩
def exN : Ex := .mk 2 0 0 0 insS 0 (fun _ => .no)
def exL : Ex := .mk 1 365 1 3 ⟨#[]⟩ 0 (fun _ => .no)
def exD (op : Int) : Ex := .mk op 0 0 0 ⟨#[]⟩ 2 (fun i => if i = 0 then exN else exL)
theorem exD_kids (op : Int) (h0 : -9223372036854775808 ≤ op) (h1 : op ≤ 9223372036854775807) (W : World) (B : Nat) (hB : B < W.heap.size)
  (s0 : Six W B 0 2 0 0 0 ⟨#[105, 110, 115, 117, 114, 101, 100]⟩ (.slice none 0 0)) (s1 : Six W B 6 1 365 1 3 ⟨#[]⟩ (.slice none 0 0)) : ExKids (exD op) W (.slice (some ⟨B, 0, none⟩) 2 2) := by
 refine ⟨⟨h0, h1, by decide, by decide, by decide, by decide, by decide, by decide, by decide⟩, by decide, _, _, rfl, fun _ => ⟨B, 0, rfl, hB, fun i hi => ?_⟩⟩
 rcases (show i = 0 ∨ i = 1 by omega) with rfl | rfl
 ·exact ⟨_, s0, ⟨⟨by decide, by decide, by decide, by decide, by decide, by decide, by decide, by decide, by decide⟩, by decide, _, _, rfl, fun h => absurd h (by decide)⟩⟩
 ·exact ⟨_, s1, ⟨⟨by decide, by decide, by decide, by decide, by decide, by decide, by decide, by decide, by decide⟩, by decide, _, _, rfl, fun h => absurd h (by decide)⟩⟩
theorem exD_nm (op : Int) (h2 : ¬ op = 2) : (exD op).allNm (fun s => ¬ inpI s = 0) := by
 refine ⟨fun h => absurd h h2, fun i hi => ?_⟩;dsimp only;by_cases h : i = 0
 ·rw [if_pos h]; exact ⟨fun _ => (by rw [show inpI insS = 3 by kernel_rfl]; decide : ¬ inpI insS = 0), fun i hi => absurd hi (by omega)⟩
 ·rw [if_neg h]; exact ⟨fun h => absurd h (by decide), fun i hi => absurd hi (by omega)⟩
theorem inf10 : infV (exD 10) (fun _ => ⟨#[]⟩) (fun _ => 0) 0 = (2, 0) := by kernel_rfl
theorem inf9 : infV (exD 9) (fun _ => ⟨#[]⟩) (fun _ => 0) 0 = (0, 6) := by kernel_rfl
theorem exD_size (op : Int) : (exD op).size ≤ 1000000000000 := by
 have : (exD op).size = 3 := rfl;omega
theorem awake7_any (w : World) (ht : TabW w) : Calls Tryz.prog 10 #[] w (BRes true w) := by
 have HT := Hj ht;clear ht;have I := Hj fun op (h0 : -9223372036854775808 ≤ op) (h1 : op ≤ 9223372036854775807) (h2 : ¬ op = 2) (W : World) (r : Rel w W) (B : Nat) (hB : B < W.heap.size) s0 s1 => Infer_of (fun s => ¬ inpI s = 0) none 0 0 (fun _ => ⟨#[]⟩) (fun _ => 0) W (Hj (fun _ s w' h _ _ => lookup_in _ _ _ _ s w' h)) (Hj (fun h => absurd h (by decide))) (by decide) (exD op) _ (exD_kids op h0 h1 W B hB s0 s1) (exD_size op) (exD_nm op h2) (Hj (HT.out.rel r))
 unfold BRes;go_enter Tryz.func10, Tryz.ntmps10;go_wp2_with fail;refine (I.out 10 (by decide) (by decide) (by decide) _ (by show Rel _ _; (show Rel _ _; repeat (first | with_reducible (first | exact qR _ | refine qA ?_ _ | refine qD ?_ | refine qT ?_ H0.out) | with_reducible refine qS ?_ (by first | (simp; done) | (simp; omega)) _))) (w.heap.size + 1 + 1) (by simp) ⟨by go_simp, by go_simp, by go_simp, by go_simp, by go_simp, by go_simp⟩ ⟨by go_simp, by go_simp, by go_simp, by go_simp, by go_simp, by go_simp⟩).mono ?_;unfold InfRes;rw [inf10];rintro e w1 ⟨rfl, h1⟩;have kq0 := keep6 h1 (b := w.heap.size) (by first | (simp; done) | (simp; omega) | omega);have kq1 := keep6 h1 (b := w.heap.size + 1) (by first | (simp; done) | (simp; omega) | omega);have kz1 := h1.size;(try simp only [zsa, zsc, zsd] at kz1);have H1 := Hj h1;clear h1;go_wp2_with fail;refine (I.out 9 (by decide) (by decide) (by decide) _ (by show Rel _ _; (show Rel _ _; repeat (first | with_reducible (first | exact qR _ | refine qA ?_ _ | refine qD ?_ | refine qT ?_ H1.out | refine qT ?_ H0.out) | with_reducible refine qS ?_ (by first | (simp; done) | (simp; omega)) _))) w1.heap.size (by simp) ⟨by go_simp, by go_simp, by go_simp, by go_simp, by go_simp, by go_simp⟩ ⟨by go_simp, by go_simp, by go_simp, by go_simp, by go_simp, by go_simp⟩).mono ?_;unfold InfRes;rw [inf9];rintro e w2 ⟨rfl, h2⟩;have kz2 := h2.size;(try simp only [zsa, zsc, zsd] at kz2);have H2 := Hj h2;clear h2;go_wp2;go_ret;exact ⟨rfl, by (show Rel _ _; repeat (first | with_reducible (first | exact qR _ | refine qA ?_ _ | refine qD ?_ | refine qT ?_ H2.out | refine qT ?_ H1.out | refine qT ?_ H0.out) | with_reducible refine qS ?_ (by first | (simp; done) | (simp; omega)) _))⟩
end Go.Proofs.YtlmclkaighlfaaaGreatDoor
namespace Go.Proofs.YtlmclkaighlfaaaGreatDoor
set_option maxHeartbeats 16000000
open Go.RowKit Go.Shelf
attribute [local go_sem] Oper.semAt_some
set_option linter.unusedVariables false
def downL (k m : Nat) : List Nat := (List.range m).map fun j => k - 1 - j
theorem downL_succ (k m : Nat) : downL k (m + 1) = downL k m ++ [k - 1 - m] := by simp [downL, List.range_succ]
theorem downL_length (k m : Nat) : (downL k m).length = m := by simp [downL]
def encB (nm : Nat → ByteArray) (dm : Nat → Int) (i : Nat) : Array Value := #[.int .i64 (i : Int), .agg #[.string (nm i), .int .i64 (dm i)]]
set_option maxRecDepth 100000 in
theorem back1_in (F : Fence) (n : Nat) (hF : F.fn 226) (hro : F.round = none) (hn : 1 ≤ n) (l Bs n₀ g off k cap : Nat) (nm : Nat → ByteArray) (dm : Nat → Int) (hreach : k ≤ 17592186044416) (hb : g < n₀) (J Jx : List Nat → World → Prop)
  (hY : ∀ pre x W, J pre W → pre.length < k → YieldAt F (n - 1) Tryz.prog l (encB nm dm x) W fun e W' =>
   (e = .returned (.bool true) ∧ J (pre ++ [x]) W' ∧ Below n₀ W W') ∨ (e = .returned (.bool false) ∧ Jx (pre ++ [x]) W'))
  (W : World) (hBs : W.cell? ⟨Bs, 0, none⟩ = some (.slice (some ⟨g, off, none⟩) k cap)) (hBl : Bs < n₀) (hc : ∀ i, i < k → W.cell? ⟨g, off + i * 2, none⟩ = some (.string (nm i)) ∧ W.cell? ⟨g, off + i * 2 + 1, none⟩ = some (.int .i64 (dm i))) (h0 : J [] W) :
  CallsIn F n Tryz.prog 226 #[.func (.yield l) #[] #[], .pointer (some ⟨Bs, 0, none⟩)] W fun e W' => (∃ v, e = .returned v) ∧
   ((∃ ys, ys = downL k k ∧ J ys W') ∨ (∃ pre, (∃ m, m ≤ k ∧ pre = downL k m) ∧ Jx pre W')) := by
 refine callsIn_of_wp Tryz.func226 rfl hF ?_ hro;simp only [Tryz.ntmps226, List.size_toArray, List.length_cons, List.length_nil, Nat.reduceAdd, Nat.reduceSub, Array.replicate_succ, Array.replicate_zero, List.push_toArray, List.append_toArray, List.nil_append, List.cons_append];have i1 : IntKind.i64.wrap ((k : Int) - 1) = (k : Int) - 1 := IntWalk.i64_in _ ⟨by omega, by omega⟩
 gi_wp2
 gi_loopw [3] (fun i wr => ∃ m : Nat, m ≤ k ∧ i = .int .i64 ((k : Int) - 1 - m) ∧ J (downL k m) wr ∧ Below n₀ W wr) (fun i _ => (intOf i + 1).toNat)
 case atStart => exact ⟨0, Nat.zero_le _, by simp, h0, Below.refl _ _⟩
 case round =>
  obtain ⟨m, hm, rfl, hJs, hnx⟩ := hrel;have hs := (hnx.cell (p := ⟨Bs, 0, none⟩) hBl).trans hBs;by_cases hlt : m < k
  ·obtain ⟨q0, q1⟩ := hc (k - 1 - m) (by omega);have c0 := (hnx.cell (p := ⟨g, off + (k - 1 - m) * 2, none⟩) hb).trans q0;have c1 := (hnx.cell (p := ⟨g, off + (k - 1 - m) * 2 + 1, none⟩) hb).trans q1;obtain ⟨j, hj⟩ : ∃ j, k - 1 - m = j := ⟨_, rfl⟩;have hji : (k : Int) - 1 - m = (j : Int) := by omega
   have hjk : j < k := by omega
   obtain ⟨fn, tmps, assign, body, hy, hR⟩ := hY _ j wr hJs (by rw [downL_length]; exact hlt);unfold encB at hy;rw [hj] at c0 c1;rw [hji];have w1 : IntKind.i64.wrap ((j : Int) - 1) = (j : Int) - 1 := IntWalk.i64_in _ ⟨by omega, by omega⟩;clear q0 q1
   gi_wp2
   refine hR.mono ?_;rintro e W3 (⟨rfl, hJ3, hk3⟩ | ⟨rfl, hJx3⟩)
   ·gi_wp2
    go_roundw
    case rel => exact ⟨m + 1, by omega, by simp; omega, by rw [downL_succ, hj]; exact hJ3, hnx.trans hk3⟩
    case measure => simp [intOf]
   ·gi_wp2
    refine bodyPost_ret (results_none rfl _ _ _) rfl ?_;exact ⟨⟨_, rfl⟩, .inr ⟨_, ⟨m + 1, by omega, by rw [downL_succ, hj]⟩, hJx3⟩⟩
  ·obtain rfl : m = k := by omega
   gi_wp2
   go_end0
   exact ⟨⟨_, rfl⟩, .inl ⟨_, rfl, hJs⟩⟩
set_option maxRecDepth 100000 in
theorem back0_in (F : Fence) (n : Nat) (hF : F.fn 226) (hro : F.round = none) (l Bs cap : Nat) (ad : Option Addr) (J : List Nat → World → Prop) (W : World) (hBs : W.cell? ⟨Bs, 0, none⟩ = some (.slice ad 0 cap)) (h0 : J [] W) :
  CallsIn F n Tryz.prog 226 #[.func (.yield l) #[] #[], .pointer (some ⟨Bs, 0, none⟩)] W fun e W' => (∃ v, e = .returned v) ∧ J [] W' := by
 refine callsIn_of_wp Tryz.func226 rfl hF ?_ hro;simp only [Tryz.ntmps226, List.size_toArray, List.length_cons, List.length_nil, Nat.reduceAdd, Nat.reduceSub, Array.replicate_succ, Array.replicate_zero, List.push_toArray, List.append_toArray, List.nil_append, List.cons_append]
 gi_wp2
 gi_loopw [3] (fun i wr => i = .int .i64 (-1) ∧ J [] wr) (fun _ _ => 0)
 case atStart => exact ⟨rfl, h0⟩
 case round =>
  obtain ⟨rfl, hJs⟩ := hrel
  gi_wp2
  go_end0
  exact ⟨⟨_, rfl⟩, hJs⟩
theorem back_in (F : Fence) (n : Nat) (hF : F.fn 197) (hro : F.round = none) (a : Option Addr) (k cap : Nat) (w : World) :
  CallsIn F n Tryz.prog 197 #[.slice a k cap] w fun e w' => e = .returned (.func (.func 226) #[] #[.pointer (some ⟨w.heap.size, 0, none⟩)]) ∧ w' = w.alloc (.cells #[.slice a k cap] 117) := by
 refine callsIn_of_wp Tryz.func197 rfl hF ?_ hro;simp only [Tryz.ntmps197, List.size_toArray, List.length_cons, List.length_nil, Nat.reduceAdd, Nat.reduceSub, Array.replicate_succ, Array.replicate_zero, List.push_toArray, List.append_toArray, List.nil_append, List.cons_append]
 gi_wp2
 go_ret;exact ⟨rfl, rfl⟩
def BindAt (n₀ : Nat) (W : World) (k : Nat) (nm : Nat → ByteArray) (dm : Nat → Int) (ad : Option Addr) : Prop := 0 < k → ∃ g off, ad = some ⟨g, off, none⟩ ∧ g < n₀ ∧ ∀ i, i < k → W.cell? ⟨g, off + i * 2, none⟩ = some (.string (nm i)) ∧ W.cell? ⟨g, off + i * 2 + 1, none⟩ = some (.int .i64 (dm i))
theorem BindAt.below {n₀ : Nat} {A B : World} {k : Nat} {nm : Nat → ByteArray} {dm : Nat → Int} {ad : Option Addr} (h : BindAt n₀ A k nm dm ad) (b : Below n₀ A B) : BindAt n₀ B k nm dm ad := fun h0 => by
 obtain ⟨g, off, e, hg, hc⟩ := h h0;exact ⟨g, off, e, hg, fun i hi => ⟨(b.cell (p := ⟨g, off + i * 2, none⟩) hg).trans (hc i hi).1, (b.cell (p := ⟨g, off + i * 2 + 1, none⟩) hg).trans (hc i hi).2⟩⟩
theorem back_stops (F : Fence) (n : Nat) (hF : F.fn 226) (hro : F.round = none) (hn : 1 ≤ n) (Bs n₀ k cap : Nat) (nm : Nat → ByteArray) (dm : Nat → Int) (ad : Option Addr) (hreach : k ≤ 17592186044416) (w : World) (hBs : Bs < n₀) (hn₀ : n₀ ≤ w.heap.size)
  (hc : w.cell? ⟨Bs, 0, none⟩ = some (.slice ad k cap)) (hI : BindAt n₀ w k nm dm ad) :
  SeqStopsK F n Tryz.prog 226 #[.pointer (some ⟨Bs, 0, none⟩)] (encB nm dm) (Below n₀) (fun ys => ys = downL k k) (fun pre => ∃ m, m ≤ k ∧ pre = downL k m) k w := fun l J Jx W hW _ _ hY h0 => by
 have hc' := (hW.cell (p := ⟨Bs, 0, none⟩) (Nat.lt_of_lt_of_le hBs hn₀)).trans hc;have hI' := hI.below (hW.mono hn₀);by_cases hk : 0 < k
 ·obtain ⟨g, off, rfl, hg, hcs⟩ := hI' hk;exact back1_in F n hF hro hn l Bs n₀ g off k cap nm dm hreach hg J Jx hY W hc' hBs hcs h0
 ·obtain rfl : k = 0 := by omega
  exact (back0_in F n hF hro l Bs cap ad J W hc' h0).mono fun e W' ⟨he, hj⟩ => ⟨he, .inl ⟨_, rfl, hj⟩⟩
def lastB (p : Nat → Bool) : Nat → Option Nat
 | 0 => none
 | k + 1 => if p k = true then some k else lastB p k
theorem lastB_none {p : Nat → Bool} {k : Nat} (h : ∀ i, i < k → p i = false) : lastB p k = none := by
 induction k with
 | zero => rfl
 | succ k ih => simp only [lastB]; rw [h k (by omega), if_neg (by simp)]; exact ih (fun i hi => h i (by omega))
theorem lastB_some {p : Nat → Bool} {k x : Nat} (hx : x < k) (hp : p x = true) (h : ∀ i, x < i → i < k → p i = false) : lastB p k = some x := by
 induction k with
 | zero => omega
 | succ k ih =>
  simp only [lastB];by_cases e : x = k
  ·subst e; rw [if_pos hp]
  ·rw [h k (by omega) (by omega), if_neg (by simp)]; exact ih (by omega) (fun i h1 h2 => h i h1 (by omega))
theorem downL_mem {k m i : Nat} (hm : m ≤ k) (h1 : k - m ≤ i) (h2 : i < k) : i ∈ downL k m := by
 unfold downL; rw [List.mem_map]; exact ⟨k - 1 - i, by rw [List.mem_range]; omega, by omega⟩
def BBox (W : World) (B : Nat) (s : ByteArray) (d : Int) : Prop := W.heap[B]? = some (.cells #[.string s, .int .i64 d] 120 (0, 0))
theorem BBox.kept {W W' : World} {row : Option Nat} {B : Nat} {s : ByteArray} {d : Int} (h : BBox W B s d) (hg : W.grownBy W' row) (hne : some B ≠ row) : BBox W' B s d := (hg.block B (Array.getElem?_eq_some_iff.1 h).1 hne).trans h
theorem BBox.c0 {W : World} {B : Nat} {s : ByteArray} {d : Int} (h : BBox W B s d) : W.cell? ⟨B, 0, none⟩ = some (.string s) := by simp [World.cell?, show W.heap[B]? = _ from h]
theorem BBox.c1 {W : World} {B : Nat} {s : ByteArray} {d : Int} (h : BBox W B s d) : W.cell? ⟨B, 1, none⟩ = some (.int .i64 d) := by simp [World.cell?, show W.heap[B]? = _ from h]
theorem bbox_own (B : Nat) (s : ByteArray) (d : Int) : Own (fun (_ : Unit) W => BBox W B s d) := fun _ X Y row hs hg hrow =>
 hs.kept hg (fun e' => by obtain ⟨o, ho, hc⟩ := hrow B e'.symm; rw [show X.heap[B]? = _ from hs] at ho; cases ho; cases hc)
set_option maxRecDepth 100000 in
theorem lookup_core (s : ByteArray) (k cap : Nat) (nm : Nat → ByteArray) (dm : Nat → Int) (ad : Option Addr) (w : World) (hreach : k ≤ 17592186044416) (hE : BindAt w.heap.size w k nm dm ad)
  (R : Int) (B : Bool) (hR0 : Hid (lastB (fun i => (nm i).toList == s.toList) k = none → R = 0 ∧ B = false)) (hR1 : Hid (∀ i, lastB (fun i => (nm i).toList == s.toList) k = some i → R = dm i ∧ B = true))
  (hI : Hid (∀ w', Calls Tryz.prog 143 #[.string s] w' fun e w'' => e = .returned (.tuple #[.int .i64 0, .bool false]) ∧ w' = w'')) :
  Calls Tryz.prog 155 #[.string s, .slice ad k cap] w fun e w' => e = .returned (.tuple #[.int .i64 R, .bool B]) ∧ Below w.heap.size w w' := by
 refine (callsIn_wide (n := 5)).1 ?_;have hro : (Fence.wide).round = none := rfl;have h1 : 1 ≤ 5 := by omega
 refine callsIn_of_wp_marks Tryz.func155 rfl trivial ?_ hro;simp only [Tryz.ntmps155, List.size_toArray, List.length_cons, List.length_nil, Nat.reduceAdd, Nat.reduceSub, Array.replicate_succ, Array.replicate_zero, List.push_toArray, List.append_toArray, List.nil_append, List.cons_append]
 gi_wp2_with (first | (refine ⟨trivial, ?_⟩; gi_at_call 143; refine (callsIn_wide.2 (hI.out _)).mono ?_; rintro e w1 ⟨rfl, rfl⟩) | (refine ⟨trivial, ?_⟩; gi_at_call 197; refine (back_in Fence.wide _ trivial rfl _ _ _ _).mono ?_; rintro e w1 ⟨rfl, rfl⟩))
 have bs := ((Boxed.new w 9 (.string s)).alloc (.cells #[.int .i64 0] 3)).alloc (.cells #[.bool false] 4) |>.alloc (.cells #[.slice ad k cap] 117);have b1 := (Boxed.new (w.alloc (.cells #[.string s] 9)) 3 (.int .i64 0)).alloc (.cells #[.bool false] 4) |>.alloc (.cells #[.slice ad k cap] 117);have b2 := (Boxed.new ((w.alloc (.cells #[.string s] 9)).alloc (.cells #[.int .i64 0] 3)) 4 (.bool false)).alloc (.cells #[.slice ad k cap] 117);have b3 := Boxed.new (((w.alloc (.cells #[.string s] 9)).alloc (.cells #[.int .i64 0] 3)).alloc (.cells #[.bool false] 4)) 117 (.slice ad k cap);simp only [World.size_alloc] at b1 b2 b3;have hB0 : Below w.heap.size w ((((w.alloc (.cells #[.string s] 9)).alloc (.cells #[.int .i64 0] 3)).alloc (.cells #[.bool false] 4)).alloc (.cells #[.slice ad k cap] 117)) := ((((Below.refl _ w).alloc (Nat.le_refl _) _).alloc (by simp) _).alloc (by simp; omega) _).alloc (by simp; omega) _;have hsz : ((((w.alloc (.cells #[.string s] 9)).alloc (.cells #[.int .i64 0] 3)).alloc (.cells #[.bool false] 4)).alloc (.cells #[.slice ad k cap] 117)).heap.size = w.heap.size + 4 := by simp
 obtain ⟨W0, hW0⟩ : ∃ W0, ((((w.alloc (.cells #[.string s] 9)).alloc (.cells #[.int .i64 0] 3)).alloc (.cells #[.bool false] 4)).alloc (.cells #[.slice ad k cap] 117)) = W0 := ⟨_, rfl⟩;rw [hW0] at bs b1 b2 b3 hB0 hsz ⊢
 have hE0 : BindAt W0.heap.size W0 k nm dm ad := fun h0 => by
  obtain ⟨g, off, e, hg, hc⟩ := hE.below hB0 h0;exact ⟨g, off, e, by omega, hc⟩
 clear hW0
 refine wpIn_rangeFunc_ownH hro h1 (gf := 226) (lb := #[.pointer (some ⟨w.heap.size + 1 + 1 + 1, 0, none⟩)]) rfl trivial (enters_of Tryz.func226 (by kernel_rfl) rfl)
  (back_stops Fence.wide _ trivial rfl (by omega) (w.heap.size + 1 + 1 + 1) W0.heap.size k cap nm dm ad hreach W0 (by omega) (Nat.le_refl _) b3.cell hE0) belowK_t (belowK_b (Nat.le_refl _)) (Below.refl _ _) (fun _ => rfl)
  (fun pre W => ((∀ y, y ∈ pre → ((nm y).toList == s.toList) = false) ∧ Boxed W w.heap.size 9 (.string s) ∧ Boxed W (w.heap.size + 1) 3 (.int .i64 0) ∧ Boxed W (w.heap.size + 1 + 1) 4 (.bool false)) ∧ Below W0.heap.size W0 W)
  (fun c pre W => (c = .ret ∧ ∃ pre0 x, pre = pre0 ++ [x] ∧ ((nm x).toList == s.toList) = true ∧ (∀ y, y ∈ pre0 → ((nm y).toList == s.toList) = false) ∧ Boxed W (w.heap.size + 1) 3 (.int .i64 (dm x)) ∧ Boxed W (w.heap.size + 1 + 1) 4 (.bool true)) ∧ Below w.heap.size w W)
  (OwnFrom.and (Own.from (fun _ A B row hs hg hr => ⟨hs.1, boxed_own _ _ (fun (_ : Unit) => Value.string s) () A B row hs.2.1 hg hr, boxed_own _ _ (fun (_ : Unit) => Value.int .i64 0) () A B row hs.2.2.1 hg hr, boxed_own _ _ (fun (_ : Unit) => Value.bool false) () A B row hs.2.2.2 hg hr⟩) _) (ownFrom_below (Nat.le_refl _) (Nat.le_refl _)))
  (fun c => OwnFrom.and (Own.from (fun _ A B row hs hg hr => by
   obtain ⟨e, pre0, x, e1, e2, e3, e4, e5⟩ := hs
   exact ⟨e, pre0, x, e1, e2, e3, boxed_own _ _ (fun (_ : Unit) => Value.int .i64 (dm x)) () A B row e4 hg hr, boxed_own _ _ (fun (_ : Unit) => Value.bool true) () A B row e5 hg hr⟩) _) (ownFrom_below (Nat.le_refl _) (by omega)))
  ⟨⟨fun y hy => by simp at hy, bs, b1, b2⟩, Below.refl _ _⟩
  (fun x a' W => ∃ Bx, BBox W Bx (nm x) (dm x) ∧ a' = { tmps := #[.string s, .slice ad k cap, .pointer (some ⟨w.heap.size, 0, none⟩), undef, .pointer (some ⟨w.heap.size + 1, 0, none⟩), .pointer (some ⟨w.heap.size + 1 + 1, 0, none⟩), .int .i64 0, .bool false, undef, .pointer (some ⟨Bx, 0, none⟩), .tuple #[.int .i64 0, .bool false], .string s, .tuple #[.int .i64 0, .bool false], .int .i64 0, .bool false, .bool false, undef, .slice ad k cap, .func (.func 226) #[] #[.pointer (some ⟨w.heap.size + 1 + 1 + 1, 0, none⟩)], .int .i64 x, .agg #[.string (nm x), .int .i64 (dm x)], undef, undef, undef, undef, undef, undef], defers := [] })
  (fun x a' _ X Y row hs hg hr => by obtain ⟨Bx, h2, h3⟩ := hs; exact ⟨Bx, bbox_own Bx _ _ () X Y row h2 hg (fun r e => (hr r e).2), h3⟩)
  ?assign ?body ?done ?stop
 case assign =>
  rintro l pre x W K ⟨⟨hne, bs1, b11, b21⟩, hB1⟩ hK;have hX : BBox (W.alloc (.cells #[.string (nm x), .int .i64 (dm x)] 120)) W.heap.size (nm x) (dm x) := World.alloc_heap_new W _;unfold encB
  gi_wp2
  exact hK _ _ ((KeepsOthers.alloc _ _).from _) ((Below.refl _ W).alloc hB1.size _) ⟨⟨hne, bs1.alloc _, b11.alloc _, b21.alloc _⟩, hB1.alloc hB1.size _⟩ ⟨W.heap.size, hX, rfl⟩
 case body =>
  rintro l pre x a' W hl ⟨r, hr⟩ ⟨⟨hne, bs1, b11, b21⟩, hB1⟩ ⟨Bx, hX, rfl⟩ hlt;have c0 := hX.c0;have c1 := hX.c1;have cs := bs1.cell;have d1 := b11.cell;have d2 := b21.cell;have f1 := b11.frozen;have f2 := b21.frozen
  cases hx : ((nm x).toList == s.toList)
  ·gi_wp2
   exact ⟨KeepsFrom.refl _ _, Below.refl _ _, ⟨fun y hy => (List.mem_append.1 hy).elim (hne y) (fun e => by simp at e; subst e; exact hx), bs1, b11, b21⟩, hB1⟩
  ·have b12 := b11.set (.int .i64 (dm x));have b22 := (b21.other (B' := w.heap.size + 1) (by omega) (.int .i64 (dm x))).set (.bool true);have b13 := b12.other (B' := w.heap.size + 1 + 1) (by omega) (.bool true)
   gi_wp2
   exact ⟨((KeepsOthers.setCell _ _ _).trans (KeepsOthers.setCell _ _ _)).from _, ⟨rfl, pre, x, rfl, hx, hne, b13, b22⟩, ((hB0.trans (hB1.mono (by omega))).setCell (p := ⟨w.heap.size + 1, 0, none⟩) (by simp) _).setCell (p := ⟨w.heap.size + 1 + 1, 0, none⟩) (by simp; omega) _⟩
 case done =>
  rintro D ys W hD rfl ⟨⟨hne, bs1, b11, b21⟩, hB1⟩ hK;have d1 := b11.cell;have d2 := b21.cell;have f1 := b11.frozen;have f2 := b21.frozen;obtain ⟨rfl, rfl⟩ := hR0.out (lastB_none (fun i hi => hne i (downL_mem (Nat.le_refl _) (by omega) hi)));have HB := Hj (hB0.trans (hB1.mono (by omega : w.heap.size ≤ W0.heap.size)));have b12 := Hj ((b11.set (.int .i64 0)).other (B' := w.heap.size + 1 + 1) (by omega) (.bool false));have b22 := Hj ((b21.other (B' := w.heap.size + 1) (by omega) (.int .i64 0)).set (.bool false));have HK := Hj ((KeepsOthers.setCell _ ⟨w.heap.size + 1 + 1, 0, none⟩ (.bool false)).same D _ ((KeepsOthers.setCell W ⟨w.heap.size + 1, 0, none⟩ (.int .i64 0)).same D _ hK rfl) rfl);clear hE hE0 hB0 hB1 hne bs b1 b2 b3 hR0 hR1
  gi_wp2
  refine ⟨by simp, .inl ⟨_, _, rfl, run_takeDeferred HK.out, ?_⟩⟩;have g1 := cell_kept b12.out.cell (grownBy_putObj' _ D (.deferred none)) (fun r e => by cases e; exact ⟨_, HK.out, rfl⟩);have g2 := cell_kept b22.out.cell (grownBy_putObj' _ D (.deferred none)) (fun r e => by cases e; exact ⟨_, HK.out, rfl⟩);refine ⟨.tuple #[.int .i64 0, .bool false], ?_, rfl, ((HB.out.setCell (p := ⟨w.heap.size + 1, 0, none⟩) (by simp) _).setCell (p := ⟨w.heap.size + 1 + 1, 0, none⟩) (by simp; omega) _).trans (belowK_b (w := w) (Nat.le_refl _) _ D _ _ (by omega) HK.out rfl rfl)⟩;simp [results, Tryz.results155, go_sem, g1, g2]
 case stop =>
  rintro D c pre W hD ⟨m, hm, hpre⟩ ⟨⟨rfl, pre0, x, e1, e2, e3, e4, e5⟩, hB⟩ hK
  have hx : lastB (fun i => (nm i).toList == s.toList) k = some x := by
   cases m with
   | zero => rw [e1] at hpre; exact absurd hpre (by simp [downL])
   | succ m =>
    rw [e1, downL_succ] at hpre;obtain ⟨q1, q2⟩ := List.append_inj' hpre rfl;simp at q2;subst q2;exact lastB_some (by omega) e2 (fun i h1 h2 => e3 i (by rw [q1]; exact downL_mem (by omega) (by omega) h2))
  obtain ⟨rfl, rfl⟩ := hR1.out x hx;have HK := Hj hK;have HB := Hj hB;have b12 := Hj e4;have b22 := Hj e5;clear hE hE0 hB0 hB e1 e2 e3 e4 e5 bs b1 b2 b3 hR0 hR1 hx hpre hK
  gi_wp2
  refine ⟨by simp, .inl ⟨_, _, rfl, run_takeDeferred HK.out, ?_⟩⟩;have g1 := cell_kept b12.out.cell (grownBy_putObj' _ D (.deferred none)) (fun r e => by cases e; exact ⟨_, HK.out, rfl⟩);have g2 := cell_kept b22.out.cell (grownBy_putObj' _ D (.deferred none)) (fun r e => by cases e; exact ⟨_, HK.out, rfl⟩);refine ⟨.tuple #[.int .i64 (dm x), .bool true], ?_, rfl, HB.out.trans (belowK_b (w := w) (Nat.le_refl _) _ D _ _ (by omega) HK.out rfl rfl)⟩;simp [results, Tryz.results155, go_sem, g1, g2]
end Go.Proofs.YtlmclkaighlfaaaGreatDoor
namespace Go.Proofs.YtlmclkaighlfaaaGreatDoor
set_option maxHeartbeats 16000000
open Go.RowKit Cal Str Tok Frac Txt Tree
attribute [local go_sem] calmUpon
set_option linter.unusedVariables false
set_option linter.unusedSimpArgs false
theorem nm_eq {a b : ByteArray} : (a.toList == b.toList) = true ↔ a.data.toList = b.data.toList := by
 rw [Lib.toList_data, Lib.toList_data, beq_iff_eq]
theorem nm_ne {a b : ByteArray} (h : (a.toList == b.toList) = false) : ¬ a.data.toList = b.data.toList := fun e => by
 rw [nm_eq.2 e] at h; cases h
theorem envI_hit {nm : Nat → ByteArray} {dm : Nat → Int} {s : ByteArray} {k j : Nat} (hj : j < k) (h : (nm j).data.toList = s.data.toList) (hn : ∀ i, j < i → i < k → ¬ (nm i).data.toList = s.data.toList) : envI nm dm s k = dm j := by
 induction k with
 | zero => omega
 | succ k ih =>
  simp only [envI];by_cases e : j = k
  ·subst e; rw [if_pos h]
  ·rw [if_neg (hn k (by omega) (by omega))]; exact ih (by omega) (fun i h1 h2 => hn i h1 (by omega))
theorem envI_none {nm : Nat → ByteArray} {dm : Nat → Int} {s : ByteArray} {k : Nat} (hn : ∀ i, i < k → ¬ (nm i).data.toList = s.data.toList) : envI nm dm s k = 0 := by
 induction k with
 | zero => rfl
 | succ k ih =>
  simp only [envI];rw [if_neg (hn k (by omega))]; exact ih (fun i h => hn i (by omega))
theorem lastB_envI (nm : Nat → ByteArray) (dm : Nat → Int) (s : ByteArray) (k : Nat) : (lastB (fun i => (nm i).toList == s.toList) k = none → envI nm dm s k = 0) ∧ ∀ i, lastB (fun i => (nm i).toList == s.toList) k = some i → i < k ∧ envI nm dm s k = dm i := by
 induction k with
 | zero => exact ⟨fun _ => rfl, fun i h => by cases h⟩
 | succ k ih =>
  simp only [lastB, envI];by_cases hx : ((nm k).toList == s.toList) = true
  ·rw [if_pos hx, if_pos (nm_eq.1 hx)];exact ⟨(fun h => by cases h), fun i h => by cases h; exact ⟨by omega, rfl⟩⟩
  ·rw [if_neg hx, if_neg (fun e => hx (nm_eq.2 e))];exact ⟨ih.1, fun i h => ⟨by have := (ih.2 i h).1; omega, (ih.2 i h).2⟩⟩
theorem bind_of {w : World} {k : Nat} {nm : Nat → ByteArray} {dm : Nat → Int} {ad : Option Addr} (h : EnvAt w k nm dm ad) : BindAt w.heap.size w k nm dm ad := fun h0 => by
 obtain ⟨g, off, e, hg, hc⟩ := h h0;exact ⟨g, off, e, hg, fun i hi => ⟨(hc i hi).1, (hc i hi).2.1⟩⟩
theorem lookup_any (nm : Nat → ByteArray) (dm : Nat → Int) (k cap : Nat) (ad : Option Addr) (s : ByteArray) (w : World) (hk : EnvAt w k nm dm ad) (hn : k ≤ 17592186044416) (hd : ∀ i, i < k → 1 ≤ dm i) :
  Calls Tryz.prog 155 #[.string s, .slice ad k cap] w fun e w'' => e = .returned (.tuple #[.int .i64 (lokI nm dm k s), .bool (!(lokI nm dm k s == 0))]) ∧ Rel w w'' := by
 by_cases h : inpI s = 0
 ·have hl : lokI nm dm k s = envI nm dm s k := by unfold lokI; rw [if_pos h]
  have hb : inpB s = false := by unfold inpB; rw [h]; rfl
  obtain ⟨e0, e1⟩ := lastB_envI nm dm s k;rw [hl]
  exact lookup_core s k cap nm dm ad w hn (bind_of hk) _ _ (fun h => by rw [e0 h]; exact ⟨rfl, rfl⟩) (fun i h => by
   obtain ⟨a, b⟩ := e1 i h;have := hd i a
   rw [b]; exact ⟨rfl, by simp; omega⟩) (fun w' => by
   have := Input_any s w'
   rw [h, hb] at this; exact this)
 ·exact lookup_in _ nm dm k s w h
theorem look_all (nm : Nat → ByteArray) (dm : Nat → Int) (k cap : Nat) (ad : Option Addr) (w : World) (hk : EnvAt w k nm dm ad) (hn : k ≤ 17592186044416) (he : envB dm k = true) : LookOk (fun _ => True) (.slice ad k cap) nm dm k w :=
 fun s w' _ _ r => lookup_any nm dm k cap ad s w' (env_rel hk r) hn (fun i hi => (envB_bd he i hi).1)
theorem allNm_all (t : Ex) : t.allNm (fun _ => True) := by
 induction t with
 | no => trivial
 | mk op a b d s n kid ih => exact ⟨fun _ => trivial, fun i _ => ih i⟩
theorem Infer_any (ad : Option Addr) (k cap : Nat) (nm : Nat → ByteArray) (dm : Nat → Int) (w : World) (hk : EnvAt w k nm dm ad) (hn : k ≤ 17592186044416) (t : Ex) (x : Value) (h : ExKids t w x) (hz : t.size ≤ 1000000000000) (ht : TabW w) :
  Calls Tryz.prog 25 #[.agg #[.int .i64 t.op, .int .i64 t.va, .int .i64 t.vb, .int .i64 t.dm, .string t.nm, x], .slice ad k cap] w (InfRes (infV t nm dm k) w) :=
 Infer_of _ ad k cap nm dm w (Hj (fun he => look_all nm dm k cap ad w hk hn he)) (Hj hk) hn t x h hz (allNm_all t) (Hj ht)
end Go.Proofs.YtlmclkaighlfaaaGreatDoor

/- Bundle of texts: each says at its head what it proves; no conditions but those printed. -/
import Derived.Test.YtlmclkaighlfaaaGreatDoorSB3
import Derived.Test.YtlmclkaighlfaaaGreatDoorSB2
import Derived.Lib.Bytes2
import Derived.WalkKit
import Derived.ProofKit
import Derived.OpenShut
import Derived.ChangeOld
import Derived.Below
import Derived.Carry
import Derived.SizedLaws
import Derived.Test.YtlmclkaighlfaaaGreatDoorSB0
import Derived.Lib.ItoaMem
import Derived.Lib.ItoaNum
import Derived.Lib.AtoiAll
import Derived.Test.YtlmclkaighlfaaaGreatDoorSB1
import Derived.Lib.AppendIntMem
import Derived.Lib.AtoiErrMem
namespace Go.Proofs.YtlmclkaighlfaaaGreatDoor
set_option maxHeartbeats 16000000
open Go.RowKit Cal Str Tok Frac
attribute [local go_sem] calmUpon
set_option linter.unusedVariables false
set_option linter.unusedSimpArgs false
theorem rel_grown {w w' : World} (r : Rel w w') (row : Option Nat) : w.grownBy w' row := ⟨Below.os r, Below.tape r, Below.output r, Below.size r, fun k hk _ => Below.block r k hk⟩
theorem own_rel {w w' : World} {base : Nat} {e : TypeId} {size : Nat} {v : Value} {n : Nat} {xs : List Value} (h : w.ownsRow base e size v n xs) (r : Rel w w') : w'.ownsRow base e size v n xs :=
 h.kept (rel_grown r none) (by cases hv : v.ownBlock <;> simp)
def IntsIn (w : World) (v : Value) (n : Nat) : Prop := ∃ (a0 : Option Addr) (cap : Nat), v = .slice a0 n cap ∧ n ≤ 17592186044416 ∧ (0 < n → ∃ (b off : Nat) (zs : List Int), a0 = some ⟨b, off, none⟩ ∧ b < w.heap.size ∧ (∀ j, j < n → w.cell? ⟨b, off + j, none⟩ = some (.int .i64 (zs.getD j 0)) ∧ -9223372036854775808 ≤ zs.getD j 0 ∧ zs.getD j 0 ≤ 9223372036854775807))
theorem own_some {w : World} {base : Nat} {e : TypeId} {size : Nat} {v : Value} {n : Nat} {xs : List Value} (h : w.ownsRow base e size v n xs) (hn : 0 < n) : ∃ g cap, v = .slice (some ⟨g, 0, none⟩) n cap ∧ base ≤ g ∧ g < w.heap.size ∧ n ≤ cap ∧ cap ≤ maxLen ∧ ∀ (j : Nat) u, xs[j]? = some u → w.cell? ⟨g, j, none⟩ = some u := by
 have h0' := h
 rcases h.2 with ⟨_, h0⟩ | ⟨g, cap, cur, rfl, hb, hg, h1, h2, _, _⟩
 ·omega
 ·refine ⟨g, cap, rfl, hb, (Array.getElem?_eq_some_iff.1 hg).1, h1, h2, fun j u hu => ?_⟩;have := h0'.cells (g := g) rfl j u hu
  have e : (⟨g, 0, none⟩ : Addr).add j = ⟨g, j, none⟩ := by unfold Addr.add; split <;> simp_all
  rwa [e] at this
end Go.Proofs.YtlmclkaighlfaaaGreatDoor
namespace Go.Proofs.YtlmclkaighlfaaaGreatDoor
set_option maxHeartbeats 16000000
open Go.ChangeShapes Go.WideShapes Go.ChangeAt Go.RowKit
def rowsB (P : Program) (ts : List TypeId) : Bool := ts.all fun t => P.readableRec t && decide (t < P.types.size)
theorem carryAll {H : Type} {enc : TypeId × Value → H} {P : Program} (hl : laidOutB P = true) {W W' : World} (hb : Below W.heap.size W W') :
  ∀ (ts : List TypeId) (vs : List Value) (ds : List (DataW H)) (ps : List MemPlace), rowsB P ts = true → DataW.TrodAll enc P W 0 (fun _ => true) true ts vs ds ps → (∀ x ∈ ps, x.block < W.heap.size) →
   DataW.TrodAll enc P W' 0 (fun b => decide (b < W.heap.size)) true ts vs ds ps := by
 intro ts
 induction ts with
 | nil =>
  intro vs ds ps _ h _;obtain ⟨rfl, rfl, rfl⟩ := trodAll_nil h
  exact trodAll_mk0
 | cons t ts ih =>
  intro vs ds ps hr h hlt;obtain ⟨v, vs', d, ds', p, q, rfl, rfl, rfl, h1, h2⟩ := trodAll_cons h;unfold rowsB at hr;simp only [List.all_cons, Bool.and_eq_true, decide_eq_true_eq] at hr;exact trodAll_cons_mk (Below.trod hl hr.1.1 hr.1.2 h1 hb (fun x hx => hlt x (List.mem_append_left _ hx))) (ih _ _ _ hr.2 h2 (fun x hx => hlt x (List.mem_append_right _ hx)))
end Go.Proofs.YtlmclkaighlfaaaGreatDoor
namespace Go.Proofs.YtlmclkaighlfaaaGreatDoor.Txt
set_option maxHeartbeats 16000000
open Str Frac Tok
theorem dl_zero_one (f m : Nat) (h : 0 < m) : dl f m 0 = dl f m 1 := by
 cases f with
 | zero => rfl
 | succ f => rw [dl_step f m 0 (.inl h), dl_step f m 1 (.inl h)]
theorem dec_dl (f u : Nat) (h : u < 10 ^ (f + 1)) : Lib.decDigits u = dl (f + 1) u 1 := by
 induction f generalizing u with
 | zero =>
  rw [Lib.decDigits, dif_pos (by omega), dl_step 0 u 1 (.inr (by decide)), show u % 10 = u by omega]; rfl
 | succ f ih =>
  rw [Lib.decDigits, dl_step (f + 1) u 1 (.inr (by decide))];by_cases h10 : u < 10
  ·rw [dif_pos h10, show u / 10 = 0 by omega, show 1 - 1 = 0 from rfl, dl_stop, show u % 10 = u by omega]; rfl
  ·rw [dif_neg h10, ih (u / 10) (by rw [Nat.pow_succ] at h; omega), show 1 - 1 = 0 from rfl, dl_zero_one _ _ (by omega)]
theorem dec_dl40 (u : Nat) (h : u ≤ 1000000000000000000) : Lib.decDigits u = dl 40 u 1 :=
 dec_dl 39 u (Nat.lt_of_le_of_lt h (by decide))
def numL (n : Int) : List UInt8 := if n < 0 then 45 :: dl 40 n.natAbs 1 else dl 40 n.natAbs 1
theorem itoa_numL (n : Int) (h0 : -1000000000000000000 ≤ n) (h1 : n ≤ 1000000000000000000) : Lib.itoa n = numL n := by
 unfold Lib.itoa numL;split
 ·rw [dec_dl40 _ (by omega)]
 ·rw [dec_dl40 _ (by omega)]
  congr 1; omega
def numS (n : Int) : ByteArray := ⟨(numL n).toArray⟩
def fmtL (n d : Int) : List UInt8 := if d = 1 then numL n else numL n ++ 47 :: numL d
def fmtS (n d : Int) : ByteArray := if validB n d = true then ⟨(fmtL n d).toArray⟩ else ⟨#[]⟩
theorem fmt_no {n d : Int} (h : validB n d = false) : fmtS n d = ⟨#[]⟩ := by unfold fmtS; rw [if_neg (by simp [h])]
theorem fmt_1 {n d : Int} (h : validB n d = true) (h1 : d = 1) : fmtS n d = numS n := by unfold fmtS fmtL numS; rw [if_pos h, if_pos h1]
theorem fmt_2 {n d : Int} (h : validB n d = true) (h1 : ¬ d = 1) : fmtS n d = numS n ++ (⟨#[47]⟩ ++ numS d) := by
 unfold fmtS fmtL numS; rw [if_pos h, if_neg h1]; apply ba_ext; simp
theorem numL_len (n : Int) : (numL n).length ≤ 41 := by
 unfold numL;have := dl_length 40 n.natAbs 1;split
 ·simp; omega
 ·omega
theorem numS_size (n : Int) : (numS n).size ≤ 41 := by
 rw [← size_list, numS, mk_list]; exact numL_len n
theorem valid_bd {n d : Int} (h : validB n d = true) : -1000000000000000 ≤ n ∧ n ≤ 1000000000000000 ∧ 1 ≤ d ∧ d ≤ 1000000000 := by
 have := (validB_iff n d).1 h; omega
end Go.Proofs.YtlmclkaighlfaaaGreatDoor.Txt
namespace Go.Proofs.YtlmclkaighlfaaaGreatDoor.Txt
set_option maxHeartbeats 16000000
open Str Frac Tok
theorem val_cons (c : UInt8) (l : List UInt8) : val (c :: l) = ((c.toNat : Int) - 48) * ((10 ^ l.length : Nat) : Int) + val l := by
 have := val_app [c] l;rw [List.singleton_append] at this;rw [this];have e : val [c] = (c.toNat : Int) - 48 := by simp [val]
 rw [e]
theorem dl_ne (u : Nat) : dl 40 u 1 ≠ [] := by rw [dl_step 39 u 1 (.inr (by decide))]; simp
theorem dl_val1 (u : Nat) (h : u ≤ 1000000000000000000) : val (dl 40 u 1) = u := val_dl 40 u 1 (Nat.lt_of_le_of_lt h (by decide)) (by decide)
theorem head_ne (f : Nat) : ∀ u, 0 < u → u < 10 ^ f → ∃ c r, dl f u 1 = c :: r ∧ ¬ (c.toNat : Int) = 48 := by
 induction f with
 | zero => intro u h0 h1; simp at h1; omega
 | succ f ih =>
  intro u h0 h1;rw [dl_step f u 1 (.inr (by decide)), show 1 - 1 = 0 from rfl];by_cases h10 : u / 10 = 0
  ·rw [h10, dl_stop];refine ⟨UInt8.ofNat (48 + u % 10), [], rfl, ?_⟩;have : u % 10 = u := by omega
   rw [this];have h : (UInt8.ofNat (48 + u)).toNat = 48 + u := by simp; omega
   rw [h]; omega
  ·obtain ⟨c, r, e, hc⟩ := ih (u / 10) (by omega) (by rw [Nat.pow_succ] at h1; omega);rw [dl_zero_one _ _ (by omega), e];exact ⟨c, r ++ _, rfl, hc⟩
theorem len_le (f : Nat) : ∀ u k, 1 ≤ k → u < 10 ^ k → (dl f u 1).length ≤ k := by
 induction f with
 | zero => intro u k _ _; simp [dl]
 | succ f ih =>
  intro u k h1 h;rw [dl_step f u 1 (.inr (by decide)), show 1 - 1 = 0 from rfl];by_cases h10 : u / 10 = 0
  ·rw [h10, dl_stop]; simpa using h1
  ·obtain ⟨j, rfl⟩ : ∃ j, k = j + 1 := ⟨k - 1, by omega⟩;rw [Nat.pow_succ] at h
   have hj : 1 ≤ j := by
    rcases Nat.eq_zero_or_pos j with rfl | hj
    ·simp at h; omega
    ·exact hj
   have := ih (u / 10) j hj (by omega);rw [dl_zero_one _ _ (by omega)];simp; omega
end Go.Proofs.YtlmclkaighlfaaaGreatDoor.Txt
namespace Go.Proofs.YtlmclkaighlfaaaGreatDoor
set_option maxHeartbeats 16000000
open Go.RowKit Cal Str Tok Frac Txt
attribute [local go_sem] calmUpon
set_option linter.unusedVariables false
set_option linter.unusedSimpArgs false
def TabW (w : World) : Prop := Lib.TabIs Tryz.prog w "internal/strconv.uint64pow10" .u64 Lib.pow10Tab
def ErrW (w : World) : Prop := (∃ tp p, w.var? Tryz.prog "strconv.ErrSyntax" = some #[.iface tp p]) ∧ (∃ tp p, w.var? Tryz.prog "strconv.ErrRange" = some #[.iface tp p])
theorem var_rel {w w' : World} (r : Rel w w') {P : Program} {name : String} {cs : Array Value} (h : w.var? P name = some cs) : w'.var? P name = some cs := by
 unfold World.var? at h ⊢
 cases hg : P.globalNamed name with
 | none => rw [hg] at h; exact h
 | some g =>
  rw [hg] at h;simp only [Option.bind_some] at h ⊢
  have hlt : g < w.heap.size := by
   rcases Nat.lt_or_ge g w.heap.size with h' | h'
   ·exact h'
   ·rw [Array.getElem?_eq_none h'] at h; cases h
  rw [Below.block r g hlt]; exact h
theorem TabW.rel {w w' : World} (h : TabW w) (r : Rel w w') : TabW w' := by
 unfold TabW Lib.TabIs at *;exact var_rel r h
theorem ErrW.rel {w w' : World} (h : ErrW w) (r : Rel w w') : ErrW w' := by
 obtain ⟨⟨t, p, h1⟩, ⟨t', p', h2⟩⟩ := h;exact ⟨⟨t, p, var_rel r h1⟩, ⟨t', p', var_rel r h2⟩⟩
theorem itoa_any (n : Int) (w : World) (ht : TabW w) (h0 : -1000000000000000000 ≤ n) (h1 : n ≤ 1000000000000000000) :
  Calls Tryz.prog 57 #[.int .i64 n] w fun e w' => e = .returned (.string (numS n)) ∧ Rel w w' := by
 refine (Tryz.strconv_Itoa n (by omega) (by omega) w ht).mono ?_;rintro e w' ⟨he, k, os, rfl⟩;rw [itoa_numL n h0 h1] at he;exact ⟨he, Lib.below_grow _ _ (Nat.le_refl _) _ _⟩
theorem ret_str {a b : ByteArray} (h : a = b) : Ending.returned (.string a) = .returned (.string b) := by rw [h]
def StrRes (t : ByteArray) (w : World) (e : Ending) (w' : World) : Prop := e = .returned (.string t) ∧ Rel w w'
theorem dgt_numL (n : Int) (h : 0 ≤ n) : dgt n 1 = numS n := by
 unfold dgt numS numL; rw [if_neg (by omega), show n.toNat = n.natAbs by omega]; rfl
theorem neg_numL (n : Int) (h : n < 0) : (⟨#[45]⟩ : ByteArray) ++ dgt (n.natAbs : Int) 1 = numS n := by
 apply ba_ext;unfold dgt numS numL; rw [if_pos h, show ((n.natAbs : Int)).toNat = n.natAbs by omega]; simp
theorem rFormat_any (n d : Int) (w : World) (n0 : -9223372036854775808 ≤ n) (n1 : n ≤ 9223372036854775807) (d0 : -9223372036854775808 ≤ d) (d1 : d ≤ 9223372036854775807) :
  Calls Tryz.prog 103 #[.agg #[.int .i64 n, .int .i64 d]] w (StrRes (fmtS n d) w) := by
 unfold StrRes;have z2 := numS_size d;have V := Hj fun w => rvalid_any n d w n0 n1 d0 d1
 cases hv : validB n d
 ·rw [fmt_no hv];rw [hv] at V;clear hv;go_enter Tryz.func103, Tryz.ntmps103;go_wp2_with fail;refine (V.out _).mono ?_;unfold BRes;rintro e w1 ⟨rfl, h1⟩;have kq0 := keep2 h1 (b := w.heap.size) (by first | (simp; done) | (simp; omega) | omega);have kz1 := h1.size;(try simp only [zsa, zsc, zsd] at kz1);have H1 := Hj h1;clear h1;go_wp2;go_ret;exact ⟨rfl, by (show Rel _ _; repeat (first | with_reducible (first | exact qR _ | refine qA ?_ _ | refine qD ?_ | refine qT ?_ H1.out | refine qT ?_ H0.out) | with_reducible refine qS ?_ (by first | (simp; done) | (simp; omega)) _))⟩
 ·have b := valid_bd hv;rw [hv] at V;have hdd : dgt d 1 = numS d := dgt_numL d (by omega);obtain ⟨D, hD⟩ : ∃ D, dgt d 1 = D := ⟨_, rfl⟩;have SZ := Hj fun w => rsize_any n w n0 n1
  have DG := Hj fun w => rdigits_any (n.natAbs : Int) 1 w (by omega) (by omega) (by omega) (by omega)
  have DD := Hj fun w => rdigits_any d 1 w (by omega) (by omega) (by omega) (by omega)
  have bn : 0 ≤ (n.natAbs : Int) ∧ (n.natAbs : Int) ≤ 1000000000000000 := by omega
  obtain ⟨m, hm⟩ : ∃ m, (n.natAbs : Int) = m := ⟨_, rfl⟩;have hneg := fun h => neg_numL n h
  have hpos : 0 ≤ n → dgt m 1 = numS n := fun h => by rw [← hm, show (n.natAbs : Int) = n by omega]; exact dgt_numL n h
  rw [hm] at SZ DG hneg bn;obtain ⟨G, hG⟩ : ∃ G, dgt m 1 = G := ⟨_, rfl⟩;have zG : G.size ≤ 40 := by rw [← hG]; exact dgt_size _ _
  have e45 : (⟨#[45]⟩ : ByteArray).size = 1 := rfl;have zG2 : ((⟨#[45]⟩ : ByteArray) ++ G).size ≤ 41 := by rw [ByteArray.size_append]; omega
  rw [hG] at DG hneg hpos;rw [hdd] at DD;have b1 := bn.1;have b2 := bn.2;by_cases hd : d = 1
  ·rw [fmt_1 hv hd];by_cases hn : n < 0
   ·have EQ := Hj (hneg hn);subst hd;clear hv hm hneg hpos hG hdd hD bn e45;go_enter Tryz.func103, Tryz.ntmps103;go_wp2_with fail;refine (V.out _).mono ?_;unfold BRes;rintro e w1 ⟨rfl, h1⟩;have kq1 := keep2 h1 (b := w.heap.size) (by first | (simp; done) | (simp; omega) | omega);have kz1 := h1.size;(try simp only [zsa, zsc, zsd] at kz1);have H1 := Hj h1;clear h1;go_wp2_with fail;refine (SZ.out _).mono ?_;rintro e w2 ⟨rfl, rfl⟩;go_wp2_with fail;refine (DG.out _).mono ?_;rintro e w2 ⟨rfl, rfl⟩;go_wp2;go_ret;exact ⟨ret_str EQ.out, by (show Rel _ _; repeat (first | with_reducible (first | exact qR _ | refine qA ?_ _ | refine qD ?_ | refine qT ?_ H1.out | refine qT ?_ H0.out) | with_reducible refine qS ?_ (by first | (simp; done) | (simp; omega)) _))⟩
   ·have EQ := Hj (hpos (by omega));subst hd;clear hv hm hneg hpos hG hdd hD bn e45;go_enter Tryz.func103, Tryz.ntmps103;go_wp2_with fail;refine (V.out _).mono ?_;unfold BRes;rintro e w1 ⟨rfl, h1⟩;have kq2 := keep2 h1 (b := w.heap.size) (by first | (simp; done) | (simp; omega) | omega);have kz1 := h1.size;(try simp only [zsa, zsc, zsd] at kz1);have H1 := Hj h1;clear h1;go_wp2_with fail;refine (SZ.out _).mono ?_;rintro e w2 ⟨rfl, rfl⟩;go_wp2_with fail;refine (DG.out _).mono ?_;rintro e w2 ⟨rfl, rfl⟩;go_wp2;go_ret;exact ⟨ret_str EQ.out, by (show Rel _ _; repeat (first | with_reducible (first | exact qR _ | refine qA ?_ _ | refine qD ?_ | refine qT ?_ H1.out | refine qT ?_ H0.out) | with_reducible refine qS ?_ (by first | (simp; done) | (simp; omega)) _))⟩
  ·rw [fmt_2 hv hd];have hdn : (d != 1) = true := by simpa using hd
   by_cases hn : n < 0
   ·have EQ := Hj (hneg hn);clear hv hm hneg hpos hG hdd hD bn hd e45;go_enter Tryz.func103, Tryz.ntmps103;go_wp2_with fail;refine (V.out _).mono ?_;unfold BRes;rintro e w1 ⟨rfl, h1⟩;have kq3 := keep2 h1 (b := w.heap.size) (by first | (simp; done) | (simp; omega) | omega);have kz1 := h1.size;(try simp only [zsa, zsc, zsd] at kz1);have H1 := Hj h1;clear h1;go_wp2_with fail;refine (SZ.out _).mono ?_;rintro e w2 ⟨rfl, rfl⟩;go_wp2_with fail;refine (DG.out _).mono ?_;rintro e w2 ⟨rfl, rfl⟩;go_wp2_with fail;refine (DD.out _).mono ?_;rintro e w2 ⟨rfl, rfl⟩;go_wp2;go_ret;exact ⟨ret_str (by rw [EQ.out, ByteArray.append_assoc]), by (show Rel _ _; repeat (first | with_reducible (first | exact qR _ | refine qA ?_ _ | refine qD ?_ | refine qT ?_ H1.out | refine qT ?_ H0.out) | with_reducible refine qS ?_ (by first | (simp; done) | (simp; omega)) _))⟩
   ·have EQ := Hj (hpos (by omega));clear hv hm hneg hpos hG hdd hD bn hd e45;go_enter Tryz.func103, Tryz.ntmps103;go_wp2_with fail;refine (V.out _).mono ?_;unfold BRes;rintro e w1 ⟨rfl, h1⟩;have kq4 := keep2 h1 (b := w.heap.size) (by first | (simp; done) | (simp; omega) | omega);have kz1 := h1.size;(try simp only [zsa, zsc, zsd] at kz1);have H1 := Hj h1;clear h1;go_wp2_with fail;refine (SZ.out _).mono ?_;rintro e w2 ⟨rfl, rfl⟩;go_wp2_with fail;refine (DG.out _).mono ?_;rintro e w2 ⟨rfl, rfl⟩;go_wp2_with fail;refine (DD.out _).mono ?_;rintro e w2 ⟨rfl, rfl⟩;go_wp2;go_ret;exact ⟨ret_str (by rw [EQ.out, ByteArray.append_assoc]), by (show Rel _ _; repeat (first | with_reducible (first | exact qR _ | refine qA ?_ _ | refine qD ?_ | refine qT ?_ H1.out | refine qT ?_ H0.out) | with_reducible refine qS ?_ (by first | (simp; done) | (simp; omega)) _))⟩
end Go.Proofs.YtlmclkaighlfaaaGreatDoor

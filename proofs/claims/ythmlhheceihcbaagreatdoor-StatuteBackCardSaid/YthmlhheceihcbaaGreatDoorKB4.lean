/- Lemmas, each as it is printed; no conditions but those printed. -/
import Derived.Lib.Bytes2
import Derived.Test.YthmlhheceihcbaaGreatDoorKB3
import Derived.WalkKit
import Derived.ProofKit
import Derived.OpenShut
import Derived.ChangeOld
import Derived.Below
import Derived.Carry
import Derived.SizedLaws
import Derived.Lib.ItoaMem
import Derived.Lib.ItoaNum
import Derived.Lib.AtoiAll
import Derived.Lib.AppendIntMem
import Derived.Lib.AtoiErrMem
namespace Go.Proofs.YthmlhheceihcbaaGreatDoor.Tok
set_option maxHeartbeats 16000000
open Str Frac
def sigs : List (List UInt8) := [[60, 61], [62, 61], [60, 62], [60], [62], [61], [43], [45], [42], [47], [40], [41], [123], [125], [44], [59]]
def sig (i : Nat) : List UInt8 := sigs.getD i []
def pfx (l : List UInt8) (i : Nat) : Bool := Lib.hasPrefix l (sig i)
theorem u8_iff (c : UInt8) (n : Nat) (h : n < 256) : (c.toNat : Int) = n ↔ c = UInt8.ofNat n := by
 constructor
 ·intro e; apply UInt8.toNat_inj.1; simp; omega
 ·intro e; rw [e]; simp; omega
theorem sgl_hit (l : List UInt8) (i : Nat) (hi : i < 16) (h : pfx l i = true) (hno : ∀ j, j < i -> pfx l j = false) : sgl l = (sig i).length := by
 match l with
 | [] =>
  rcases (show i = 0 \/ i = 1 \/ i = 2 \/ i = 3 \/ i = 4 \/ i = 5 \/ i = 6 \/ i = 7 \/ i = 8 \/ i = 9 \/ i = 10 \/ i = 11 \/ i = 12 \/ i = 13 \/ i = 14 \/ i = 15 by omega) with rfl | rfl | rfl | rfl | rfl | rfl | rfl | rfl | rfl | rfl | rfl | rfl | rfl | rfl | rfl | rfl <;> simp [pfx, sig, sigs, Lib.hasPrefix] at h
 | [c] =>
  rcases (show i = 0 \/ i = 1 \/ i = 2 \/ i = 3 \/ i = 4 \/ i = 5 \/ i = 6 \/ i = 7 \/ i = 8 \/ i = 9 \/ i = 10 \/ i = 11 \/ i = 12 \/ i = 13 \/ i = 14 \/ i = 15 by omega) with rfl | rfl | rfl | rfl | rfl | rfl | rfl | rfl | rfl | rfl | rfl | rfl | rfl | rfl | rfl | rfl <;> simp [pfx, sig, sigs, Lib.hasPrefix] at h <;> subst h <;> rfl
 | c :: d :: m =>
  have h0 := hno 0;have h1 := hno 1;have h2 := hno 2
  rcases (show i = 0 \/ i = 1 \/ i = 2 \/ i = 3 \/ i = 4 \/ i = 5 \/ i = 6 \/ i = 7 \/ i = 8 \/ i = 9 \/ i = 10 \/ i = 11 \/ i = 12 \/ i = 13 \/ i = 14 \/ i = 15 by omega) with rfl | rfl | rfl | rfl | rfl | rfl | rfl | rfl | rfl | rfl | rfl | rfl | rfl | rfl | rfl | rfl
  ·simp [pfx, sig, sigs, Lib.hasPrefix] at h; obtain ⟨rfl, rfl⟩ := h; rfl
  ·simp [pfx, sig, sigs, Lib.hasPrefix] at h; obtain ⟨rfl, rfl⟩ := h; rfl
  ·simp [pfx, sig, sigs, Lib.hasPrefix] at h; obtain ⟨rfl, rfl⟩ := h; rfl
  all_goals
   simp [pfx, sig, sigs, Lib.hasPrefix] at h h0 h1 h2;subst h
   have e : ∀ x, sg2 x d = true -> ((x = 60 /\ (d = 61 \/ d = 62)) \/ (x = 62 /\ d = 61)) := by
    intro x hx;have k60 := (u8_iff x 60 (by decide)).1;have k62 := (u8_iff x 62 (by decide)).1;have m61 := (u8_iff d 61 (by decide)).1;have m62 := (u8_iff d 62 (by decide)).1;simp only [sg2, Bool.or_eq_true, Bool.and_eq_true, beq_iff_eq] at hx
    rcases hx with ⟨a, b⟩ | ⟨a, b⟩ | ⟨a, b⟩
    ·exact .inl ⟨k60 a, .inl (m61 b)⟩
    ·exact .inr ⟨k62 a, m61 b⟩
    ·exact .inl ⟨k60 a, .inr (m62 b)⟩
   have n2 : ∀ x, (x = 60 -> ¬ d = 61 /\ ¬ d = 62) -> (x = 62 -> ¬ d = 61) -> sg2 x d = false := by
    intro x a b
    cases hx : sg2 x d
    ·rfl
    ·rcases e x hx with ⟨p, q | q⟩ | ⟨p, q⟩
     ·exact absurd q (a p).1
     ·exact absurd q (a p).2
     ·exact absurd q (b p)
   simp only [sgl];rw [n2 _ (by first | (intro h; exact absurd h (by decide)) | (intro _; exact ⟨fun q => by simp_all, fun q => by simp_all⟩)) (by first | (intro h; exact absurd h (by decide)) | (intro _ q; simp_all))];rfl
theorem sgl_none (l : List UInt8) (hno : ∀ j, j < 16 -> pfx l j = false) : sgl l = 0 := by
 match l with
 | [] => rfl
 | c :: m =>
  have h1 : sg1 c = false := by
   cases hx : sg1 c
   ·rfl
   ·have a3 := hno 3 (by decide);have a4 := hno 4 (by decide);have a5 := hno 5 (by decide);have a6 := hno 6 (by decide);have a7 := hno 7 (by decide);have a8 := hno 8 (by decide);have a9 := hno 9 (by decide);have a10 := hno 10 (by decide);have a11 := hno 11 (by decide);have a12 := hno 12 (by decide);have a13 := hno 13 (by decide);have a14 := hno 14 (by decide);have a15 := hno 15 (by decide);simp only [pfx, sig, sigs, Lib.hasPrefix, List.getD_cons_zero, List.getD_cons_succ] at a3 a4 a5 a6 a7 a8 a9 a10 a11 a12 a13 a14 a15;simp only [sg1, Bool.or_eq_true, beq_iff_eq] at hx;have k := fun n h => (u8_iff c n h).1
    rcases hx with hx | hx | hx | hx | hx | hx | hx | hx | hx | hx | hx | hx | hx
    ·rw [k 60 (by decide) hx] at a3; simp [List.isPrefixOf] at a3
    ·rw [k 62 (by decide) hx] at a4; simp [List.isPrefixOf] at a4
    ·rw [k 61 (by decide) hx] at a5; simp [List.isPrefixOf] at a5
    ·rw [k 43 (by decide) hx] at a6; simp [List.isPrefixOf] at a6
    ·rw [k 45 (by decide) hx] at a7; simp [List.isPrefixOf] at a7
    ·rw [k 42 (by decide) hx] at a8; simp [List.isPrefixOf] at a8
    ·rw [k 47 (by decide) hx] at a9; simp [List.isPrefixOf] at a9
    ·rw [k 40 (by decide) hx] at a10; simp [List.isPrefixOf] at a10
    ·rw [k 41 (by decide) hx] at a11; simp [List.isPrefixOf] at a11
    ·rw [k 123 (by decide) hx] at a12; simp [List.isPrefixOf] at a12
    ·rw [k 125 (by decide) hx] at a13; simp [List.isPrefixOf] at a13
    ·rw [k 44 (by decide) hx] at a14; simp [List.isPrefixOf] at a14
    ·rw [k 59 (by decide) hx] at a15; simp [List.isPrefixOf] at a15
  match m with
  | [] => simp only [sgl, h1]; rfl
  | d :: m =>
   have h2 : sg2 c d = false := by
    cases hx : sg2 c d
    ·rfl
    ·have b0 := hno 0 (by decide);have b1 := hno 1 (by decide);have b2 := hno 2 (by decide);simp only [pfx, sig, sigs, Lib.hasPrefix, List.getD_cons_zero, List.getD_cons_succ] at b0 b1 b2;simp only [sg2, Bool.or_eq_true, Bool.and_eq_true, beq_iff_eq] at hx;have k := fun n h => (u8_iff c n h).1
     have k' := fun n h => (u8_iff d n h).1
     rcases hx with ⟨a, b⟩ | ⟨a, b⟩ | ⟨a, b⟩
     ·rw [k 60 (by decide) a, k' 61 (by decide) b] at b0; simp [List.isPrefixOf] at b0
     ·rw [k 62 (by decide) a, k' 61 (by decide) b] at b1; simp [List.isPrefixOf] at b1
     ·rw [k 60 (by decide) a, k' 62 (by decide) b] at b2; simp [List.isPrefixOf] at b2
   simp only [sgl, h1, h2]; rfl
def tokN (s : ByteArray) (a : Nat) : Nat :=
 if h : a < s.size then
  if low s[a] = true then (if rn inw (s.data.toList.drop a) <= 12 then rn inw (s.data.toList.drop a) else 0)
  else if dgb s[a] = true then (if decB (s.extract a (a + rn inn (s.data.toList.drop a))) = true then rn inn (s.data.toList.drop a) else 0)
  else if (s[a].toNat : Int) = 64 then (if a + 11 <= s.size /\ prsB (s.extract (a + 1) (a + 11)) = true then 11 else 0)
  else sgl (s.data.toList.drop a)
 else 0
def tokK (s : ByteArray) (a : Nat) : Int :=
 if h : a < s.size then
  if low s[a] = true then (if rn inw (s.data.toList.drop a) <= 12 then 1 else 0)
  else if dgb s[a] = true then (if decB (s.extract a (a + rn inn (s.data.toList.drop a))) = true then 2 else 0)
  else if (s[a].toNat : Int) = 64 then (if a + 11 <= s.size /\ prsB (s.extract (a + 1) (a + 11)) = true then 3 else 0)
  else (if 0 < sgl (s.data.toList.drop a) then 4 else 0)
 else 0
theorem tok_w1 {s : ByteArray} {a : Nat} (h : a < s.size) (hl : low s[a] = true) (hn : rn inw (s.data.toList.drop a) <= 12) : tokN s a = rn inw (s.data.toList.drop a) /\ tokK s a = 1 := by
 unfold tokN tokK; rw [dif_pos h, dif_pos h, if_pos hl, if_pos hl, if_pos hn, if_pos hn]; exact ⟨rfl, rfl⟩
theorem tok_w0 {s : ByteArray} {a : Nat} (h : a < s.size) (hl : low s[a] = true) (hn : ¬ rn inw (s.data.toList.drop a) <= 12) : tokN s a = 0 /\ tokK s a = 0 := by
 unfold tokN tokK; rw [dif_pos h, dif_pos h, if_pos hl, if_pos hl, if_neg hn, if_neg hn]; exact ⟨rfl, rfl⟩
theorem tok_n1 {s : ByteArray} {a : Nat} (h : a < s.size) (hl : low s[a] = false) (hd : dgb s[a] = true) (hn : decB (s.extract a (a + rn inn (s.data.toList.drop a))) = true) : tokN s a = rn inn (s.data.toList.drop a) /\ tokK s a = 2 := by
 unfold tokN tokK; rw [dif_pos h, dif_pos h, if_neg (show ¬ low s[a] = true by simp [hl]), if_neg (show ¬ low s[a] = true by simp [hl]), if_pos hd, if_pos hd, if_pos hn, if_pos hn]; exact ⟨rfl, rfl⟩
theorem tok_n0 {s : ByteArray} {a : Nat} (h : a < s.size) (hl : low s[a] = false) (hd : dgb s[a] = true) (hn : decB (s.extract a (a + rn inn (s.data.toList.drop a))) = false) : tokN s a = 0 /\ tokK s a = 0 := by
 unfold tokN tokK; rw [dif_pos h, dif_pos h, if_neg (show ¬ low s[a] = true by simp [hl]), if_neg (show ¬ low s[a] = true by simp [hl]), if_pos hd, if_pos hd, if_neg (show ¬ decB (s.extract a (a + rn inn (s.data.toList.drop a))) = true by simp [hn]), if_neg (show ¬ decB (s.extract a (a + rn inn (s.data.toList.drop a))) = true by simp [hn])]; exact ⟨rfl, rfl⟩
theorem tok_d1 {s : ByteArray} {a : Nat} (h : a < s.size) (hl : low s[a] = false) (hd : dgb s[a] = false) (h64 : (s[a].toNat : Int) = 64) (h11 : a + 11 <= s.size) (hp : prsB (s.extract (a + 1) (a + 11)) = true) : tokN s a = 11 /\ tokK s a = 3 := by
 unfold tokN tokK; rw [dif_pos h, dif_pos h, if_neg (show ¬ low s[a] = true by simp [hl]), if_neg (show ¬ low s[a] = true by simp [hl]), if_neg (show ¬ dgb s[a] = true by simp [hd]), if_neg (show ¬ dgb s[a] = true by simp [hd]), if_pos h64, if_pos h64, if_pos ⟨h11, hp⟩, if_pos ⟨h11, hp⟩]; exact ⟨rfl, rfl⟩
theorem tok_d0 {s : ByteArray} {a : Nat} (h : a < s.size) (hl : low s[a] = false) (hd : dgb s[a] = false) (h64 : (s[a].toNat : Int) = 64) (hn : ¬ (a + 11 <= s.size /\ prsB (s.extract (a + 1) (a + 11)) = true)) : tokN s a = 0 /\ tokK s a = 0 := by
 unfold tokN tokK; rw [dif_pos h, dif_pos h, if_neg (show ¬ low s[a] = true by simp [hl]), if_neg (show ¬ low s[a] = true by simp [hl]), if_neg (show ¬ dgb s[a] = true by simp [hd]), if_neg (show ¬ dgb s[a] = true by simp [hd]), if_pos h64, if_pos h64, if_neg hn, if_neg hn]; exact ⟨rfl, rfl⟩
theorem tok_s {s : ByteArray} {a : Nat} (h : a < s.size) (hl : low s[a] = false) (hd : dgb s[a] = false) (h64 : ¬ (s[a].toNat : Int) = 64) : tokN s a = sgl (s.data.toList.drop a) /\ tokK s a = if 0 < sgl (s.data.toList.drop a) then 4 else 0 := by
 unfold tokN tokK; rw [dif_pos h, dif_pos h, if_neg (show ¬ low s[a] = true by simp [hl]), if_neg (show ¬ low s[a] = true by simp [hl]), if_neg (show ¬ dgb s[a] = true by simp [hd]), if_neg (show ¬ dgb s[a] = true by simp [hd]), if_neg h64, if_neg h64]; exact ⟨rfl, rfl⟩
theorem tok_le {s : ByteArray} {a : Nat} (h : a < s.size) : a + tokN s a <= s.size := by
 have h1 := rn_le inw (s.data.toList.drop a);have h2 := rn_le inn (s.data.toList.drop a);have h3 := (sgl_le (s.data.toList.drop a)).1;rw [drop_len] at h1 h2 h3;unfold tokN;rw [dif_pos h]
 repeat' split
 all_goals omega
/-! What Next returns -/
def nxOk (s : ByteArray) (a : Int) : Bool := decide (0 <= a) && decide (a <= s.size)
def nxAt (s : ByteArray) (a : Int) : Nat := skp s a.toNat
def nxC (s : ByteArray) (a : Int) : Nat := if nxOk s a = true then (if nxAt s a = s.size then 1 else if tokK s (nxAt s a) = 0 then 2 else 3) else 0
def nxK (s : ByteArray) (a : Int) : Int := if nxC s a = 3 then tokK s (nxAt s a) else 0
def nxT (s : ByteArray) (a : Int) : ByteArray := if nxC s a = 3 then s.extract (nxAt s a) (nxAt s a + tokN s (nxAt s a)) else ⟨#[]⟩
def nxA (s : ByteArray) (a : Int) : Int := if nxC s a = 3 \/ nxC s a = 1 then nxAt s a else 0
def nxN (s : ByteArray) (a : Int) : Int := if nxC s a = 0 then 0 else if nxC s a = 3 then (nxAt s a + tokN s (nxAt s a) : Nat) else nxAt s a
def nxE (s : ByteArray) (a : Int) : Int := if nxC s a = 0 then 1 else if nxC s a = 2 then 4 else 0
theorem nx_0 {s : ByteArray} {a : Int} (h : a < 0 \/ (s.size : Int) < a) : nxK s a = 0 /\ nxT s a = ⟨#[]⟩ /\ nxA s a = 0 /\ nxN s a = 0 /\ nxE s a = 1 := by
 have hc : nxC s a = 0 := by
  unfold nxC nxOk;rw [if_neg];simp; omega
 unfold nxK nxT nxA nxN nxE; rw [hc]; exact ⟨rfl, rfl, rfl, rfl, rfl⟩
theorem nx_1 {s : ByteArray} {a : Nat} (h : a <= s.size) (he : skp s a = s.size) : nxK s a = 0 /\ nxT s a = ⟨#[]⟩ /\ nxA s a = s.size /\ nxN s a = s.size /\ nxE s a = 0 := by
 have ha : nxAt s a = s.size := by unfold nxAt; simpa using he
 have hc : nxC s a = 1 := by
  unfold nxC nxOk;rw [if_pos (by simp; omega), if_pos ha]
 unfold nxK nxT nxA nxN nxE; rw [hc, ha]; exact ⟨rfl, rfl, rfl, rfl, rfl⟩
theorem nx_2 {s : ByteArray} {a b : Nat} (h : a <= s.size) (hb : skp s a = b) (he : ¬ b = s.size) (hk : tokK s b = 0) : nxK s a = 0 /\ nxT s a = ⟨#[]⟩ /\ nxA s a = 0 /\ nxN s a = b /\ nxE s a = 4 := by
 have ha : nxAt s a = b := by unfold nxAt; simpa using hb
 have hc : nxC s a = 2 := by
  unfold nxC nxOk;rw [if_pos (by simp; omega), ha, if_neg he, if_pos hk]
 unfold nxK nxT nxA nxN nxE; rw [hc, ha]; exact ⟨rfl, rfl, rfl, rfl, rfl⟩
theorem nx_3 {s : ByteArray} {a b : Nat} (h : a <= s.size) (hb : skp s a = b) (he : ¬ b = s.size) (hk : ¬ tokK s b = 0) : nxK s a = tokK s b /\ nxT s a = s.extract b (b + tokN s b) /\ nxA s a = b /\ nxN s a = (b + tokN s b : Nat) /\ nxE s a = 0 := by
 have ha : nxAt s a = b := by unfold nxAt; simpa using hb
 have hc : nxC s a = 3 := by
  unfold nxC nxOk;rw [if_pos (by simp; omega), ha, if_neg he, if_neg hk]
 unfold nxK nxT nxA nxN nxE; rw [hc, ha]; exact ⟨rfl, rfl, rfl, rfl, rfl⟩
end Go.Proofs.YthmlhheceihcbaaGreatDoor.Tok
namespace Go.Proofs.YthmlhheceihcbaaGreatDoor
set_option maxHeartbeats 16000000
open Go.RowKit Cal Str Tok Frac Tryz
attribute [local go_sem] calmUpon
set_option linter.unusedVariables false
set_option linter.unusedSimpArgs false
def ExtRes (s : ByteArray) (a : Nat) (w : World) (e : Ending) (w' : World) : Prop := e = .returned (.tuple #[.int .i64 (a + tokN s a : Nat), .int .i64 (tokK s a)]) /\ Rel w w'
theorem ext_ret {s : ByteArray} {a n : Nat} {k : Int} {w w' : World} (h : tokN s a = n /\ tokK s a = k) {x y : Int} (hx : x = (a + n : Nat)) (hy : y = k) (r : Rel w w') : ExtRes s a w (.returned (.tuple #[.int .i64 x, .int .i64 y])) w' := by
 unfold ExtRes; rw [h.1, h.2, hx, hy]; exact ⟨rfl, r⟩
set_option maxRecDepth 100000 in
theorem extent_w (s : ByteArray) (a : Nat) (w : World) (hs : s.size <= 140737488355328) (ha : a < s.size) (hl : low s[a] = true) :
  Calls prog 148 #[.string s, .int .i64 (a : Int)] w (ExtRes s a w) := by
 obtain ⟨n, hn⟩ : ∃ n, rn inw (s.data.toList.drop a) = n := ⟨_, rfl⟩;have hnb : a + n <= s.size := by have := rn_le inw (s.data.toList.drop a); rw [drop_len, hn] at this; omega
 have T1 := fun h => tok_w1 ha hl h
 have T0 := fun h => tok_w0 ha hl h
 rw [hn] at T1 T0;have HT1 := Hj T1;have HT0 := Hj T0;have HN := Hj hn;clear T1 T0 hn;go_enter func148, ntmps148
 go_wp2_with (go_at_call 149; refine (lower_any _ _).mono ?_; rintro e w1 ⟨rfl, rfl⟩)
 clear hl
 go_loop [4] (fun v => ∃ k : Nat, v = .int .i64 k /\ a <= k /\ k <= s.size /\ Hid (k + rn inw (s.data.toList.drop k) = a + n)) (fun v => s.size - (intOf v).toNat)
 case atStart => exact ⟨a, rfl, by omega, by omega, by show _ = _; rw [HN.out]⟩
 case round =>
  obtain ⟨k, rfl, hak, hk, hA⟩ := hrel;by_cases hlt : k < s.size
  ·have hdr := Hj (drop_cons s k hlt)
   cases hi : inw s[k]
   ·have hz : Hid (k = a + n) := by
     have h2 := hA.out; rw [hdr.out, rn_no _ hi] at h2; exact h2
    by_cases h12 : n <= 12
    ·have c12 : (k : Int) - (a : Int) <= 12 := by have := hz.out; omega
     go_wp2_with (go_at_call 150; refine (inWord_any _ _).mono ?_; rintro e w1 ⟨rfl, rfl⟩)
     go_ret2
     exact ext_ret (HT1.out h12) (by rw [hz.out]) rfl (Rel.refl _)
    ·have c12 : ¬ (k : Int) - (a : Int) <= 12 := by have := hz.out; omega
     go_wp2_with (go_at_call 150; refine (inWord_any _ _).mono ?_; rintro e w1 ⟨rfl, rfl⟩)
     go_ret2
     exact ext_ret (HT0.out h12) rfl rfl (Rel.refl _)
   ·have hA2 : Hid (k + 1 + rn inw (s.data.toList.drop (k + 1)) = a + n) := by
     have h2 := hA.out; rw [hdr.out, rn_yes _ hi] at h2; show _ = _; omega
    go_wp2_with (go_at_call 150; refine (inWord_any _ _).mono ?_; rintro e w1 ⟨rfl, rfl⟩)
    go_round
    case rel => exact ⟨k + 1, by go_num, by omega, by omega, hA2⟩
    case measure => simp [intOf]; omega
  ·have hz : Hid (k = a + n) := by
    have h2 := hA.out; rw [drop_end s k (by omega), rn_nil] at h2; exact h2
   by_cases h12 : n <= 12
   ·have c12 : (k : Int) - (a : Int) <= 12 := by have := hz.out; omega
    go_wp2
    go_ret2
    exact ext_ret (HT1.out h12) (by rw [hz.out]) rfl (Rel.refl _)
   ·have c12 : ¬ (k : Int) - (a : Int) <= 12 := by have := hz.out; omega
    go_wp2
    go_ret2
    exact ext_ret (HT0.out h12) rfl rfl (Rel.refl _)
theorem inn_no {c : UInt8} (h1 : inw c = false) (h2 : ((c.toNat : Int) == 46) = false) : inn c = false := by unfold inn; rw [h1, h2]; rfl
theorem inn_w {c : UInt8} (h1 : inw c = true) : inn c = true := by unfold inn; rw [h1]; rfl
theorem inn_p {c : UInt8} (h1 : inw c = false) (h2 : ((c.toNat : Int) == 46) = true) : inn c = true := by unfold inn; rw [h1, h2]; rfl
set_option maxRecDepth 100000 in
theorem extent_n (s : ByteArray) (a : Nat) (w : World) (hs : s.size <= 140737488355328) (ha : a < s.size) (hl : low s[a] = false) (hd : dgb s[a] = true) :
  Calls prog 148 #[.string s, .int .i64 (a : Int)] w (ExtRes s a w) := by
 obtain ⟨n, hn⟩ : ∃ n, rn inn (s.data.toList.drop a) = n := ⟨_, rfl⟩;have hnb : a + n <= s.size := by have := rn_le inn (s.data.toList.drop a); rw [drop_len, hn] at this; omega
 have T1 := fun h => tok_n1 ha hl hd h
 have T0 := fun h => tok_n0 ha hl hd h
 rw [hn] at T1 T0;obtain ⟨B, hB⟩ : ∃ B, decB (s.extract a (a + n)) = B := ⟨_, rfl⟩;rw [hB] at T1 T0
 have DC : Hid (∀ k w, k = a + n -> Calls prog 95 #[.string (s.extract a k)] w fun e w' => e = .returned (.tuple #[.agg #[.int .i64 (decN (s.extract a (a + n))), .int .i64 (decD (s.extract a (a + n)))], .int .i64 (decX (s.extract a (a + n))), .bool B]) /\ Rel w w') := fun k w hk => by
  have := Decimal_any (s.extract a (a + n)) w (by rw [ByteArray.size_extract]; unfold maxLen; omega);unfold DecRes at this; rw [hB] at this; rw [hk]; exact this
 have HT1 := Hj T1;have HT0 := Hj T0;have HN := Hj hn;clear T1 T0 hn hB;go_enter func148, ntmps148
 go_wp2_with (first | (go_at_call 149; refine (lower_any _ _).mono ?_; rintro e w1 ⟨rfl, rfl⟩) | (go_at_call 172; refine (digit_any _ _).mono ?_; rintro e w1 ⟨rfl, rfl⟩))
 clear hl hd
 go_loop [4] (fun v => ∃ k : Nat, v = .int .i64 k /\ a <= k /\ k <= s.size /\ Hid (k + rn inn (s.data.toList.drop k) = a + n)) (fun v => s.size - (intOf v).toNat)
 case atStart => exact ⟨a, rfl, by omega, by omega, by show _ = _; rw [HN.out]⟩
 case round =>
  obtain ⟨k, rfl, hak, hk, hA⟩ := hrel;by_cases hlt : k < s.size
  ·have hdr := Hj (drop_cons s k hlt)
   cases hi : inw s[k]
   ·cases h46 : ((s[k].toNat : Int) == 46)
    ·have hz : Hid (k = a + n) := by
      have h2 := hA.out; rw [hdr.out, rn_no _ (inn_no hi h46)] at h2; exact h2
     go_wp2_with (go_at_call 150; refine (inWord_any _ _).mono ?_; rintro e w1 ⟨rfl, rfl⟩)
     with_reducible refine (DC.out k _ hz.out).mono ?_
     rintro e w1 ⟨rfl, h1⟩;have kz1 := h1.size;(try simp only [zsa, zsc, zsd] at kz1);have H1 := Hj h1;clear h1;cases B
     ·go_wp2
      go_ret2
      exact ext_ret (HT0.out (by first | rfl | trivial | (simp; done))) rfl rfl (rx10)
     ·go_wp2
      go_ret2
      exact ext_ret (HT1.out (by first | rfl | trivial | (simp; done))) (by rw [hz.out]) rfl (rx10)
    ·have hA2 : Hid (k + 1 + rn inn (s.data.toList.drop (k + 1)) = a + n) := by
      have h2 := hA.out; rw [hdr.out, rn_yes _ (inn_p hi h46)] at h2; show _ = _; omega
     go_wp2_with (go_at_call 150; refine (inWord_any _ _).mono ?_; rintro e w1 ⟨rfl, rfl⟩)
     go_round
     case rel => exact ⟨k + 1, by go_num, by omega, by omega, hA2⟩
     case measure => simp [intOf]; omega
   ·have hA2 : Hid (k + 1 + rn inn (s.data.toList.drop (k + 1)) = a + n) := by
     have h2 := hA.out; rw [hdr.out, rn_yes _ (inn_w hi)] at h2; show _ = _; omega
    go_wp2_with (go_at_call 150; refine (inWord_any _ _).mono ?_; rintro e w1 ⟨rfl, rfl⟩)
    go_round
    case rel => exact ⟨k + 1, by go_num, by omega, by omega, hA2⟩
    case measure => simp [intOf]; omega
  ·have hz : Hid (k = a + n) := by
    have h2 := hA.out; rw [drop_end s k (by omega), rn_nil] at h2; exact h2
   go_wp2_with fail
   with_reducible refine (DC.out k _ hz.out).mono ?_
   rintro e w1 ⟨rfl, h1⟩;have kz1 := h1.size;(try simp only [zsa, zsc, zsd] at kz1);have H1 := Hj h1;clear h1;cases B
   ·go_wp2
    go_ret2
    exact ext_ret (HT0.out (by first | rfl | trivial | (simp; done))) rfl rfl (rx10)
   ·go_wp2
    go_ret2
    exact ext_ret (HT1.out (by first | rfl | trivial | (simp; done))) (by rw [hz.out]) rfl (rx10)
set_option maxRecDepth 100000 in
theorem extent_d (s : ByteArray) (a : Nat) (w : World) (hs : s.size <= 140737488355328) (ha : a < s.size) (hl : low s[a] = false) (hd : dgb s[a] = false) (h64 : (s[a].toNat : Int) = 64) :
  Calls prog 148 #[.string s, .int .i64 (a : Int)] w (ExtRes s a w) := by
 have b64 : ((s[a].toNat : Int) == 64) = true := by simpa using h64
 by_cases h11 : a + 11 <= s.size
 ·have T1 := fun h => tok_d1 ha hl hd h64 h11 h
  have T0 := fun (h : ¬ prsB (s.extract (a + 1) (a + 11)) = true) => tok_d0 ha hl hd h64 (fun h' => h h'.2)
  obtain ⟨B, hB⟩ : ∃ B, prsB (s.extract (a + 1) (a + 11)) = B := ⟨_, rfl⟩;rw [hB] at T1 T0
  have DC : Hid (∀ w, Calls prog 72 #[.string (s.extract (a + 1) (a + 11))] w fun e w' => e = .returned (.tuple #[.int .i64 (prsN (s.extract (a + 1) (a + 11))), .bool B]) /\ Rel w w') := fun w => by
   have := Parse_any (s.extract (a + 1) (a + 11)) w (by rw [ByteArray.size_extract]; unfold maxLen; omega);rw [hB] at this; exact this
  have HT1 := Hj T1;have HT0 := Hj T0;have c11 : (a : Int) + 11 <= (s.size : Int) := by omega
  have q1 : ((a : Int) + 11).toNat = a + 11 := by omega
  have q2 : ((a : Int) + 1).toNat = a + 1 := by omega
  clear T1 T0 hB h64;go_enter func148, ntmps148
  go_wp2_with (first | (go_at_call 149; refine (lower_any _ _).mono ?_; rintro e w1 ⟨rfl, rfl⟩) | (go_at_call 172; refine (digit_any _ _).mono ?_; rintro e w1 ⟨rfl, rfl⟩))
  with_reducible refine (DC.out _).mono ?_
  rintro e w1 ⟨rfl, h1⟩;have kz1 := h1.size;(try simp only [zsa, zsc, zsd] at kz1);have H1 := Hj h1;clear h1;cases B
  ·go_wp2
   go_ret2
   exact ext_ret (HT0.out (by first | rfl | trivial | (simp; done))) rfl rfl (rx10)
  ·go_wp2
   go_ret2
   exact ext_ret (HT1.out (by first | rfl | trivial | (simp; done))) (by omega) rfl (rx10)
 ·have T0 := Hj (tok_d0 ha hl hd h64 (fun h' => h11 h'.1));have c11 : ¬ (a : Int) + 11 <= (s.size : Int) := by omega
  clear h64;go_enter func148, ntmps148
  go_wp2_with (first | (go_at_call 149; refine (lower_any _ _).mono ?_; rintro e w1 ⟨rfl, rfl⟩) | (go_at_call 172; refine (digit_any _ _).mono ?_; rintro e w1 ⟨rfl, rfl⟩))
  go_ret2
  exact ext_ret T0.out rfl rfl (Rel.refl _)
theorem HasPrefix_any (s p : ByteArray) (w : World) : Calls prog 178 #[.string s, .string p] w fun e w' => e = .returned (.bool (Lib.hasPrefix s.data.toList p.data.toList)) /\ w = w' :=
 (Tryz.strings_HasPrefix s p w).mono fun e w' ⟨a, b⟩ => ⟨a, b.symm⟩
theorem tail_list (s : ByteArray) (a : Nat) : (s.extract a s.size).data.toList = s.data.toList.drop a := by
 rw [ext_data]; apply List.take_of_length_le; rw [drop_len]; exact Nat.le_refl _
theorem pfx_any (s : ByteArray) (a i : Nat) (p : ByteArray) (b : Bool) (hp : p.data.toList = sig i) (hb : pfx (s.data.toList.drop a) i = b) (w : World) : Calls prog 178 #[.string (s.extract a s.size), .string p] w fun e w' => e = .returned (.bool b) /\ w = w' := by
 have := HasPrefix_any (s.extract a s.size) p w;rw [tail_list, hp] at this;unfold pfx at hb;rw [hb] at this; exact this
theorem pfx_room {l : List UInt8} {i : Nat} (h : pfx l i = true) : (sig i).length <= l.length := Lib.hasPrefix_le h
set_option maxRecDepth 100000 in
theorem extent_s (s : ByteArray) (a : Nat) (w : World) (hs : s.size <= 140737488355328) (ha : a < s.size) (hl : low s[a] = false) (hd : dgb s[a] = false) (h64 : ¬ (s[a].toNat : Int) = 64) :
  Calls prog 148 #[.string s, .int .i64 (a : Int)] w (ExtRes s a w) := by
 have b64 : ((s[a].toNat : Int) == 64) = false := by simpa using h64
 have T := Hj (tok_s ha hl hd h64);clear h64;go_enter func148, ntmps148
 go_wp2_with (first | (go_at_call 149; refine (lower_any _ _).mono ?_; rintro e w1 ⟨rfl, rfl⟩) | (go_at_call 172; refine (digit_any _ _).mono ?_; rintro e w1 ⟨rfl, rfl⟩))
 clear hl hd b64
 go_loop [19] (fun v => ∃ i : Nat, i <= 16 /\ v = .int .i64 i /\ Hid (∀ j, j < i -> pfx (s.data.toList.drop a) j = false)) (fun v => 16 - (intOf v).toNat)
 case atStart => exact ⟨0, by omega, rfl, by intro j hj; omega⟩
 case round =>
  obtain ⟨i, hi, rfl, hno⟩ := hrel;by_cases h16 : i = 16
  ·subst h16;have HR := Hj (sgl_none _ hno.out);go_wp2
   go_ret2
   exact ext_ret T.out (by rw [HR.out]; rfl) (by rw [HR.out]; rfl) (Rel.refl _)
  obtain ⟨p, hp1, hp0, ix⟩ : ∃ p : ByteArray, p.data.toList = sig i /\ 0 < p.size /\ ∀ w, (Instr.index 199 (.agg #[.string ⟨#[60, 61]⟩, .string ⟨#[62, 61]⟩, .string ⟨#[60, 62]⟩, .string ⟨#[60]⟩, .string ⟨#[62]⟩, .string ⟨#[61]⟩, .string ⟨#[43]⟩, .string ⟨#[45]⟩, .string ⟨#[42]⟩, .string ⟨#[47]⟩, .string ⟨#[40]⟩, .string ⟨#[41]⟩, .string ⟨#[123]⟩, .string ⟨#[125]⟩, .string ⟨#[44]⟩, .string ⟨#[59]⟩]) (.int .i64 (i : Int))).run prog w = .ok (.string p) w := by
   refine ⟨⟨(sig i).toArray⟩, by simp, ?_⟩
   rcases (show i = 0 \/ i = 1 \/ i = 2 \/ i = 3 \/ i = 4 \/ i = 5 \/ i = 6 \/ i = 7 \/ i = 8 \/ i = 9 \/ i = 10 \/ i = 11 \/ i = 12 \/ i = 13 \/ i = 14 \/ i = 15 by omega) with rfl | rfl | rfl | rfl | rfl | rfl | rfl | rfl | rfl | rfl | rfl | rfl | rfl | rfl | rfl | rfl <;> exact ⟨by decide, fun _ => by kernel_rfl⟩
  have ii : (i : Int) < 16 := by omega
  have HI := Hj (show i < 16 by omega)
  cases hp : pfx (s.data.toList.drop a) i
  ·have HP2 : Hid (∀ j, j < i + 1 -> pfx (s.data.toList.drop a) j = false) := fun j hj => by
    rcases (show j < i \/ j = i by omega) with h | rfl
    ·exact hno.out j h
    ·exact hp
   have PX := Hj fun w => pfx_any s a i p false hp1 hp w
   clear hp
   go_wp2_with (go_at_call 178; refine (PX.out _).mono ?_; rintro e w1 ⟨rfl, rfl⟩)
   go_round
   case rel => exact ⟨i + 1, by omega, by go_num, HP2⟩
   case measure => simp [intOf]; omega
  ·have HR := Hj (sgl_hit _ i HI.out hp hno.out);have PX := Hj fun w => pfx_any s a i p true hp1 hp w
   have HL := pfx_room hp;have zp : (sig i).length = p.size := by rw [<- hp1]; simp
   rw [zp] at HL HR;rw [drop_len] at HL;have HZ := Hj hp0;clear hp zp
   go_wp2_with (go_at_call 178; refine (PX.out _).mono ?_; rintro e w1 ⟨rfl, rfl⟩)
   go_ret2
   exact ext_ret T.out (by rw [HR.out]; omega) (by rw [HR.out, if_pos HZ.out]) (Rel.refl _)
theorem extent_any (s : ByteArray) (a : Nat) (w : World) (hs : s.size <= 140737488355328) (ha : a < s.size) :
  Calls prog 148 #[.string s, .int .i64 (a : Int)] w (ExtRes s a w) := by
 cases hl : low s[a]
 ·cases hd : dgb s[a]
  ·by_cases h64 : (s[a].toNat : Int) = 64
   ·exact extent_d s a w hs ha hl hd h64
   ·exact extent_s s a w hs ha hl hd h64
  ·exact extent_n s a w hs ha hl hd
 ·exact extent_w s a w hs ha hl
def NxRes (s : ByteArray) (a : Int) (w : World) (e : Ending) (w' : World) : Prop := e = .returned (.tuple #[.agg #[.int .i64 (nxK s a), .string (nxT s a), .int .i64 (nxA s a)], .int .i64 (nxN s a), .int .i64 (nxE s a)]) /\ Rel w w'
theorem nx_ret {s t : ByteArray} {a k x n c : Int} {w w' : World} (h : nxK s a = k /\ nxT s a = t /\ nxA s a = x /\ nxN s a = n /\ nxE s a = c) (r : Rel w w') : NxRes s a w (.returned (.tuple #[.agg #[.int .i64 k, .string t, .int .i64 x], .int .i64 n, .int .i64 c])) w' := by
 unfold NxRes; rw [h.1, h.2.1, h.2.2.1, h.2.2.2.1, h.2.2.2.2]; exact ⟨rfl, r⟩
theorem Next_any (s : ByteArray) (a : Int) (w : World) (hs : s.size <= 140737488355328) (h0 : -9223372036854775808 <= a) (h1 : a <= 9223372036854775807) :
  Calls prog 110 #[.string s, .int .i64 a] w (NxRes s a w) := by
 by_cases hin : 0 <= a /\ a <= s.size
 ·obtain ⟨k, rfl⟩ : ∃ k : Nat, a = k := ⟨a.toNat, by omega⟩;have hk : k <= s.size := by omega
  clear hin h0 h1;obtain ⟨b, hb⟩ : ∃ b, skp s k = b := ⟨_, rfl⟩;have hbs : b <= s.size := by have := (skp_le hk).1; omega
  have SK : Hid (∀ w, Calls prog 147 #[.string s, .int .i64 (k : Int)] w fun e w' => e = .returned (.int .i64 (b : Int)) /\ w = w') := fun w => by
   have := skip_any s k w (by unfold maxLen; omega) hk; rwa [hb] at this
  by_cases he : b = s.size
  ·have R := Hj (nx_1 hk (hb.trans he));subst he;clear hb;go_enter func110, ntmps110;go_wp2_with fail
   with_reducible refine (SK.out _).mono ?_
   rintro e w1 ⟨rfl, rfl⟩;refine gw ?_;refine bodyPost_ret (v := .tuple #[.agg #[.int .i64 0, .string ⟨#[]⟩, .int .i64 s.size], .int .i64 s.size, .int .i64 0]) ?_ rfl (nx_ret R.out ?_)
   ·simp [results, results110, go_sem]
   ·exact rx10
  ·have hbl : b < s.size := by omega
   have hne : ((b : Int) == (s.size : Int)) = false := by simp; omega
   obtain ⟨n, hn⟩ : ∃ n, tokN s b = n := ⟨_, rfl⟩;obtain ⟨K, hK⟩ : ∃ K, tokK s b = K := ⟨_, rfl⟩;have hbn : b + n <= s.size := by have := tok_le hbl; omega
   have EX : Hid (∀ w, Calls prog 148 #[.string s, .int .i64 (b : Int)] w fun e w' => e = .returned (.tuple #[.int .i64 (b + n : Nat), .int .i64 K]) /\ Rel w w') := fun w => by
    have := extent_any s b w hs hbl; unfold ExtRes at this; rwa [hn, hK] at this
   by_cases hz : K = 0
   ·have R := Hj (nx_2 hk hb he (hK.trans hz));subst hz;clear hb hn hK he;go_enter func110, ntmps110;go_wp2_with fail
    with_reducible refine (SK.out _).mono ?_
    rintro e w1 ⟨rfl, rfl⟩;go_wp2_with fail
    with_reducible refine (EX.out _).mono ?_
    rintro e w1 ⟨rfl, h1⟩;have kq0 := keep3 h1 (b := w.heap.size) (by first | (simp; done) | (simp; omega) | omega);have kc1_0_0 := kq0.1;have kc1_0_1 := kq0.2.1;have kc1_0_2 := kq0.2.2.1;have kz1 := h1.size;(try simp only [zsa, zsc, zsd] at kz1);have H1 := Hj h1;clear h1;refine gw ?_;refine bodyPost_ret (v := .tuple #[.agg #[.int .i64 0, .string ⟨#[]⟩, .int .i64 0], .int .i64 b, .int .i64 4]) ?_ rfl (nx_ret R.out ?_)
    ·simp [results, results110, go_sem, kc1_0_0, kc1_0_1, kc1_0_2]
    ·exact rx10
   ·have R := Hj (nx_3 hk hb he (fun h => hz (hK.symm.trans h)));have R2 := R.out;rw [hn, hK] at R2;have RR := Hj R2;have bz : (K == 0) = false := by simpa using hz
    have i1 : ((b + n : Nat) : Int).toNat = b + n := by omega
    clear hb hn hK he hz R R2;go_enter func110, ntmps110;go_wp2_with fail
    with_reducible refine (SK.out _).mono ?_
    rintro e w1 ⟨rfl, rfl⟩;go_wp2_with fail
    with_reducible refine (EX.out _).mono ?_
    rintro e w1 ⟨rfl, h1⟩;have kq1 := keep3 h1 (b := w.heap.size) (by first | (simp; done) | (simp; omega) | omega);have kc1_0_0 := kq1.1;have kc1_0_1 := kq1.2.1;have kc1_0_2 := kq1.2.2.1;have kz1 := h1.size;(try simp only [zsa, zsc, zsd] at kz1);have H1 := Hj h1;clear h1;go_upto_region 9 with (fail);refine gw ?_;refine bodyPost_ret (v := .tuple #[.agg #[.int .i64 K, .string (s.extract b (b + n)), .int .i64 b], .int .i64 (b + n : Nat), .int .i64 0]) ?_ rfl (nx_ret RR.out ?_)
    ·simp [results, results110, go_sem, kc1_0_0, kc1_0_1, kc1_0_2]
    ·exact rx10
 ·have R := Hj (nx_0 (s := s) (a := a) (by omega))
  rcases (show a < 0 \/ (¬ a < 0 /\ (s.size : Int) < a) by omega) with hc | ⟨hc, hc2⟩
  all_goals
   clear hin;go_enter func110, ntmps110;go_upto_region 2 with (fail);refine gw ?_;refine bodyPost_ret (v := .tuple #[.agg #[.int .i64 0, .string ⟨#[]⟩, .int .i64 0], .int .i64 0, .int .i64 1]) ?_ rfl (nx_ret R.out ?_)
   ·simp [results, results110, go_sem]
   ·exact rx10
structure Tk where
 K : Int
 T : ByteArray
 A : Int
def encT (t : Tk) : List Value := [.int .i64 t.K, .string t.T, .int .i64 t.A]
def encL (l : List Tk) : List Value := l.flatMap encT
theorem encL_snoc (l : List Tk) (t : Tk) : encL (l ++ [t]) = encL l ++ encT t := by unfold encL; simp
def allF (s : ByteArray) : Nat -> Nat -> List Tk -> List Tk × Int × Int
 | 0, _, acc => (acc, 0, 0)
 | f + 1, a, acc =>
  if skp s a = s.size then (acc, 0, 0)
  else if tokK s (skp s a) = 0 then ([], (skp s a : Int), 4)
  else allF s f (skp s a + tokN s (skp s a)) (acc ++ [⟨tokK s (skp s a), s.extract (skp s a) (skp s a + tokN s (skp s a)), (skp s a : Int)⟩])
def allR (s : ByteArray) : List Tk × Int × Int := if s.size <= 8000 then allF s (s.size + 1) 0 [] else ([], 0, 7)
theorem tokN_pos {s : ByteArray} {b : Nat} (h : ¬ tokK s b = 0) : 1 <= tokN s b := by
 by_cases hb : b < s.size
 ·have hdr := drop_cons s b hb
  cases hl : low s[b]
  ·cases hd : dgb s[b]
   ·by_cases h64 : (s[b].toNat : Int) = 64
    ·by_cases hp : b + 11 <= s.size /\ prsB (s.extract (b + 1) (b + 11)) = true
     ·rw [(tok_d1 hb hl hd h64 hp.1 hp.2).1]; decide
     ·exact absurd (tok_d0 hb hl hd h64 hp).2 h
    ·have T := tok_s hb hl hd h64;rw [T.2] at h;rw [T.1];by_cases h0 : 0 < sgl (s.data.toList.drop b)
     ·exact h0
     ·rw [if_neg h0] at h; exact absurd rfl h
   ·cases hp : decB (s.extract b (b + rn inn (s.data.toList.drop b)))
    ·exact absurd (tok_n0 hb hl hd hp).2 h
    ·rw [(tok_n1 hb hl hd hp).1, hdr, rn_yes]
     ·omega
     ·unfold inn inw; rw [hd]; simp
  ·by_cases hp : rn inw (s.data.toList.drop b) <= 12
   ·rw [(tok_w1 hb hl hp).1, hdr, rn_yes _ (low_inw hl)]; omega
   ·exact absurd (tok_w0 hb hl hp).2 h
 ·unfold tokK at h; rw [dif_neg hb] at h; exact absurd rfl h
def AllRes (s : ByteArray) (w : World) (e : Ending) (w' : World) : Prop := ∃ v, e = .returned (.tuple #[v, .int .i64 (allR s).2.1, .int .i64 (allR s).2.2]) /\ Rel w w' /\ w'.ownsRow w.heap.size 129 3 v (allR s).1.length (encL (allR s).1)
theorem all_ret {s : ByteArray} {w w' : World} {l : List Tk} {x c : Int} {v : Value} (h : allR s = (l, x, c)) (r : Rel w w') (ho : w'.ownsRow w.heap.size 129 3 v l.length (encL l)) : AllRes s w (.returned (.tuple #[v, .int .i64 x, .int .i64 c])) w' := by
 unfold AllRes; rw [h]; exact ⟨v, rfl, r, ho⟩
theorem rel_grown {w w' : World} (r : Rel w w') (row : Option Nat) : w.grownBy w' row := ⟨Below.os r, Below.tape r, Below.output r, Below.size r, fun k hk _ => Below.block r k hk⟩
theorem own_rel {w w' : World} {base : Nat} {e : TypeId} {size : Nat} {v : Value} {n : Nat} {xs : List Value} (h : w.ownsRow base e size v n xs) (r : Rel w w') : w'.ownsRow base e size v n xs :=
 h.kept (rel_grown r none) (by cases hv : v.ownBlock <;> simp)
theorem new3_cells (w : World) (x y z : Value) (T : TypeId) : ∀ (j : Nat) u, [x, y, z][j]? = some u -> (w.alloc (.cells #[x, y, z] T)).cell? ((⟨w.heap.size, 0, none⟩ : Addr).add j) = some u := by
 intro j u h
 match j with
 | 0 => simp at h; subst h; simp [Addr.add]
 | 1 => simp at h; subst h; simp [Addr.add]
 | 2 => simp at h; subst h; simp [Addr.add]
 | j + 3 => simp at h
theorem own_base {w wr : World} (h : Rel w wr) {v : Value} {n : Nat} {xs : List Value} {e : TypeId} {size : Nat} (ho : wr.ownsRow w.heap.size e size v n xs) : ∀ k, v.ownBlock = some k -> w.heap.size <= k := fun k hk => (ho.lt k hk).1
set_option maxRecDepth 100000 in
theorem All_any (s : ByteArray) (w : World) (hs : s.size <= 140737488355328) :
  Calls prog 66 #[.string s] w (AllRes s w) := by
 by_cases h8 : s.size <= 8000
 ·obtain ⟨RES, hRES⟩ : ∃ RES, allR s = RES := ⟨_, rfl⟩;have h0 : allF s (s.size + 1) 0 [] = RES := by rw [<- hRES]; unfold allR; rw [if_pos h8]
  have H0 := Hj h0;have HR := Hj hRES;clear h0 hRES;have hi26 : (prog.info? 129).map (fun i => (i.zero, i.size, i.bytes)) = some (some (.agg #[.int .i64 0, .string ByteArray.empty, .int .i64 0]), 3, 32) := by kernel_rfl
  obtain ⟨i0, hi, hx⟩ := Option.map_eq_some_iff.1 hi26;simp only [Prod.mk.injEq] at hx;obtain ⟨hz0, hz1, hz2⟩ := hx;have HI := Hj hi;have HZ0 := Hj hz0;have HZ1 := Hj hz1;have HZ2 := Hj hz2;clear hi26 hi hz0 hz1 hz2;go_enter func66, ntmps66;go_wp2
  go_loopg [2, 3] (s.size + 1) (fun g v i wx => ∃ (a : Nat) (acc : List Tk) (vv : Value), vv = v /\ i = .int .i64 a /\ a <= s.size /\ s.size + 1 <= g + a /\ acc.length <= a /\ Hid (allF s g a acc = RES) /\ Hid (wx.ownsRow w.heap.size 129 3 vv acc.length (encL acc)) /\ Hid (Rel w wx))
  case atStart => exact ⟨0, [], _, rfl, rfl, by omega, by omega, by simp, H0, World.ownsRow_nil _ _ _ _, Rel.refl _⟩
  case round =>
   obtain ⟨a, acc, vv, rfl, rfl, ha, hga, hla, hF, hO, hR⟩ := hrel
   cases gk with
   | zero => omega
   | succ g =>
    have hF1 := hF.out;simp only [allF] at hF1;obtain ⟨b, hb⟩ : ∃ b, skp s a = b := ⟨_, rfl⟩;rw [hb] at hF1;have hbs : b <= s.size /\ a <= b := by have := skp_le ha; omega
    have NX := fun w => Next_any s a w hs (by omega) (by omega)
    by_cases he : b = s.size
    ·rw [if_pos he] at hF1;obtain ⟨n1, n2, n3, n4, n5⟩ := nx_1 ha (hb.trans he)
     have N : Hid (∀ w, Calls prog 110 #[.string s, .int .i64 (a : Int)] w fun e w' => e = .returned (.tuple #[.agg #[.int .i64 0, .string ⟨#[]⟩, .int .i64 s.size], .int .i64 s.size, .int .i64 0]) /\ Rel w w') := fun w => by
      have := NX w; unfold NxRes at this; rwa [n1, n2, n3, n4, n5] at this
     have RR : Hid (allR s = (acc, 0, 0)) := HR.out.trans hF1.symm;clear NX n1 n2 n3 n4 n5 hF1 he hb hbs;go_wp2_with fail
     with_reducible refine (N.out _).mono ?_
     rintro e w1 ⟨rfl, h1⟩;have kz1 := h1.size;(try simp only [zsa, zsc, zsd] at kz1);have H1 := Hj h1;clear h1;go_upto_region 7 with (fail);refine gw ?_
     go_ret3
     exact all_ret RR.out ((hR.out.trans H1.out).alloc _) (own_rel hO.out (H1.out.alloc _))
    ·rw [if_neg he] at hF1;have hbl : b < s.size := by omega
     by_cases hk : tokK s b = 0
     ·rw [if_pos hk] at hF1;obtain ⟨n1, n2, n3, n4, n5⟩ := nx_2 ha hb he hk
      have N : Hid (∀ w, Calls prog 110 #[.string s, .int .i64 (a : Int)] w fun e w' => e = .returned (.tuple #[.agg #[.int .i64 0, .string ⟨#[]⟩, .int .i64 0], .int .i64 b, .int .i64 4]) /\ Rel w w') := fun w => by
       have := NX w; unfold NxRes at this; rwa [n1, n2, n3, n4, n5] at this
      have RR : Hid (allR s = ([], (b : Int), 4)) := HR.out.trans hF1.symm;clear NX n1 n2 n3 n4 n5 hF1 he hb hbs hk;go_wp2_with fail
      with_reducible refine (N.out _).mono ?_
      rintro e w1 ⟨rfl, h1⟩;have kz1 := h1.size;(try simp only [zsa, zsc, zsd] at kz1);have H1 := Hj h1;clear h1;go_upto_region 5 with (fail);refine gw ?_
      go_ret3
      exact all_ret RR.out ((hR.out.trans H1.out).alloc _) (World.ownsRow_nil _ _ _ _)
     ·rw [if_neg hk] at hF1;obtain ⟨n1, n2, n3, n4, n5⟩ := nx_3 ha hb he hk;have hn1 := tokN_pos hk;have hn2 := tok_le hbl;obtain ⟨n, hn⟩ : ∃ n, tokN s b = n := ⟨_, rfl⟩;obtain ⟨K, hK⟩ : ∃ K, tokK s b = K := ⟨_, rfl⟩;obtain ⟨T, hT⟩ : ∃ T, s.extract b (b + n) = T := ⟨_, rfl⟩;rw [hn] at n2 n4 hF1 hn1 hn2;rw [hK] at n1 hF1 hk;rw [hT] at n2 hF1
      have N : Hid (∀ w, Calls prog 110 #[.string s, .int .i64 (a : Int)] w fun e w' => e = .returned (.tuple #[.agg #[.int .i64 K, .string T, .int .i64 b], .int .i64 (b + n : Nat), .int .i64 0]) /\ Rel w w') := fun w => by
       have := NX w; unfold NxRes at this; rwa [n1, n2, n3, n4, n5] at this
      have HF := Hj hF1;have kz : (K == 0) = false := by simpa using hk
      clear NX n1 n2 n3 n4 n5 hF1 he hb hk hn hK hT;go_wp2_with fail
      with_reducible refine (N.out _).mono ?_
      rintro e w1 ⟨rfl, h1⟩;have kz1 := h1.size;(try simp only [zsa, zsc, zsd] at kz1);have H1 := Hj h1;clear h1;have O1 := Hj (own_rel (own_rel hO.out (H1.out.alloc (.cells #[.int .i64 K, .string T, .int .i64 b] 129))) ((Rel.refl _).alloc (.cells #[.int .i64 K, .string T, .int .i64 b] 129)));go_upto_region 8 with (fail)
      go_wp2_with (at_builtin; refine wpList_append_own _ rfl _ _ 88 rfl w.heap.size 129 i0 (.agg #[.int .i64 0, .string ByteArray.empty, .int .i64 0]) 3 32 underlying88 HI.out HZ0.out HZ1.out HZ2.out rfl (by decide) vv acc.length (encL acc) rfl O1.out ⟨w1.heap.size + 1, 0, none⟩ 1 1 [.int .i64 K, .string T, .int .i64 b] rfl rfl ?c1 ?c2 ?c3 ?c4 ?c5 ?_)
      case c1 =>
       intro j u h;have := new3_cells (w1.alloc (.cells #[.int .i64 K, .string T, .int .i64 b] 129)) (.int .i64 K) (.string T) (.int .i64 b) 129 j u h;simpa using this
      case c2 => intro u hu; simp at hu; rcases hu with rfl | rfl | rfl <;> rfl
      case c3 => unfold maxLen; omega
      case c4 => omega
      case c5 => have := Below.size hR.out; have := Below.size H1.out; simp; omega
      intro v' w2 hown' hgrow _
      have R2 : Hid (Rel w w2) := by
       show Rel w w2
       refine Below.grown (((hR.out.trans H1.out).alloc _).alloc _) hgrow (by have := Below.size hR.out; have := Below.size H1.out; simp; omega) (own_base hR.out hO.out)
      have O2 : Hid (w2.ownsRow w.heap.size 129 3 v' (acc ++ [(⟨K, T, (b : Int)⟩ : Tk)]).length (encL (acc ++ [(⟨K, T, (b : Int)⟩ : Tk)]))) := by
       show World.ownsRow _ _ _ _ _ _ _
       rw [encL_snoc, List.length_append]; exact hown'
      clear hown' hgrow;go_wp2
      go_roundg g
      case rel => exact ⟨b + n, _, v', rfl, rfl, by omega, by omega, by simp; omega, HF, O2, R2⟩
      case measure => omega
 ·have RR : Hid (allR s = ([], 0, 7)) := by show _ = _; unfold allR; rw [if_neg h8]
  go_enter func66, ntmps66;go_upto_region 2 with (fail);refine gw ?_
  go_ret3
  exact all_ret RR.out (Rel.refl _) (World.ownsRow_nil _ _ _ _)
def IntsIn (w : World) (v : Value) (n : Nat) : Prop := ∃ (a0 : Option Addr) (cap : Nat), v = .slice a0 n cap /\ n <= 17592186044416 /\ (0 < n -> ∃ (b off : Nat) (zs : List Int), a0 = some ⟨b, off, none⟩ /\ b < w.heap.size /\ (∀ j, j < n -> w.cell? ⟨b, off + j, none⟩ = some (.int .i64 (zs.getD j 0)) /\ -9223372036854775808 <= zs.getD j 0 /\ zs.getD j 0 <= 9223372036854775807))
theorem own_some {w : World} {base : Nat} {e : TypeId} {size : Nat} {v : Value} {n : Nat} {xs : List Value} (h : w.ownsRow base e size v n xs) (hn : 0 < n) : ∃ g cap, v = .slice (some ⟨g, 0, none⟩) n cap /\ base <= g /\ g < w.heap.size /\ n <= cap /\ cap <= maxLen /\ ∀ (j : Nat) u, xs[j]? = some u -> w.cell? ⟨g, j, none⟩ = some u := by
 have h0' := h
 rcases h.2 with ⟨_, h0⟩ | ⟨g, cap, cur, rfl, hb, hg, h1, h2, _, _⟩
 ·omega
 ·refine ⟨g, cap, rfl, hb, (Array.getElem?_eq_some_iff.1 hg).1, h1, h2, fun j u hu => ?_⟩;have := h0'.cells (g := g) rfl j u hu
  have e : (⟨g, 0, none⟩ : Addr).add j = ⟨g, j, none⟩ := by unfold Addr.add; split <;> simp_all
  rwa [e] at this
end Go.Proofs.YthmlhheceihcbaaGreatDoor
namespace Go.Proofs.YthmlhheceihcbaaGreatDoor
set_option maxHeartbeats 16000000
open Go.ChangeShapes Go.WideShapes Go.ChangeAt Go.RowKit
def rowsB (P : Program) (ts : List TypeId) : Bool := ts.all fun t => P.readableRec t && decide (t < P.types.size)
theorem carryAll {H : Type} {enc : TypeId × Value -> H} {P : Program} (hl : laidOutB P = true) {W W' : World} (hb : Below W.heap.size W W') :
  ∀ (ts : List TypeId) (vs : List Value) (ds : List (DataW H)) (ps : List MemPlace), rowsB P ts = true -> DataW.TrodAll enc P W 0 (fun _ => true) true ts vs ds ps -> (∀ x ∈ ps, x.block < W.heap.size) ->
   DataW.TrodAll enc P W' 0 (fun b => decide (b < W.heap.size)) true ts vs ds ps := by
 intro ts
 induction ts with
 | nil =>
  intro vs ds ps _ h _;obtain ⟨rfl, rfl, rfl⟩ := trodAll_nil h
  exact trodAll_mk0
 | cons t ts ih =>
  intro vs ds ps hr h hlt;obtain ⟨v, vs', d, ds', p, q, rfl, rfl, rfl, h1, h2⟩ := trodAll_cons h;unfold rowsB at hr;simp only [List.all_cons, Bool.and_eq_true, decide_eq_true_eq] at hr;exact trodAll_cons_mk (Below.trod hl hr.1.1 hr.1.2 h1 hb (fun x hx => hlt x (List.mem_append_left _ hx))) (ih _ _ _ hr.2 h2 (fun x hx => hlt x (List.mem_append_right _ hx)))
end Go.Proofs.YthmlhheceihcbaaGreatDoor
namespace Go.Proofs.YthmlhheceihcbaaGreatDoor.Txt
set_option maxHeartbeats 16000000
open Str Frac Tok
theorem dl_zero_one (f m : Nat) (h : 0 < m) : dl f m 0 = dl f m 1 := by
 cases f with
 | zero => rfl
 | succ f => rw [dl_step f m 0 (.inl h), dl_step f m 1 (.inl h)]
theorem dec_dl (f u : Nat) (h : u < 10 ^ (f + 1)) : Lib.decDigits u = dl (f + 1) u 1 := by
 induction f generalizing u with
 | zero =>
  rw [Lib.decDigits, dif_pos (by omega), dl_step 0 u 1 (.inr (by decide)), show u % 10 = u by omega]; rfl
 | succ f ih =>
  rw [Lib.decDigits, dl_step (f + 1) u 1 (.inr (by decide))];by_cases h10 : u < 10
  ·rw [dif_pos h10, show u / 10 = 0 by omega, show 1 - 1 = 0 from rfl, dl_stop, show u % 10 = u by omega]; rfl
  ·rw [dif_neg h10, ih (u / 10) (by rw [Nat.pow_succ] at h; omega), show 1 - 1 = 0 from rfl, dl_zero_one _ _ (by omega)]
theorem dec_dl40 (u : Nat) (h : u <= 1000000000000000000) : Lib.decDigits u = dl 40 u 1 :=
 dec_dl 39 u (Nat.lt_of_le_of_lt h (by decide))
def numL (n : Int) : List UInt8 := if n < 0 then 45 :: dl 40 n.natAbs 1 else dl 40 n.natAbs 1
theorem itoa_numL (n : Int) (h0 : -1000000000000000000 <= n) (h1 : n <= 1000000000000000000) : Lib.itoa n = numL n := by
 unfold Lib.itoa numL;split
 ·rw [dec_dl40 _ (by omega)]
 ·rw [dec_dl40 _ (by omega)]
  congr 1; omega
def numS (n : Int) : ByteArray := ⟨(numL n).toArray⟩
def fmtL (n d : Int) : List UInt8 := if d = 1 then numL n else numL n ++ 47 :: numL d
def fmtS (n d : Int) : ByteArray := if validB n d = true then ⟨(fmtL n d).toArray⟩ else ⟨#[]⟩
theorem fmt_no {n d : Int} (h : validB n d = false) : fmtS n d = ⟨#[]⟩ := by unfold fmtS; rw [if_neg (by simp [h])]
theorem fmt_1 {n d : Int} (h : validB n d = true) (h1 : d = 1) : fmtS n d = numS n := by unfold fmtS fmtL numS; rw [if_pos h, if_pos h1]
theorem fmt_2 {n d : Int} (h : validB n d = true) (h1 : ¬ d = 1) : fmtS n d = numS n ++ (⟨#[47]⟩ ++ numS d) := by
 unfold fmtS fmtL numS; rw [if_pos h, if_neg h1]; apply ba_ext; simp
theorem numL_len (n : Int) : (numL n).length <= 41 := by
 unfold numL;have := dl_length 40 n.natAbs 1;split
 ·simp; omega
 ·omega
theorem numS_size (n : Int) : (numS n).size <= 41 := by
 rw [<- size_list, numS, mk_list]; exact numL_len n
theorem fmtS_size (n d : Int) : (fmtS n d).size <= 83 := by
 have a := numL_len n;have b := numL_len d;rw [<- size_list];unfold fmtS fmtL;split
 ·split
  ·rw [mk_list]; omega
  ·rw [mk_list]; simp; omega
 ·simp
theorem valid_bd {n d : Int} (h : validB n d = true) : -1000000000000000 <= n /\ n <= 1000000000000000 /\ 1 <= d /\ d <= 1000000000 := by
 have := (validB_iff n d).1 h; omega
end Go.Proofs.YthmlhheceihcbaaGreatDoor.Txt
namespace Go.Proofs.YthmlhheceihcbaaGreatDoor.Txt
set_option maxHeartbeats 16000000
open Str Frac Tok
theorem val_cons (c : UInt8) (l : List UInt8) : val (c :: l) = ((c.toNat : Int) - 48) * ((10 ^ l.length : Nat) : Int) + val l := by
 have := val_app [c] l;rw [List.singleton_append] at this;rw [this];have e : val [c] = (c.toNat : Int) - 48 := by simp [val]
 rw [e]
theorem dl_ne (u : Nat) : dl 40 u 1 ≠ [] := by rw [dl_step 39 u 1 (.inr (by decide))]; simp
theorem dl_val1 (u : Nat) (h : u <= 1000000000000000000) : val (dl 40 u 1) = u := val_dl 40 u 1 (Nat.lt_of_le_of_lt h (by decide)) (by decide)
theorem head_ne (f : Nat) : ∀ u, 0 < u -> u < 10 ^ f -> ∃ c r, dl f u 1 = c :: r /\ ¬ (c.toNat : Int) = 48 := by
 induction f with
 | zero => intro u h0 h1; simp at h1; omega
 | succ f ih =>
  intro u h0 h1;rw [dl_step f u 1 (.inr (by decide)), show 1 - 1 = 0 from rfl];by_cases h10 : u / 10 = 0
  ·rw [h10, dl_stop];refine ⟨UInt8.ofNat (48 + u % 10), [], rfl, ?_⟩;have : u % 10 = u := by omega
   rw [this];have h : (UInt8.ofNat (48 + u)).toNat = 48 + u := by simp; omega
   rw [h]; omega
  ·obtain ⟨c, r, e, hc⟩ := ih (u / 10) (by omega) (by rw [Nat.pow_succ] at h1; omega);rw [dl_zero_one _ _ (by omega), e];exact ⟨c, r ++ _, rfl, hc⟩
theorem len_le (f : Nat) : ∀ u k, 1 <= k -> u < 10 ^ k -> (dl f u 1).length <= k := by
 induction f with
 | zero => intro u k _ _; simp [dl]
 | succ f ih =>
  intro u k h1 h;rw [dl_step f u 1 (.inr (by decide)), show 1 - 1 = 0 from rfl];by_cases h10 : u / 10 = 0
  ·rw [h10, dl_stop]; simpa using h1
  ·obtain ⟨j, rfl⟩ : ∃ j, k = j + 1 := ⟨k - 1, by omega⟩;rw [Nat.pow_succ] at h
   have hj : 1 <= j := by
    rcases Nat.eq_zero_or_pos j with rfl | hj
    ·simp at h; omega
    ·exact hj
   have := ih (u / 10) j hj (by omega);rw [dl_zero_one _ _ (by omega)];simp; omega
end Go.Proofs.YthmlhheceihcbaaGreatDoor.Txt
namespace Go.Proofs.YthmlhheceihcbaaGreatDoor
set_option maxHeartbeats 16000000
open Go.RowKit Cal Str Tok Frac Txt Tryz
attribute [local go_sem] calmUpon
set_option linter.unusedVariables false
set_option linter.unusedSimpArgs false
def TabW (w : World) : Prop := Lib.TabIs prog w "internal/strconv.uint64pow10" .u64 Lib.pow10Tab
def ErrW (w : World) : Prop := (∃ tp p, w.var? prog "strconv.ErrSyntax" = some #[.iface tp p]) /\ (∃ tp p, w.var? prog "strconv.ErrRange" = some #[.iface tp p])
theorem var_rel {w w' : World} (r : Rel w w') {P : Program} {name : String} {cs : Array Value} (h : w.var? P name = some cs) : w'.var? P name = some cs := by
 unfold World.var? at h |-
 cases hg : P.globalNamed name with
 | none => rw [hg] at h; exact h
 | some g =>
  rw [hg] at h;simp only [Option.bind_some] at h |-
  have hlt : g < w.heap.size := by
   rcases Nat.lt_or_ge g w.heap.size with h' | h'
   ·exact h'
   ·rw [Array.getElem?_eq_none h'] at h; cases h
  rw [Below.block r g hlt]; exact h
theorem TabW.rel {w w' : World} (h : TabW w) (r : Rel w w') : TabW w' := by
 unfold TabW Lib.TabIs at *;exact var_rel r h
theorem ErrW.rel {w w' : World} (h : ErrW w) (r : Rel w w') : ErrW w' := by
 obtain ⟨⟨t, p, h1⟩, ⟨t', p', h2⟩⟩ := h;exact ⟨⟨t, p, var_rel r h1⟩, ⟨t', p', var_rel r h2⟩⟩
theorem itoa_any (n : Int) (w : World) (ht : TabW w) (h0 : -1000000000000000000 <= n) (h1 : n <= 1000000000000000000) :
  Calls prog 42 #[.int .i64 n] w fun e w' => e = .returned (.string (numS n)) /\ Rel w w' := by
 refine (Tryz.strconv_Itoa n (by omega) (by omega) w ht).mono ?_;rintro e w' ⟨he, k, os, rfl⟩;rw [itoa_numL n h0 h1] at he;exact ⟨he, Lib.below_grow _ _ (Nat.le_refl _) _ _⟩
theorem ret_str {a b : ByteArray} (h : a = b) : Ending.returned (.string a) = .returned (.string b) := by rw [h]
def StrRes (t : ByteArray) (w : World) (e : Ending) (w' : World) : Prop := e = .returned (.string t) /\ Rel w w'
theorem dgt_numL (n : Int) (h : 0 <= n) : dgt n 1 = numS n := by
 unfold dgt numS numL; rw [if_neg (by omega), show n.toNat = n.natAbs by omega]; rfl
theorem neg_numL (n : Int) (h : n < 0) : (⟨#[45]⟩ : ByteArray) ++ dgt (n.natAbs : Int) 1 = numS n := by
 apply ba_ext;unfold dgt numS numL; rw [if_pos h, show ((n.natAbs : Int)).toNat = n.natAbs by omega]; simp
theorem rFormat_any (n d : Int) (w : World) (n0 : -9223372036854775808 <= n) (n1 : n <= 9223372036854775807) (d0 : -9223372036854775808 <= d) (d1 : d <= 9223372036854775807) :
  Calls prog 53 #[.agg #[.int .i64 n, .int .i64 d]] w (StrRes (fmtS n d) w) := by
 unfold StrRes;have z2 := numS_size d;have V := Hj fun w => rvalid_any n d w n0 n1 d0 d1
 cases hv : validB n d
 ·rw [fmt_no hv];rw [hv] at V;clear hv;go_enter func53, ntmps53;go_wp2_with fail;refine (V.out _).mono ?_;unfold BRes;rintro e w1 ⟨rfl, h1⟩;have kq0 := keep2 h1 (b := w.heap.size) (by first | (simp; done) | (simp; omega) | omega);have kz1 := h1.size;(try simp only [zsa, zsc, zsd] at kz1);have H1 := Hj h1;clear h1;go_wp2;go_ret;exact ⟨rfl, rx10⟩
 ·have b := valid_bd hv;rw [hv] at V;have hdd : dgt d 1 = numS d := dgt_numL d (by omega);obtain ⟨D, hD⟩ : ∃ D, dgt d 1 = D := ⟨_, rfl⟩;have SZ := Hj fun w => rsize_any n w n0 n1
  have DG := Hj fun w => rdigits_any (n.natAbs : Int) 1 w (by omega) (by omega) (by omega) (by omega)
  have DD := Hj fun w => rdigits_any d 1 w (by omega) (by omega) (by omega) (by omega)
  have bn : 0 <= (n.natAbs : Int) /\ (n.natAbs : Int) <= 1000000000000000 := by omega
  obtain ⟨m, hm⟩ : ∃ m, (n.natAbs : Int) = m := ⟨_, rfl⟩;have hneg := fun h => neg_numL n h
  have hpos : 0 <= n -> dgt m 1 = numS n := fun h => by rw [<- hm, show (n.natAbs : Int) = n by omega]; exact dgt_numL n h
  rw [hm] at SZ DG hneg bn;obtain ⟨G, hG⟩ : ∃ G, dgt m 1 = G := ⟨_, rfl⟩;have zG : G.size <= 40 := by rw [<- hG]; exact dgt_size _ _
  have e45 : (⟨#[45]⟩ : ByteArray).size = 1 := rfl;have zG2 : ((⟨#[45]⟩ : ByteArray) ++ G).size <= 41 := by rw [ByteArray.size_append]; omega
  rw [hG] at DG hneg hpos;rw [hdd] at DD;have b1 := bn.1;have b2 := bn.2;by_cases hd : d = 1
  ·rw [fmt_1 hv hd];by_cases hn : n < 0
   ·have EQ := Hj (hneg hn);subst hd;clear hv hm hneg hpos hG hdd hD bn e45;go_enter func53, ntmps53;go_wp2_with fail;refine (V.out _).mono ?_;unfold BRes;rintro e w1 ⟨rfl, h1⟩;have kq1 := keep2 h1 (b := w.heap.size) (by first | (simp; done) | (simp; omega) | omega);have kz1 := h1.size;(try simp only [zsa, zsc, zsd] at kz1);have H1 := Hj h1;clear h1;go_wp2_with fail;refine (SZ.out _).mono ?_;rintro e w2 ⟨rfl, rfl⟩;go_wp2_with fail;refine (DG.out _).mono ?_;rintro e w2 ⟨rfl, rfl⟩;go_wp2;go_ret;exact ⟨ret_str EQ.out, rx10⟩
   ·have EQ := Hj (hpos (by omega));subst hd;clear hv hm hneg hpos hG hdd hD bn e45;go_enter func53, ntmps53;go_wp2_with fail;refine (V.out _).mono ?_;unfold BRes;rintro e w1 ⟨rfl, h1⟩;have kq2 := keep2 h1 (b := w.heap.size) (by first | (simp; done) | (simp; omega) | omega);have kz1 := h1.size;(try simp only [zsa, zsc, zsd] at kz1);have H1 := Hj h1;clear h1;go_wp2_with fail;refine (SZ.out _).mono ?_;rintro e w2 ⟨rfl, rfl⟩;go_wp2_with fail;refine (DG.out _).mono ?_;rintro e w2 ⟨rfl, rfl⟩;go_wp2;go_ret;exact ⟨ret_str EQ.out, rx10⟩
  ·rw [fmt_2 hv hd];have hdn : (d != 1) = true := by simpa using hd
   by_cases hn : n < 0
   ·have EQ := Hj (hneg hn);clear hv hm hneg hpos hG hdd hD bn hd e45;go_enter func53, ntmps53;go_wp2_with fail;refine (V.out _).mono ?_;unfold BRes;rintro e w1 ⟨rfl, h1⟩;have kq3 := keep2 h1 (b := w.heap.size) (by first | (simp; done) | (simp; omega) | omega);have kz1 := h1.size;(try simp only [zsa, zsc, zsd] at kz1);have H1 := Hj h1;clear h1;go_wp2_with fail;refine (SZ.out _).mono ?_;rintro e w2 ⟨rfl, rfl⟩;go_wp2_with fail;refine (DG.out _).mono ?_;rintro e w2 ⟨rfl, rfl⟩;go_wp2_with fail;refine (DD.out _).mono ?_;rintro e w2 ⟨rfl, rfl⟩;go_wp2;go_ret;exact ⟨ret_str (by rw [EQ.out, ByteArray.append_assoc]), rx10⟩
   ·have EQ := Hj (hpos (by omega));clear hv hm hneg hpos hG hdd hD bn hd e45;go_enter func53, ntmps53;go_wp2_with fail;refine (V.out _).mono ?_;unfold BRes;rintro e w1 ⟨rfl, h1⟩;have kq4 := keep2 h1 (b := w.heap.size) (by first | (simp; done) | (simp; omega) | omega);have kz1 := h1.size;(try simp only [zsa, zsc, zsd] at kz1);have H1 := Hj h1;clear h1;go_wp2_with fail;refine (SZ.out _).mono ?_;rintro e w2 ⟨rfl, rfl⟩;go_wp2_with fail;refine (DG.out _).mono ?_;rintro e w2 ⟨rfl, rfl⟩;go_wp2_with fail;refine (DD.out _).mono ?_;rintro e w2 ⟨rfl, rfl⟩;go_wp2;go_ret;exact ⟨ret_str (by rw [EQ.out, ByteArray.append_assoc]), rx10⟩
end Go.Proofs.YthmlhheceihcbaaGreatDoor

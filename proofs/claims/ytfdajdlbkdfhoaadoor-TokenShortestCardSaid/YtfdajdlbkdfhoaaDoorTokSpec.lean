/- What the next token is: plain definitions and facts. No program in sight. -/
import Derived.Test.YtfdajdlbkdfhoaaDoorCalT
import Derived.Test.YtfdajdlbkdfhoaaDoorTokDec
import Derived.Lib.Bytes2
namespace Go.Proofs.YtfdajdlbkdfhoaaDoor.Tok
open Str Frac

/-- The 16 signs, in the order of the program's table. -/
def sigs : List (List UInt8) := [[60, 61], [62, 61], [60, 62], [60], [62], [61], [43], [45], [42], [47], [40], [41], [123], [125], [44], [59]]
def sig (i : Nat) : List UInt8 := sigs.getD i []
def pfx (l : List UInt8) (i : Nat) : Bool := Lib.hasPrefix l (sig i)

theorem u8_iff (c : UInt8) (n : Nat) (h : n < 256) : (c.toNat : Int) = n ↔ c = UInt8.ofNat n := by
  constructor
  · intro e; apply UInt8.toNat_inj.1; simp; omega
  · intro e; rw [e]; simp; omega

theorem sgl_hit (l : List UInt8) (i : Nat) (hi : i < 16) (h : pfx l i = true) (hno : ∀ j, j < i → pfx l j = false) : sgl l = (sig i).length := by
  match l with
  | [] =>
    rcases (show i = 0 ∨ i = 1 ∨ i = 2 ∨ i = 3 ∨ i = 4 ∨ i = 5 ∨ i = 6 ∨ i = 7 ∨ i = 8 ∨ i = 9 ∨ i = 10 ∨ i = 11 ∨ i = 12 ∨ i = 13 ∨ i = 14 ∨ i = 15 by omega) with rfl | rfl | rfl | rfl | rfl | rfl | rfl | rfl | rfl | rfl | rfl | rfl | rfl | rfl | rfl | rfl <;> simp [pfx, sig, sigs, Lib.hasPrefix] at h
  | [c] =>
    rcases (show i = 0 ∨ i = 1 ∨ i = 2 ∨ i = 3 ∨ i = 4 ∨ i = 5 ∨ i = 6 ∨ i = 7 ∨ i = 8 ∨ i = 9 ∨ i = 10 ∨ i = 11 ∨ i = 12 ∨ i = 13 ∨ i = 14 ∨ i = 15 by omega) with rfl | rfl | rfl | rfl | rfl | rfl | rfl | rfl | rfl | rfl | rfl | rfl | rfl | rfl | rfl | rfl <;> simp [pfx, sig, sigs, Lib.hasPrefix] at h <;> subst h <;> rfl
  | c :: d :: m =>
    have h0 := hno 0
    have h1 := hno 1
    have h2 := hno 2
    rcases (show i = 0 ∨ i = 1 ∨ i = 2 ∨ i = 3 ∨ i = 4 ∨ i = 5 ∨ i = 6 ∨ i = 7 ∨ i = 8 ∨ i = 9 ∨ i = 10 ∨ i = 11 ∨ i = 12 ∨ i = 13 ∨ i = 14 ∨ i = 15 by omega) with rfl | rfl | rfl | rfl | rfl | rfl | rfl | rfl | rfl | rfl | rfl | rfl | rfl | rfl | rfl | rfl
    · simp [pfx, sig, sigs, Lib.hasPrefix] at h; obtain ⟨rfl, rfl⟩ := h; rfl
    · simp [pfx, sig, sigs, Lib.hasPrefix] at h; obtain ⟨rfl, rfl⟩ := h; rfl
    · simp [pfx, sig, sigs, Lib.hasPrefix] at h; obtain ⟨rfl, rfl⟩ := h; rfl
    all_goals
      simp [pfx, sig, sigs, Lib.hasPrefix] at h h0 h1 h2
      subst h
      have e : ∀ x, sg2 x d = true → ((x = 60 ∧ (d = 61 ∨ d = 62)) ∨ (x = 62 ∧ d = 61)) := by
        intro x hx
        have k60 := (u8_iff x 60 (by decide)).1
        have k62 := (u8_iff x 62 (by decide)).1
        have m61 := (u8_iff d 61 (by decide)).1
        have m62 := (u8_iff d 62 (by decide)).1
        simp only [sg2, Bool.or_eq_true, Bool.and_eq_true, beq_iff_eq] at hx
        rcases hx with ⟨a, b⟩ | ⟨a, b⟩ | ⟨a, b⟩
        · exact .inl ⟨k60 a, .inl (m61 b)⟩
        · exact .inr ⟨k62 a, m61 b⟩
        · exact .inl ⟨k60 a, .inr (m62 b)⟩
      have n2 : ∀ x, (x = 60 → ¬ d = 61 ∧ ¬ d = 62) → (x = 62 → ¬ d = 61) → sg2 x d = false := by
        intro x a b
        cases hx : sg2 x d
        · rfl
        · rcases e x hx with ⟨p, q | q⟩ | ⟨p, q⟩
          · exact absurd q (a p).1
          · exact absurd q (a p).2
          · exact absurd q (b p)
      simp only [sgl]
      rw [n2 _ (by first | (intro h; exact absurd h (by decide)) | (intro _; exact ⟨fun q => by simp_all, fun q => by simp_all⟩)) (by first | (intro h; exact absurd h (by decide)) | (intro _ q; simp_all))]
      rfl

theorem sgl_none (l : List UInt8) (hno : ∀ j, j < 16 → pfx l j = false) : sgl l = 0 := by
  match l with
  | [] => rfl
  | c :: m =>
    have h1 : sg1 c = false := by
      cases hx : sg1 c
      · rfl
      · have a3 := hno 3 (by decide)
        have a4 := hno 4 (by decide)
        have a5 := hno 5 (by decide)
        have a6 := hno 6 (by decide)
        have a7 := hno 7 (by decide)
        have a8 := hno 8 (by decide)
        have a9 := hno 9 (by decide)
        have a10 := hno 10 (by decide)
        have a11 := hno 11 (by decide)
        have a12 := hno 12 (by decide)
        have a13 := hno 13 (by decide)
        have a14 := hno 14 (by decide)
        have a15 := hno 15 (by decide)
        simp only [pfx, sig, sigs, Lib.hasPrefix, List.getD_cons_zero, List.getD_cons_succ] at a3 a4 a5 a6 a7 a8 a9 a10 a11 a12 a13 a14 a15
        simp only [sg1, Bool.or_eq_true, beq_iff_eq] at hx
        have k := fun n h => (u8_iff c n h).1
        rcases hx with hx | hx | hx | hx | hx | hx | hx | hx | hx | hx | hx | hx | hx
        · rw [k 60 (by decide) hx] at a3; simp [List.isPrefixOf] at a3
        · rw [k 62 (by decide) hx] at a4; simp [List.isPrefixOf] at a4
        · rw [k 61 (by decide) hx] at a5; simp [List.isPrefixOf] at a5
        · rw [k 43 (by decide) hx] at a6; simp [List.isPrefixOf] at a6
        · rw [k 45 (by decide) hx] at a7; simp [List.isPrefixOf] at a7
        · rw [k 42 (by decide) hx] at a8; simp [List.isPrefixOf] at a8
        · rw [k 47 (by decide) hx] at a9; simp [List.isPrefixOf] at a9
        · rw [k 40 (by decide) hx] at a10; simp [List.isPrefixOf] at a10
        · rw [k 41 (by decide) hx] at a11; simp [List.isPrefixOf] at a11
        · rw [k 123 (by decide) hx] at a12; simp [List.isPrefixOf] at a12
        · rw [k 125 (by decide) hx] at a13; simp [List.isPrefixOf] at a13
        · rw [k 44 (by decide) hx] at a14; simp [List.isPrefixOf] at a14
        · rw [k 59 (by decide) hx] at a15; simp [List.isPrefixOf] at a15
    match m with
    | [] => simp only [sgl, h1]; rfl
    | d :: m =>
      have h2 : sg2 c d = false := by
        cases hx : sg2 c d
        · rfl
        · have b0 := hno 0 (by decide)
          have b1 := hno 1 (by decide)
          have b2 := hno 2 (by decide)
          simp only [pfx, sig, sigs, Lib.hasPrefix, List.getD_cons_zero, List.getD_cons_succ] at b0 b1 b2
          simp only [sg2, Bool.or_eq_true, Bool.and_eq_true, beq_iff_eq] at hx
          have k := fun n h => (u8_iff c n h).1
          have k' := fun n h => (u8_iff d n h).1
          rcases hx with ⟨a, b⟩ | ⟨a, b⟩ | ⟨a, b⟩
          · rw [k 60 (by decide) a, k' 61 (by decide) b] at b0; simp [List.isPrefixOf] at b0
          · rw [k 62 (by decide) a, k' 61 (by decide) b] at b1; simp [List.isPrefixOf] at b1
          · rw [k 60 (by decide) a, k' 62 (by decide) b] at b2; simp [List.isPrefixOf] at b2
      simp only [sgl, h1, h2]; rfl

/-- The length of the token at a (0: none), and its kind. -/
def tokN (s : ByteArray) (a : Nat) : Nat :=
  if h : a < s.size then
    if low s[a] = true then (if rn inw (s.data.toList.drop a) ≤ 12 then rn inw (s.data.toList.drop a) else 0)
    else if dgb s[a] = true then (if decB (s.extract a (a + rn inn (s.data.toList.drop a))) = true then rn inn (s.data.toList.drop a) else 0)
    else if (s[a].toNat : Int) = 64 then (if a + 11 ≤ s.size ∧ prsB (s.extract (a + 1) (a + 11)) = true then 11 else 0)
    else sgl (s.data.toList.drop a)
  else 0
def tokK (s : ByteArray) (a : Nat) : Int :=
  if h : a < s.size then
    if low s[a] = true then (if rn inw (s.data.toList.drop a) ≤ 12 then 1 else 0)
    else if dgb s[a] = true then (if decB (s.extract a (a + rn inn (s.data.toList.drop a))) = true then 2 else 0)
    else if (s[a].toNat : Int) = 64 then (if a + 11 ≤ s.size ∧ prsB (s.extract (a + 1) (a + 11)) = true then 3 else 0)
    else (if 0 < sgl (s.data.toList.drop a) then 4 else 0)
  else 0
theorem tok_w1 {s : ByteArray} {a : Nat} (h : a < s.size) (hl : low s[a] = true) (hn : rn inw (s.data.toList.drop a) ≤ 12) : tokN s a = rn inw (s.data.toList.drop a) ∧ tokK s a = 1 := by
  unfold tokN tokK; rw [dif_pos h, dif_pos h, if_pos hl, if_pos hl, if_pos hn, if_pos hn]; exact ⟨rfl, rfl⟩
theorem tok_w0 {s : ByteArray} {a : Nat} (h : a < s.size) (hl : low s[a] = true) (hn : ¬ rn inw (s.data.toList.drop a) ≤ 12) : tokN s a = 0 ∧ tokK s a = 0 := by
  unfold tokN tokK; rw [dif_pos h, dif_pos h, if_pos hl, if_pos hl, if_neg hn, if_neg hn]; exact ⟨rfl, rfl⟩
theorem tok_n1 {s : ByteArray} {a : Nat} (h : a < s.size) (hl : low s[a] = false) (hd : dgb s[a] = true) (hn : decB (s.extract a (a + rn inn (s.data.toList.drop a))) = true) : tokN s a = rn inn (s.data.toList.drop a) ∧ tokK s a = 2 := by
  unfold tokN tokK; rw [dif_pos h, dif_pos h, if_neg (show ¬ low s[a] = true by simp [hl]), if_neg (show ¬ low s[a] = true by simp [hl]), if_pos hd, if_pos hd, if_pos hn, if_pos hn]; exact ⟨rfl, rfl⟩
theorem tok_n0 {s : ByteArray} {a : Nat} (h : a < s.size) (hl : low s[a] = false) (hd : dgb s[a] = true) (hn : decB (s.extract a (a + rn inn (s.data.toList.drop a))) = false) : tokN s a = 0 ∧ tokK s a = 0 := by
  unfold tokN tokK; rw [dif_pos h, dif_pos h, if_neg (show ¬ low s[a] = true by simp [hl]), if_neg (show ¬ low s[a] = true by simp [hl]), if_pos hd, if_pos hd, if_neg (show ¬ decB (s.extract a (a + rn inn (s.data.toList.drop a))) = true by simp [hn]), if_neg (show ¬ decB (s.extract a (a + rn inn (s.data.toList.drop a))) = true by simp [hn])]; exact ⟨rfl, rfl⟩
theorem tok_d1 {s : ByteArray} {a : Nat} (h : a < s.size) (hl : low s[a] = false) (hd : dgb s[a] = false) (h64 : (s[a].toNat : Int) = 64) (h11 : a + 11 ≤ s.size) (hp : prsB (s.extract (a + 1) (a + 11)) = true) : tokN s a = 11 ∧ tokK s a = 3 := by
  unfold tokN tokK; rw [dif_pos h, dif_pos h, if_neg (show ¬ low s[a] = true by simp [hl]), if_neg (show ¬ low s[a] = true by simp [hl]), if_neg (show ¬ dgb s[a] = true by simp [hd]), if_neg (show ¬ dgb s[a] = true by simp [hd]), if_pos h64, if_pos h64, if_pos ⟨h11, hp⟩, if_pos ⟨h11, hp⟩]; exact ⟨rfl, rfl⟩
theorem tok_d0 {s : ByteArray} {a : Nat} (h : a < s.size) (hl : low s[a] = false) (hd : dgb s[a] = false) (h64 : (s[a].toNat : Int) = 64) (hn : ¬ (a + 11 ≤ s.size ∧ prsB (s.extract (a + 1) (a + 11)) = true)) : tokN s a = 0 ∧ tokK s a = 0 := by
  unfold tokN tokK; rw [dif_pos h, dif_pos h, if_neg (show ¬ low s[a] = true by simp [hl]), if_neg (show ¬ low s[a] = true by simp [hl]), if_neg (show ¬ dgb s[a] = true by simp [hd]), if_neg (show ¬ dgb s[a] = true by simp [hd]), if_pos h64, if_pos h64, if_neg hn, if_neg hn]; exact ⟨rfl, rfl⟩
theorem tok_s {s : ByteArray} {a : Nat} (h : a < s.size) (hl : low s[a] = false) (hd : dgb s[a] = false) (h64 : ¬ (s[a].toNat : Int) = 64) : tokN s a = sgl (s.data.toList.drop a) ∧ tokK s a = if 0 < sgl (s.data.toList.drop a) then 4 else 0 := by
  unfold tokN tokK; rw [dif_pos h, dif_pos h, if_neg (show ¬ low s[a] = true by simp [hl]), if_neg (show ¬ low s[a] = true by simp [hl]), if_neg (show ¬ dgb s[a] = true by simp [hd]), if_neg (show ¬ dgb s[a] = true by simp [hd]), if_neg h64, if_neg h64]; exact ⟨rfl, rfl⟩
theorem tok_le {s : ByteArray} {a : Nat} (h : a < s.size) : a + tokN s a ≤ s.size := by
  have h1 := rn_le inw (s.data.toList.drop a)
  have h2 := rn_le inn (s.data.toList.drop a)
  have h3 := (sgl_le (s.data.toList.drop a)).1
  rw [drop_len] at h1 h2 h3
  unfold tokN
  rw [dif_pos h]
  repeat' split
  all_goals omega
/-! What Next returns -/
def nxOk (s : ByteArray) (a : Int) : Bool := decide (0 ≤ a) && decide (a ≤ s.size)
def nxAt (s : ByteArray) (a : Int) : Nat := skp s a.toNat
/-- 0: a bad offset; 1: the end; 2: no token; 3: a token. -/
def nxC (s : ByteArray) (a : Int) : Nat := if nxOk s a = true then (if nxAt s a = s.size then 1 else if tokK s (nxAt s a) = 0 then 2 else 3) else 0
def nxK (s : ByteArray) (a : Int) : Int := if nxC s a = 3 then tokK s (nxAt s a) else 0
def nxT (s : ByteArray) (a : Int) : ByteArray := if nxC s a = 3 then s.extract (nxAt s a) (nxAt s a + tokN s (nxAt s a)) else ⟨#[]⟩
def nxA (s : ByteArray) (a : Int) : Int := if nxC s a = 3 ∨ nxC s a = 1 then nxAt s a else 0
def nxN (s : ByteArray) (a : Int) : Int := if nxC s a = 0 then 0 else if nxC s a = 3 then (nxAt s a + tokN s (nxAt s a) : Nat) else nxAt s a
def nxE (s : ByteArray) (a : Int) : Int := if nxC s a = 0 then 1 else if nxC s a = 2 then 4 else 0
theorem nx_0 {s : ByteArray} {a : Int} (h : a < 0 ∨ (s.size : Int) < a) : nxK s a = 0 ∧ nxT s a = ⟨#[]⟩ ∧ nxA s a = 0 ∧ nxN s a = 0 ∧ nxE s a = 1 := by
  have hc : nxC s a = 0 := by
    unfold nxC nxOk
    rw [if_neg]
    simp; omega
  unfold nxK nxT nxA nxN nxE; rw [hc]; exact ⟨rfl, rfl, rfl, rfl, rfl⟩
theorem nx_1 {s : ByteArray} {a : Nat} (h : a ≤ s.size) (he : skp s a = s.size) : nxK s a = 0 ∧ nxT s a = ⟨#[]⟩ ∧ nxA s a = s.size ∧ nxN s a = s.size ∧ nxE s a = 0 := by
  have ha : nxAt s a = s.size := by unfold nxAt; simpa using he
  have hc : nxC s a = 1 := by
    unfold nxC nxOk
    rw [if_pos (by simp; omega), if_pos ha]
  unfold nxK nxT nxA nxN nxE; rw [hc, ha]; exact ⟨rfl, rfl, rfl, rfl, rfl⟩
theorem nx_2 {s : ByteArray} {a b : Nat} (h : a ≤ s.size) (hb : skp s a = b) (he : ¬ b = s.size) (hk : tokK s b = 0) : nxK s a = 0 ∧ nxT s a = ⟨#[]⟩ ∧ nxA s a = 0 ∧ nxN s a = b ∧ nxE s a = 4 := by
  have ha : nxAt s a = b := by unfold nxAt; simpa using hb
  have hc : nxC s a = 2 := by
    unfold nxC nxOk
    rw [if_pos (by simp; omega), ha, if_neg he, if_pos hk]
  unfold nxK nxT nxA nxN nxE; rw [hc, ha]; exact ⟨rfl, rfl, rfl, rfl, rfl⟩
theorem nx_3 {s : ByteArray} {a b : Nat} (h : a ≤ s.size) (hb : skp s a = b) (he : ¬ b = s.size) (hk : ¬ tokK s b = 0) : nxK s a = tokK s b ∧ nxT s a = s.extract b (b + tokN s b) ∧ nxA s a = b ∧ nxN s a = (b + tokN s b : Nat) ∧ nxE s a = 0 := by
  have ha : nxAt s a = b := by unfold nxAt; simpa using hb
  have hc : nxC s a = 3 := by
    unfold nxC nxOk
    rw [if_pos (by simp; omega), ha, if_neg he, if_neg hk]
  unfold nxK nxT nxA nxN nxE; rw [hc, ha]; exact ⟨rfl, rfl, rfl, rfl, rfl⟩

end Go.Proofs.YtfdajdlbkdfhoaaDoor.Tok

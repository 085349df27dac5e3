/- Plain facts on the tokens of a text: they are parts of it, in order, and their texts with blanks behind them have the same tokens. -/
import Derived.Test.YtfdajdlbkdfhoaaTokJ
namespace Go.Proofs.Ytfdajdlbkdfhoaa
open Go.RowKit Cal Str Tok Frac

theorem skl_idem (l : List UInt8) : ∀ c, skl false (l.drop (skl c l)) = 0 := by
  induction l with
  | nil => intro c; rfl
  | cons x l ih =>
    intro c
    by_cases h10 : (x.toNat : Int) = 10
    · rw [skl_10 c l h10]; exact ih false
    · by_cases h35 : (x.toNat : Int) = 35
      · rw [skl_35 c l h35]; exact ih true
      · cases c
        · by_cases hb : (x.toNat : Int) = 9 ∨ (x.toNat : Int) = 13 ∨ (x.toNat : Int) = 32
          · rw [skl_bl false l hb]; exact ih false
          · have := skl_no l h10 h35 hb
            rw [this]; exact this
        · rw [skl_in l h10]; exact ih true
theorem skl_head {c : UInt8} {m : List UInt8} (h : skl false (c :: m) = 0) (m' : List UInt8) : skl false (c :: m') = 0 := by
  by_cases h10 : (c.toNat : Int) = 10
  · rw [skl_10 _ _ h10] at h; omega
  · by_cases h35 : (c.toNat : Int) = 35
    · rw [skl_35 _ _ h35] at h; omega
    · by_cases hb : (c.toNat : Int) = 9 ∨ (c.toNat : Int) = 13 ∨ (c.toNat : Int) = 32
      · rw [skl_bl _ _ hb] at h; omega
      · exact skl_no _ h10 h35 hb

/-- l are tokens of s from a on. -/
def Good (s : ByteArray) : Nat → List Tk → Prop
  | _, [] => True
  | a, t :: l => ∃ b n : Nat, a ≤ b ∧ b < s.size ∧ 1 ≤ n ∧ b + n ≤ s.size ∧ t.K = tokK s b ∧ ¬ tokK s b = 0 ∧ tokN s b = n ∧ t.T = s.extract b (b + n) ∧ t.A = b ∧ skl false (s.data.toList.drop b) = 0 ∧ Good s (b + n) l

theorem good_of (s : ByteArray) : ∀ (f a : Nat) (acc : List Tk), a ≤ s.size → s.size + 1 ≤ f + a → (allF s f a acc).2.2 = 0 → ∃ l, allF s f a acc = (acc ++ l, 0, 0) ∧ Good s a l := by
  intro f
  induction f with
  | zero => intro a acc ha hf; omega
  | succ f ih =>
    intro a acc ha hf he
    simp only [allF] at he ⊢
    by_cases h1 : skp s a = s.size
    · rw [if_pos h1]; exact ⟨[], by simp, trivial⟩
    · rw [if_neg h1] at he ⊢
      by_cases h2 : tokK s (skp s a) = 0
      · rw [if_pos h2] at he; exact absurd (show (4 : Int) = 0 from he) (by decide)
      · rw [if_neg h2] at he ⊢
        have hs := skp_le ha
        have hb : skp s a < s.size := by omega
        have hn := tokN_pos h2
        have hl := tok_le hb
        obtain ⟨l, e, g⟩ := ih (skp s a + tokN s (skp s a)) _ (by omega) (by omega) he
        refine ⟨⟨tokK s (skp s a), s.extract (skp s a) (skp s a + tokN s (skp s a)), (skp s a : Int)⟩ :: l, by rw [e]; simp, skp s a, tokN s (skp s a), hs.2, hb, hn, hl, rfl, h2, rfl, rfl, rfl, ?_, g⟩
        have := skl_idem (s.data.toList.drop a) false
        rw [List.drop_drop] at this
        exact this

theorem retok {s u : ByteArray} {b p n : Nat} {rest : List UInt8} (hb : b < s.size) (hk : ¬ tokK s b = 0) (hn : tokN s b = n) (hbn : b + n ≤ s.size) (hn1 : 1 ≤ n) (hsk : skl false (s.data.toList.drop b) = 0)
    (hu : u.data.toList.drop p = (s.extract b (b + n)).data.toList ++ 32 :: rest) :
    p < u.size ∧ tokK u p = tokK s b ∧ tokN u p = n ∧ p + n ≤ u.size ∧ u.extract p (p + n) = s.extract b (b + n) ∧ skl false (u.data.toList.drop p) = 0 := by
  obtain ⟨T, hT⟩ : ∃ T, (s.extract b (b + n)).data.toList = T := ⟨_, rfl⟩
  have hTd : T = (s.data.toList.drop b).take n := by rw [← hT, ext_data, show b + n - b = n by omega]
  have hTl : T.length = n := by rw [hTd, List.length_take, drop_len]; omega
  rw [hT] at hu
  have hlen := congrArg List.length hu
  rw [drop_len, List.length_append, List.length_cons, hTl] at hlen
  have hp : p < u.size := by omega
  have hd := drop_cons s b hb
  have hT1 : T = s[b] :: (s.data.toList.drop (b + 1)).take (n - 1) := by
    rw [hTd, hd, show n = (n - 1) + 1 by omega, List.take_succ_cons]; rfl
  have hpc : u[p] = s[b] := by
    have := drop_cons u p hp
    rw [hu, hT1, List.cons_append] at this
    injection this with h1 _; exact h1.symm
  have hex : u.extract p (p + n) = s.extract b (b + n) := by
    apply ba_ext
    rw [hT, ext_data, show p + n - p = n by omega, hu, ← hTl, List.take_left]
  have hs0 : skl false (u.data.toList.drop p) = 0 := by
    rw [hu, hT1, List.cons_append]
    rw [hd] at hsk
    exact skl_head hsk _
  refine ⟨hp, ?_⟩
  have key : tokK u p = tokK s b ∧ tokN u p = n := by
    cases hl : low s[b]
    · cases hg : dgb s[b]
      · by_cases h64 : (s[b].toNat : Int) = 64
        · by_cases hc : b + 11 ≤ s.size ∧ prsB (s.extract (b + 1) (b + 11)) = true
          · have T1 := tok_d1 hb hl hg h64 hc.1 hc.2
            have n11 : n = 11 := by omega
            subst n11
            have hsame : u.extract (p + 1) (p + 11) = s.extract (b + 1) (b + 11) := by
              apply ba_ext
              rw [ext_data, ext_data, show p + 11 - (p + 1) = 10 by omega, show b + 11 - (b + 1) = 10 by omega]
              have e1 : u.data.toList.drop (p + 1) = (T ++ 32 :: rest).drop 1 := by rw [← hu, List.drop_drop]
              have e2 : s.data.toList.drop (b + 1) = (s.data.toList.drop b).drop 1 := by rw [List.drop_drop]
              rw [e1, e2, hTd, List.drop_append_of_le_length (by rw [List.length_take, drop_len]; omega), List.drop_take]
              rw [List.take_append_of_le_length (by rw [List.length_take, List.length_drop, drop_len]; omega)]
              rw [List.take_take]; rfl
            have T2 := tok_d1 hp (by rw [hpc]; exact hl) (by rw [hpc]; exact hg) (by rw [hpc]; exact h64) (by omega) (by rw [hsame]; exact hc.2)
            rw [T1.2, T2.2, T2.1]; exact ⟨rfl, rfl⟩
          · exact absurd (tok_d0 hb hl hg h64 hc).2 hk
        · have T1 := tok_s hb hl hg h64
          have T2 := tok_s hp (by rw [hpc]; exact hl) (by rw [hpc]; exact hg) (by rw [hpc]; exact h64)
          have hS : sgl (s.data.toList.drop b) = n := by rw [← hn, T1.1]
          have hU : sgl (u.data.toList.drop p) = n := by
            rw [hu]
            have hle := sgl_le (s.data.toList.drop b)
            rcases (show n = 1 ∨ n = 2 by omega) with rfl | rfl
            · have e1 : T = [s[b]] := by rw [hT1]; rfl
              rw [e1]
              show sgl (s[b] :: 32 :: rest) = 1
              have hg1 : sg1 s[b] = true := by
                rw [hd] at hS
                cases hm : s.data.toList.drop (b + 1) with
                | nil =>
                  rw [hm] at hS; simp only [sgl] at hS
                  by_cases hq : sg1 s[b] = true
                  · exact hq
                  · rw [if_neg hq] at hS; omega
                | cons d m =>
                  rw [hm] at hS; simp only [sgl] at hS
                  split at hS
                  · omega
                  · split at hS
                    · assumption
                    · omega
              have hg2 : sg2 s[b] 32 = false := by
                unfold sg2; simp
              simp only [sgl, hg1, hg2]; rfl
            · have hb1 : b + 1 < s.size := by omega
              have hd1 := drop_cons s (b + 1) hb1
              have e1 : T = [s[b], s[b + 1]] := by rw [hT1, hd1]; rfl
              rw [e1]
              show sgl (s[b] :: s[b + 1] :: 32 :: rest) = 2
              have hg2 : sg2 s[b] s[b + 1] = true := by
                rw [hd, hd1] at hS
                simp only [sgl] at hS
                split at hS
                · assumption
                · split at hS <;> omega
              simp only [sgl, hg2]; rfl
          rw [T1.2, T2.2, T2.1, hS, hU]; exact ⟨rfl, rfl⟩
      · cases hB : decB (s.extract b (b + rn inn (s.data.toList.drop b)))
        · exact absurd (tok_n0 hb hl hg hB).2 hk
        · have T1 := tok_n1 hb hl hg hB
          have hr : rn inn (s.data.toList.drop b) = n := by rw [← hn, T1.1]
          have hall : T.all inn = true := by rw [hTd, ← hr]; exact rn_take inn _
          have hru : rn inn (u.data.toList.drop p) = n := by
            rw [hu, rn_app hall, hTl, rn_no _ (by decide)]; rfl
          have T2 := tok_n1 hp (by rw [hpc]; exact hl) (by rw [hpc]; exact hg) (by rw [hru, hex, ← hr]; exact hB)
          rw [T1.2, T2.2, T2.1, hru]; exact ⟨rfl, rfl⟩
    · by_cases h12 : rn inw (s.data.toList.drop b) ≤ 12
      · have T1 := tok_w1 hb hl h12
        have hr : rn inw (s.data.toList.drop b) = n := by rw [← hn, T1.1]
        have hall : T.all inw = true := by rw [hTd, ← hr]; exact rn_take inw _
        have hru : rn inw (u.data.toList.drop p) = n := by
          rw [hu, rn_app hall, hTl, rn_no _ (by decide)]; rfl
        have T2 := tok_w1 hp (by rw [hpc]; exact hl) (by rw [hru, ← hr]; exact h12)
        rw [T1.2, T2.2, T2.1, hru]; exact ⟨rfl, rfl⟩
      · exact absurd (tok_w0 hb hl h12).2 hk
  exact ⟨key.1, key.2, by omega, hex, hs0⟩

/-- The texts of tokens, a blank behind each. -/
def joinL (l : List Tk) : List UInt8 := l.flatMap fun t => t.T.data.toList ++ [32]
def Same : List Tk → List Tk → Prop
  | [], [] => True
  | t :: l, t' :: l' => t.K = t'.K ∧ t.T = t'.T ∧ Same l l'
  | _, _ => False
theorem same_len : ∀ {l l' : List Tk}, Same l l' → l'.length = l.length
  | [], [], _ => rfl
  | _ :: _, _ :: _, h => by simp [same_len h.2.2]
  | [], _ :: _, h => h.elim
  | _ :: _, [], h => h.elim
theorem same_at : ∀ {l l' : List Tk}, Same l l' → ∀ {k : Nat} {t t' : Tk}, l[k]? = some t → l'[k]? = some t' → t.K = t'.K ∧ t.T = t'.T
  | [], [], _, k, t, t', h, _ => by simp at h
  | x :: l, y :: l', h, 0, t, t', h1, h2 => by simp at h1 h2; subst h1 h2; exact ⟨h.1, h.2.1⟩
  | x :: l, y :: l', h, k + 1, t, t', h1, h2 => same_at h.2.2 (by simpa using h1) (by simpa using h2)
  | [], _ :: _, h, _, _, _, _, _ => h.elim
  | _ :: _, [], h, _, _, _, _, _ => h.elim

theorem relex (s u : ByteArray) : ∀ (l : List Tk) (a : Nat), Good s a l → ∀ (f q : Nat) (acc : List Tk), u.size + 1 ≤ f + q → q ≤ u.size → (u.data.toList.drop q = joinL l ∨ u.data.toList.drop q = 32 :: joinL l) →
    ∃ l', allF u f q acc = (acc ++ l', 0, 0) ∧ Same l l' := by
  intro l
  induction l with
  | nil =>
    intro a _ f q acc hf hq hu
    obtain ⟨f, rfl⟩ : ∃ g, f = g + 1 := ⟨f - 1, by omega⟩
    have hlen := drop_len u q
    have he : skp u q = u.size := by
      unfold skp
      rcases hu with h | h
      · rw [h] at hlen ⊢; simp [joinL] at hlen; show q + skl false [] = _; rw [skl_nil]; omega
      · rw [h] at hlen ⊢; simp [joinL] at hlen; show q + skl false [32] = _; rw [skl_bl _ _ (by decide), skl_nil]; omega
    exact ⟨[], by simp only [allF]; rw [if_pos he]; simp, trivial⟩
  | cons t l ih =>
    intro a hg f q acc hf hq hu
    obtain ⟨b, n, hab, hb, hn1, hbn, hK, hk0, hn, hT, hA, hsk, hgl⟩ := hg
    obtain ⟨f, rfl⟩ : ∃ g, f = g + 1 := ⟨f - 1, by omega⟩
    have hj : joinL (t :: l) = (s.extract b (b + n)).data.toList ++ 32 :: joinL l := by
      unfold joinL; rw [List.flatMap_cons, hT]; simp
    rw [hj] at hu
    obtain ⟨p, hpu, hps, hqp⟩ : ∃ p, u.data.toList.drop p = (s.extract b (b + n)).data.toList ++ 32 :: joinL l ∧ skp u q = p ∧ q ≤ p := by
      rcases hu with h | h
      · refine ⟨q, h, ?_, Nat.le_refl _⟩
        have := (retok hb hk0 hn hbn hn1 hsk h).2.2.2.2.2
        unfold skp; rw [this]; rfl
      · have h2 : u.data.toList.drop (q + 1) = (s.extract b (b + n)).data.toList ++ 32 :: joinL l := by
          rw [← List.drop_drop, h]; rfl
        refine ⟨q + 1, h2, ?_, by omega⟩
        have := (retok hb hk0 hn hbn hn1 hsk h2).2.2.2.2.2
        unfold skp; rw [h, skl_bl _ _ (by decide), ← h2, this]
    obtain ⟨r1, r2, r3, r4, r5, r6⟩ := retok hb hk0 hn hbn hn1 hsk hpu
    have hnext : u.data.toList.drop (p + n) = 32 :: joinL l := by
      rw [← List.drop_drop, hpu]
      have : (s.extract b (b + n)).data.toList.length = n := by rw [ext_data, List.length_take, drop_len]; omega
      exact List.drop_left' this
    obtain ⟨l', e, hs⟩ := ih (b + n) hgl f (p + n) (acc ++ [⟨tokK u p, u.extract p (p + n), (p : Int)⟩]) (by omega) r4 (.inr hnext)
    refine ⟨⟨tokK u p, u.extract p (p + n), (p : Int)⟩ :: l', ?_, ?_⟩
    · simp only [allF]
      rw [hps, if_neg (by omega), if_neg (by rw [r2]; exact hk0), r3, e]; simp
    · exact ⟨by rw [hK, ← r2], by rw [hT, ← r5], hs⟩

end Go.Proofs.Ytfdajdlbkdfhoaa

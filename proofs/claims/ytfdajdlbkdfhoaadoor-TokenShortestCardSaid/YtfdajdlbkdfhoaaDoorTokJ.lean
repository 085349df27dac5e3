/- Contracts of All of the program and of the reference. No conditions but those printed. -/
import Derived.Test.YtfdajdlbkdfhoaaDoorTokI
namespace Go.Proofs.YtfdajdlbkdfhoaaDoor
open Go.RowKit Cal Str Tok Frac
attribute [local go_sem] calmUpon
set_option linter.unusedVariables false
set_option linter.unusedSimpArgs false

/-- A token. -/
structure Tk where
  K : Int
  T : ByteArray
  A : Int
def encT (t : Tk) : List Value := [.int .i64 t.K, .string t.T, .int .i64 t.A]
def encL (l : List Tk) : List Value := l.flatMap encT
theorem encL_snoc (l : List Tk) (t : Tk) : encL (l ++ [t]) = encL l ++ encT t := by unfold encL; simp
/-- The tokens from a on: the list, the place and the error. -/
def allF (s : ByteArray) : Nat → Nat → List Tk → List Tk × Int × Int
  | 0, _, acc => (acc, 0, 0)
  | f + 1, a, acc =>
    if skp s a = s.size then (acc, 0, 0)
    else if tokK s (skp s a) = 0 then ([], (skp s a : Int), 4)
    else allF s f (skp s a + tokN s (skp s a)) (acc ++ [⟨tokK s (skp s a), s.extract (skp s a) (skp s a + tokN s (skp s a)), (skp s a : Int)⟩])
def allR (s : ByteArray) : List Tk × Int × Int := if s.size ≤ 8000 then allF s (s.size + 1) 0 [] else ([], 0, 7)
theorem tokN_pos {s : ByteArray} {b : Nat} (h : ¬ tokK s b = 0) : 1 ≤ tokN s b := by
  by_cases hb : b < s.size
  · have hdr := drop_cons s b hb
    cases hl : low s[b]
    · cases hd : dgb s[b]
      · by_cases h64 : (s[b].toNat : Int) = 64
        · by_cases hp : b + 11 ≤ s.size ∧ prsB (s.extract (b + 1) (b + 11)) = true
          · rw [(tok_d1 hb hl hd h64 hp.1 hp.2).1]; decide
          · exact absurd (tok_d0 hb hl hd h64 hp).2 h
        · have T := tok_s hb hl hd h64
          rw [T.2] at h
          rw [T.1]
          by_cases h0 : 0 < sgl (s.data.toList.drop b)
          · exact h0
          · rw [if_neg h0] at h; exact absurd rfl h
      · cases hp : decB (s.extract b (b + rn inn (s.data.toList.drop b)))
        · exact absurd (tok_n0 hb hl hd hp).2 h
        · rw [(tok_n1 hb hl hd hp).1, hdr, rn_yes]
          · omega
          · unfold inn inw; rw [hd]; simp
    · by_cases hp : rn inw (s.data.toList.drop b) ≤ 12
      · rw [(tok_w1 hb hl hp).1, hdr, rn_yes _ (low_inw hl)]; omega
      · exact absurd (tok_w0 hb hl hp).2 h
  · unfold tokK at h; rw [dif_neg hb] at h; exact absurd rfl h

def AllRes (s : ByteArray) (w : World) (e : Ending) (w' : World) : Prop := ∃ v, e = .returned (.tuple #[v, .int .i64 (allR s).2.1, .int .i64 (allR s).2.2]) ∧ Rel w w' ∧ w'.ownsRow w.heap.size 54 3 v (allR s).1.length (encL (allR s).1)
theorem all_ret {s : ByteArray} {w w' : World} {l : List Tk} {x c : Int} {v : Value} (h : allR s = (l, x, c)) (r : Rel w w') (ho : w'.ownsRow w.heap.size 54 3 v l.length (encL l)) : AllRes s w (.returned (.tuple #[v, .int .i64 x, .int .i64 c])) w' := by
  unfold AllRes; rw [h]; exact ⟨v, rfl, r, ho⟩
theorem rel_grown {w w' : World} (r : Rel w w') (row : Option Nat) : w.grownBy w' row := ⟨Below.os r, Below.tape r, Below.output r, Below.size r, fun k hk _ => Below.block r k hk⟩
theorem own_rel {w w' : World} {base : Nat} {e : TypeId} {size : Nat} {v : Value} {n : Nat} {xs : List Value} (h : w.ownsRow base e size v n xs) (r : Rel w w') : w'.ownsRow base e size v n xs :=
  h.kept (rel_grown r none) (by cases hv : v.ownBlock <;> simp)
theorem new3_cells (w : World) (x y z : Value) (T : TypeId) : ∀ (j : Nat) u, [x, y, z][j]? = some u → (w.alloc (.cells #[x, y, z] T)).cell? ((⟨w.heap.size, 0, none⟩ : Addr).add j) = some u := by
  intro j u h
  match j with
  | 0 => simp at h; subst h; simp [Addr.add]
  | 1 => simp at h; subst h; simp [Addr.add]
  | 2 => simp at h; subst h; simp [Addr.add]
  | j + 3 => simp at h
theorem own_base {w wr : World} (h : Rel w wr) {v : Value} {n : Nat} {xs : List Value} {e : TypeId} {size : Nat} (ho : wr.ownsRow w.heap.size e size v n xs) : ∀ k, v.ownBlock = some k → w.heap.size ≤ k := fun k hk => (ho.lt k hk).1

set_option maxRecDepth 100000 in
set_option maxHeartbeats 4000000 in
theorem All_any (s : ByteArray) (w : World) (hs : s.size ≤ 140737488355328) :
    Calls Tryd.prog 22 #[.string s] w (AllRes s w) := by
  by_cases h8 : s.size ≤ 8000
  · obtain ⟨RES, hRES⟩ : ∃ RES, allR s = RES := ⟨_, rfl⟩
    have h0 : allF s (s.size + 1) 0 [] = RES := by rw [← hRES]; unfold allR; rw [if_pos h8]
    have H0 := Lib.hid h0
    have HR := Lib.hid hRES
    clear h0 hRES
    have hi26 : (Tryd.prog.info? 54).map (fun i => (i.zero, i.size, i.bytes)) = some (some (.agg #[.int .i64 0, .string ByteArray.empty, .int .i64 0]), 3, 32) := by kernel_rfl
    obtain ⟨i0, hi, hx⟩ := Option.map_eq_some_iff.1 hi26
    simp only [Prod.mk.injEq] at hx
    obtain ⟨hz0, hz1, hz2⟩ := hx
    have HI := Lib.hid hi
    have HZ0 := Lib.hid hz0
    have HZ1 := Lib.hid hz1
    have HZ2 := Lib.hid hz2
    clear hi26 hi hz0 hz1 hz2
    go_enter Tryd.func22, Tryd.ntmps22
    go_wp2
    go_loopg [2, 3] (s.size + 1) (fun g v i wx => ∃ (a : Nat) (acc : List Tk) (vv : Value), vv = v ∧ i = .int .i64 a ∧ a ≤ s.size ∧ s.size + 1 ≤ g + a ∧ acc.length ≤ a ∧ Hid (allF s g a acc = RES) ∧ Hid (wx.ownsRow w.heap.size 54 3 vv acc.length (encL acc)) ∧ Hid (Rel w wx))
    case atStart => exact ⟨0, [], _, rfl, rfl, by omega, by omega, by simp, H0, World.ownsRow_nil _ _ _ _, Rel.refl _⟩
    case round =>
      obtain ⟨a, acc, vv, rfl, rfl, ha, hga, hla, hF, hO, hR⟩ := hrel
      cases gk with
      | zero => omega
      | succ g =>
        have hF1 := hF.out
        simp only [allF] at hF1
        obtain ⟨b, hb⟩ : ∃ b, skp s a = b := ⟨_, rfl⟩
        rw [hb] at hF1
        have hbs : b ≤ s.size ∧ a ≤ b := by have := skp_le ha; omega
        have NX := fun w => Next_any s a w hs (by omega) (by omega)
        by_cases he : b = s.size
        · rw [if_pos he] at hF1
          obtain ⟨n1, n2, n3, n4, n5⟩ := nx_1 ha (hb.trans he)
          have N : Hid (∀ w, Calls Tryd.prog 33 #[.string s, .int .i64 (a : Int)] w fun e w' => e = .returned (.tuple #[.agg #[.int .i64 0, .string ⟨#[]⟩, .int .i64 s.size], .int .i64 s.size, .int .i64 0]) ∧ Rel w w') := fun w => by
            have := NX w; unfold NxRes at this; rwa [n1, n2, n3, n4, n5] at this
          have RR : Hid (allR s = (acc, 0, 0)) := HR.out.trans hF1.symm
          clear NX n1 n2 n3 n4 n5 hF1 he hb hbs
          go_wp2_with fail
          with_reducible refine (N.out _).mono ?_
          rintro e w1 ⟨rfl, h1⟩
          have kz1 := h1.size
          (try simp only [World.size_alloc, World.size_setCell, World.size_drew] at kz1)
          have H1 := Lib.hid h1
          clear h1
          go_upto_region 7 with (fail)
          ((try simp only []); (repeat (first | go_values | go_skip | go_guarded | go_step | go_upon | go_in)))
          go_ret3
          exact all_ret RR.out ((hR.out.trans H1.out).alloc _) (own_rel hO.out (H1.out.alloc _))
        · rw [if_neg he] at hF1
          have hbl : b < s.size := by omega
          by_cases hk : tokK s b = 0
          · rw [if_pos hk] at hF1
            obtain ⟨n1, n2, n3, n4, n5⟩ := nx_2 ha hb he hk
            have N : Hid (∀ w, Calls Tryd.prog 33 #[.string s, .int .i64 (a : Int)] w fun e w' => e = .returned (.tuple #[.agg #[.int .i64 0, .string ⟨#[]⟩, .int .i64 0], .int .i64 b, .int .i64 4]) ∧ Rel w w') := fun w => by
              have := NX w; unfold NxRes at this; rwa [n1, n2, n3, n4, n5] at this
            have RR : Hid (allR s = ([], (b : Int), 4)) := HR.out.trans hF1.symm
            clear NX n1 n2 n3 n4 n5 hF1 he hb hbs hk
            go_wp2_with fail
            with_reducible refine (N.out _).mono ?_
            rintro e w1 ⟨rfl, h1⟩
            have kz1 := h1.size
            (try simp only [World.size_alloc, World.size_setCell, World.size_drew] at kz1)
            have H1 := Lib.hid h1
            clear h1
            go_upto_region 5 with (fail)
            ((try simp only []); (repeat (first | go_values | go_skip | go_guarded | go_step | go_upon | go_in)))
            go_ret3
            exact all_ret RR.out ((hR.out.trans H1.out).alloc _) (World.ownsRow_nil _ _ _ _)
          · rw [if_neg hk] at hF1
            obtain ⟨n1, n2, n3, n4, n5⟩ := nx_3 ha hb he hk
            have hn1 := tokN_pos hk
            have hn2 := tok_le hbl
            obtain ⟨n, hn⟩ : ∃ n, tokN s b = n := ⟨_, rfl⟩
            obtain ⟨K, hK⟩ : ∃ K, tokK s b = K := ⟨_, rfl⟩
            obtain ⟨T, hT⟩ : ∃ T, s.extract b (b + n) = T := ⟨_, rfl⟩
            rw [hn] at n2 n4 hF1 hn1 hn2
            rw [hK] at n1 hF1 hk
            rw [hT] at n2 hF1
            have N : Hid (∀ w, Calls Tryd.prog 33 #[.string s, .int .i64 (a : Int)] w fun e w' => e = .returned (.tuple #[.agg #[.int .i64 K, .string T, .int .i64 b], .int .i64 (b + n : Nat), .int .i64 0]) ∧ Rel w w') := fun w => by
              have := NX w; unfold NxRes at this; rwa [n1, n2, n3, n4, n5] at this
            have HF := Lib.hid hF1
            have kz : (K == 0) = false := by simpa using hk
            clear NX n1 n2 n3 n4 n5 hF1 he hb hk hn hK hT
            go_wp2_with fail
            with_reducible refine (N.out _).mono ?_
            rintro e w1 ⟨rfl, h1⟩
            have kz1 := h1.size
            (try simp only [World.size_alloc, World.size_setCell, World.size_drew] at kz1)
            have H1 := Lib.hid h1
            clear h1
            have O1 := Lib.hid (own_rel (own_rel hO.out (H1.out.alloc (.cells #[.int .i64 K, .string T, .int .i64 b] 54))) ((Rel.refl _).alloc (.cells #[.int .i64 K, .string T, .int .i64 b] 54)))
            go_upto_region 8 with (fail)
            go_wp2_with (at_builtin; refine wpList_append_own _ rfl _ _ 50 rfl w.heap.size 54 i0 (.agg #[.int .i64 0, .string ByteArray.empty, .int .i64 0]) 3 32 Tryd.underlying50 HI.out HZ0.out HZ1.out HZ2.out rfl (by decide) vv acc.length (encL acc) rfl O1.out ⟨w1.heap.size + 1, 0, none⟩ 1 1 [.int .i64 K, .string T, .int .i64 b] rfl rfl ?c1 ?c2 ?c3 ?c4 ?c5 ?_)
            case c1 =>
              intro j u h
              have := new3_cells (w1.alloc (.cells #[.int .i64 K, .string T, .int .i64 b] 54)) (.int .i64 K) (.string T) (.int .i64 b) 54 j u h
              simpa using this
            case c2 => intro u hu; simp at hu; rcases hu with rfl | rfl | rfl <;> rfl
            case c3 => unfold maxLen; omega
            case c4 => omega
            case c5 => have := Below.size hR.out; have := Below.size H1.out; simp; omega
            intro v' w2 hown' hgrow _
            have R2 : Hid (Rel w w2) := by
              show Rel w w2
              refine Below.grown (((hR.out.trans H1.out).alloc _).alloc _) hgrow (by have := Below.size hR.out; have := Below.size H1.out; simp; omega) (own_base hR.out hO.out)
            have O2 : Hid (w2.ownsRow w.heap.size 54 3 v' (acc ++ [(⟨K, T, (b : Int)⟩ : Tk)]).length (encL (acc ++ [(⟨K, T, (b : Int)⟩ : Tk)]))) := by
              show World.ownsRow _ _ _ _ _ _ _
              rw [encL_snoc, List.length_append]; exact hown'
            clear hown' hgrow
            go_wp2
            go_roundg g
            case rel => exact ⟨b + n, _, v', rfl, rfl, by omega, by omega, by simp; omega, HF, O2, R2⟩
            case measure => omega
  · have RR : Hid (allR s = ([], 0, 7)) := by show _ = _; unfold allR; rw [if_neg h8]
    go_enter Tryd.func22, Tryd.ntmps22
    go_upto_region 2 with (fail)
    ((try simp only []); (repeat (first | go_values | go_skip | go_guarded | go_step | go_upon | go_in)))
    go_ret3
    exact all_ret RR.out (Rel.refl _) (World.ownsRow_nil _ _ _ _)

end Go.Proofs.YtfdajdlbkdfhoaaDoor

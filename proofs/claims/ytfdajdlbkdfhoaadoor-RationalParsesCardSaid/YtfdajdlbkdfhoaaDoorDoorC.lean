/- Contracts of the reference's natural and ParseFraction. No conditions but those printed. -/
import Derived.Test.YtfdajdlbkdfhoaaDoorDoorB
import Derived.Test.YtfdajdlbkdfhoaaDoorDoorQ
namespace Go.Proofs.YtfdajdlbkdfhoaaDoor
open Go.RowKit Cal Str Tok Frac Txt
attribute [local go_sem] calmUpon
set_option linter.unusedVariables false
set_option linter.unusedSimpArgs false

def NatRes (s : ByteArray) (w : World) (e : Ending) (w' : World) : Prop := ∃ v : Int, e = .returned (.tuple #[.int .i64 v, .bool (natB s)]) ∧ 0 ≤ v ∧ v ≤ 10000000000000000 ∧ (natB s = true → v = val s.data.toList) ∧ w = w'
theorem nat_no1 {s : ByteArray} (h : 16 < s.size) : natB s = false := by
  unfold natB; rw [decide_eq_true h]; rfl
theorem nat_no2 {s : ByteArray} (h : 1 < s.size) (h0 : (s[0].toNat : Int) = 48) : natB s = false := by
  unfold natB
  have e : hd0 s.data.toList = true := by rw [hd0_at (by omega)]; simpa using h0
  rw [e, decide_eq_true h]; simp
theorem nat_eq {s : ByteArray} (h : s.size ≤ 16) (h0 : s.size ≤ 1 ∨ ∃ h : 0 < s.size, ¬ ((s[0]'h).toNat : Int) = 48) : natB s = strB1 s := by
  unfold natB strB1
  rw [decide_eq_false (show ¬ 16 < s.size by omega)]
  have e3 : (decide (1 < s.size) && hd0 s.data.toList) = false := by
    rcases h0 with h0 | ⟨h0, h1⟩
    · rw [decide_eq_false (show ¬ 1 < s.size by omega)]; rfl
    · have : hd0 s.data.toList = false := by rw [hd0_at h0]; simpa using h1
      rw [this]; simp
  rw [e3]; rfl
theorem strV_le {s : ByteArray} (h : s.size ≤ 16) : 0 ≤ strV s ∧ strV s ≤ 10000000000000000 := by
  unfold strV numV
  split
  · rename_i hA
    exact val_le16 _ hA (by rw [size_list]; omega)
  · omega
theorem nat_ret {s : ByteArray} {b : Bool} (h : natB s = b) (v : Int) : Ending.returned (.tuple #[.int .i64 v, .bool b]) = .returned (.tuple #[.int .i64 v, .bool (natB s)]) := by rw [h]
theorem nat_val_eq {s : ByteArray} (h : natB s = true) : strV s = val s.data.toList := numV_yes (nat_val h).1

set_option maxHeartbeats 1000000 in
theorem naturalS_any (s : ByteArray) (w : World) (hs : s.size ≤ 140737488355328) : Calls Tryd.prog 30 #[.string s] w (NatRes s w) := by
  unfold NatRes
  by_cases h16 : 16 < s.size
  · have NB := Lib.hid (nat_no1 h16)
    go_enter Tryd.func30, Tryd.ntmps30
    go_wp2
    go_ret2
    exact ⟨0, nat_ret NB.out 0, by omega, by omega, (fun h => by rw [NB.out] at h; cases h), rfl⟩
  · have g16 : s.size ≤ 16 := by omega
    have b16 : decide (16 < (s.size : Int)) = false := decide_eq_false (by omega)
    obtain ⟨vl0, vl1⟩ := strV_le g16
    by_cases h1 : 1 < s.size
    · by_cases h0 : (s[0].toNat : Int) = 48
      · have NB := Lib.hid (nat_no2 h1 h0)
        go_enter Tryd.func30, Tryd.ntmps30
        go_wp2
        go_ret2
        exact ⟨0, nat_ret NB.out 0, by omega, by omega, (fun h => by rw [NB.out] at h; cases h), rfl⟩
      · have NB := Lib.hid (nat_eq g16 (.inr ⟨by omega, h0⟩))
        have c48 : ((s[0].toNat : Int) == 48) = false := by rw [beq_eq_false_iff_ne]; exact h0
        have WH := Lib.hid fun w => whole_any s w g16
        go_enter Tryd.func30, Tryd.ntmps30
        go_wp2_with (go_at_call 41; refine (WH.out _).mono ?_; rintro e w1 ⟨rfl, rfl⟩)
        go_ret2
        exact ⟨strV s, nat_ret NB.out _, vl0, vl1, nat_val_eq, rfl⟩
    · have NB := Lib.hid (nat_eq g16 (.inl (by omega)))
      have c1 : decide (1 < (s.size : Int)) = false := decide_eq_false (by omega)
      have WH := Lib.hid fun w => whole_any s w g16
      go_enter Tryd.func30, Tryd.ntmps30
      go_wp2_with (go_at_call 41; refine (WH.out _).mono ?_; rintro e w1 ⟨rfl, rfl⟩)
      go_ret2
      exact ⟨strV s, nat_ret NB.out _, vl0, vl1, nat_val_eq, rfl⟩

theorem loop_m {A sz k m : Nat} (h : m = if A < k then A else sz) (hk : k < sz) (c : Prop) [Decidable c] (h1 : c → A ≤ k) (h2 : ¬ c → ¬ A = k) :
    (if c then (if m ≤ k then m else k) else m) = if A < k + 1 then A else sz := by
  subst h
  by_cases hc : c
  · have := h1 hc
    rw [if_pos hc, if_pos (show A < k + 1 by omega)]
    by_cases ha : A < k
    · rw [if_pos ha, if_pos (by omega)]
    · rw [if_neg ha, if_neg (by omega)]; omega
  · have := h2 hc
    rw [if_neg hc]
    by_cases ha : A < k
    · rw [if_pos ha, if_pos (by omega)]
    · rw [if_neg ha, if_neg (by omega)]

set_option maxHeartbeats 8000000 in
theorem PF_core (s t x y : ByteArray) (sg : Int) (A : Nat) (N : Bool) (w : World) (hs : s.size ≤ 140737488355328) (ht : t.size ≤ 140737488355328) (hxs : x.size ≤ 140737488355328) (hys : y.size ≤ 140737488355328) (hN : Hid (negS s = N)) (hT : Hid (rstS s = t)) (hsg : Hid (sgnI s = sg))
    (hA : Hid ((ahs t.data.toList).length = A)) (hAz : A ≤ t.size) (hx : t.extract 0 A = x) (hy : t.extract (A + 1) t.size = y) :
    Calls Tryd.prog 18 #[.string s] w (PrsRes s w) := by
  have TP := Lib.hid fun n d (h : IsTxt s n d) => txt_read h
  rw [hT.out, hsg.out] at TP
  have LM := Lib.hid fun k (h : k < t.size) => And.intro (fun e => hA.out ▸ ahs_at (l := t.data.toList) (i := k) (by rw [size_list]; exact h) (by rw [byte_list t k h]; exact e)) (fun e => hA.out ▸ ahs_ne (l := t.data.toList) (i := k) (by rw [size_list]; exact h) (by rw [byte_list t k h]; exact e))
  cases N
  · have h1 : t = s := by
      have := hT.out; unfold rstS at this; rw [if_neg (by rw [hN.out]; simp)] at this; exact this.symm
    have h2 : sg = 1 := by
      have := hsg.out; unfold sgnI at this; rw [if_neg (by rw [hN.out]; simp)] at this; exact this.symm
    subst h1 h2
    have hz3 := Lib.hid fun h : 0 < t.size => (hd45_at h).symm.trans hN.out
    by_cases hz : 0 < t.size
    · have h45 := hz3.out hz
      go_enter Tryd.func18, Tryd.ntmps18
      go_wp2
      go_loop [6, 7] (fun x i => ∃ k m : Nat, k ≤ t.size ∧ i = .int .i64 k ∧ x = .int .i64 m ∧ m ≤ t.size ∧ Hid (m = if A < k then A else t.size)) (fun _ i => t.size - (intOf i).toNat)
      case atStart => exact ⟨0, t.size, by omega, rfl, by rfl, by omega, by unfold Hid; simp⟩
      case round =>
        obtain ⟨k, m, hk, rfl, rfl, hm, hM⟩ := hrel
        by_cases hlt : k < t.size
        · obtain ⟨l1, l2⟩ := LM.out k hlt
          have hm2 := loop_m hM.out hlt ((t[k].toNat : Int) = 47) l1 l2
          clear l1 l2
          by_cases h47 : (t[k].toNat : Int) = 47
          · rw [if_pos h47] at hm2
            have g47 : ((t[k].toNat : Int) == 47) = true := by simpa using h47
            by_cases hmk : m ≤ k
            · rw [if_pos hmk] at hm2
              have HM := Lib.hid hm2
              have z1 : decide ((m : Int) ≤ (k : Int)) = true := decide_eq_true (by omega)
              have z2 : min (m : Int) (k : Int) = (m : Int) := by omega
              have z3 : ((k : Int) < (m : Int)) = False := by simp; omega
              clear hm2
              go_wp2
              go_round
              case rel => exact ⟨k + 1, m, by omega, by go_num, by go_num, by omega, HM⟩
              case measure => simp [intOf]; omega
            · rw [if_neg hmk] at hm2
              have HM := Lib.hid hm2
              have z1 : decide ((m : Int) ≤ (k : Int)) = false := decide_eq_false (by omega)
              have z2 : min (m : Int) (k : Int) = (k : Int) := by omega
              clear hm2
              go_wp2
              go_round
              case rel => exact ⟨k + 1, k, by omega, by go_num, by go_num, by omega, HM⟩
              case measure => simp [intOf]; omega
          · rw [if_neg h47] at hm2
            have g47 : ((t[k].toNat : Int) == 47) = false := by simpa using h47
            have HM := Lib.hid hm2
            clear hm2
            go_wp2
            go_round
            case rel => exact ⟨k + 1, m, by omega, by go_num, by go_num, by omega, HM⟩
            case measure => simp [intOf]; omega
        · have em : A = m := by
            have := hM.out
            rw [this, show k = t.size by omega]
            split <;> omega
          subst em
          clear hM
          have hasx : Hid (x = asT t) := hx.symm.trans (asS_take t hA.out)
          cases hb : natB x
          · have NX := Lib.hid fun w => naturalS_any x w hxs
            unfold NatRes at NX
            rw [hb] at NX
            have NO : Hid (∀ n d, ¬ IsTxt t n d) := fun n d h => by
              have := (TP.out n d h).1
              rw [← hasx.out, hb] at this; cases this
            clear hb
            go_wp2_with fail
            refine (NX.out _).mono ?_
            rintro e w1 ⟨v, rfl, v0, v1, _, rfl⟩
            have W1 : IntKind.i64.wrap (v) = v := IntWalk.i64_in _ ⟨by omega, by omega⟩
            go_wp2
            refine bodyPost_ret (v := .tuple #[.agg #[.int .i64 0, .int .i64 0], .bool false]) ?_ rfl (prs_no NO.out ?_)
            · simp [results, Tryd.results18, go_sem]
            · (show Rel _ _; repeat (first | with_reducible exact Rel.refl _ | with_reducible refine Rel.alloc ?_ _ | with_reducible refine Rel.setCell ?_ (by first | (simp; done) | (simp; omega)) _ | with_reducible refine Rel.drew ?_ | with_reducible refine Rel.trans ?_ H0.out))
          · have NX := Lib.hid fun w => naturalS_any x w hxs
            unfold NatRes at NX
            rw [hb] at NX
            have hsz : Hid (0 < t.size) := by
              have e := as_ne (hasx.out ▸ hb)
              have e2 := rst_le t
              show 0 < _
              rw [hT.out] at e2; omega
            clear hb
            rcases pns_lt t.data.toList with ⟨hp, hl⟩ | ⟨hp, hl⟩
            · have hpn := Lib.hid hp
              rw [hA.out, size_list] at hl
              have W5 : IntKind.i64.wrap ((A : Int) + 1) = (A : Int) + 1 := IntWalk.i64_in _ ⟨by omega, by omega⟩
              have W6 : ((A : Int) + 1).toNat = A + 1 := by omega
              have c1 : decide ((A : Int) < (t.size : Int)) = true := decide_eq_true (by omega)
              have c2 : decide (A < t.size) = true := decide_eq_true (by omega)
              have c3 : (A : Int) < (t.size : Int) := by omega
              have hbsy : Hid (y = bsT t) := hy.symm.trans (bsS_drop t hp hA.out)
              clear hp hl
              cases hb : natB y
              · have NY := Lib.hid fun w => naturalS_any y w hys
                unfold NatRes at NY
                rw [hb] at NY
                have NO : Hid (∀ n d, ¬ IsTxt t n d) := fun n d h => by
                  rcases (TP.out n d h).2.2 with ⟨_, h⟩ | ⟨_, _, h, _⟩
                  · rw [hpn.out] at h; cases h
                  · rw [← hbsy.out, hb] at h; cases h
                clear hb
                go_wp2_with fail
                refine (NX.out _).mono ?_
                rintro e w1 ⟨v, rfl, v0, v1, _, rfl⟩
                have W1 : IntKind.i64.wrap (v) = v := IntWalk.i64_in _ ⟨by omega, by omega⟩
                go_wp2_with fail
                refine (NY.out _).mono ?_
                rintro e w1 ⟨u, rfl, u0, u1, _, rfl⟩
                go_wp2
                refine bodyPost_ret (v := .tuple #[.agg #[.int .i64 0, .int .i64 0], .bool false]) ?_ rfl (prs_no NO.out ?_)
                · simp [results, Tryd.results18, go_sem]
                · (show Rel _ _; repeat (first | with_reducible exact Rel.refl _ | with_reducible refine Rel.alloc ?_ _ | with_reducible refine Rel.setCell ?_ (by first | (simp; done) | (simp; omega)) _ | with_reducible refine Rel.drew ?_ | with_reducible refine Rel.trans ?_ H0.out))
              · have NY := Lib.hid fun w => naturalS_any y w hys
                unfold NatRes at NY
                rw [hb] at NY
                clear hb
                go_wp2_with fail
                refine (NX.out _).mono ?_
                rintro e w1 ⟨v, rfl, v0, v1, hvx, rfl⟩
                replace hvx := Lib.hid (hvx trivial)
                go_wp2_with fail
                refine (NY.out _).mono ?_
                rintro e w1 ⟨u, rfl, u0, u1, hux, rfl⟩
                replace hux := Lib.hid (hux trivial)
                have W2 : IntKind.i64.wrap (v) = v := IntWalk.i64_in _ ⟨by omega, by omega⟩
                obtain ⟨F, hF⟩ : ∃ F, fmtS (v) u = F := ⟨_, rfl⟩
                have FM := Lib.hid fun w => rFormat_any (v) u w (by omega) (by omega) (by omega) (by omega)
                unfold StrRes at FM
                rw [hF] at FM
                go_wp2_with fail
                refine (FM.out _).mono ?_
                rintro e w1 ⟨rfl, h1⟩
                have q := keep2 h1 (b := w.heap.size) (by first | (simp; done) | (simp; omega) | omega)
                have kc1_0_0 := q.1
                have kc1_0_1 := q.2.1
                have kf1_0_0 := q.2.2.1
                have kf1_0_1 := q.2.2.2.1
                have kl1_0 := q.2.2.2.2.1
                have kn1_0 := q.2.2.2.2.2.1
                have km1_0 := q.2.2.2.2.2.2
                clear q
                have q := keep2 h1 (b := w.heap.size + 1) (by first | (simp; done) | (simp; omega) | omega)
                have kc1_1_0 := q.1
                have kc1_1_1 := q.2.1
                have kf1_1_0 := q.2.2.1
                have kf1_1_1 := q.2.2.2.1
                have kl1_1 := q.2.2.2.2.1
                have kn1_1 := q.2.2.2.2.2.1
                have km1_1 := q.2.2.2.2.2.2
                clear q
                have kz1 := h1.size
                (try simp only [World.size_alloc, World.size_setCell, World.size_drew] at kz1)
                have H1 := Lib.hid h1
                clear h1
                by_cases hFs : F = t
                · have YES : Hid (IsTxt t (v) u) := txt_of_fmt (hF.trans hFs) hsz.out
                  have n1 : (F.toList == t.toList) = true := by rw [hFs]; simp
                  clear hF
                  go_wp2
                  refine bodyPost_ret (v := .tuple #[.agg #[.int .i64 (v), .int .i64 u], .bool true]) ?_ rfl (prs_yes YES.out ?_)
                  · simp [results, Tryd.results18, go_sem, kc1_0_0, kc1_0_1, kc1_1_0, kc1_1_1]
                  · (show Rel _ _; repeat (first | with_reducible exact Rel.refl _ | with_reducible refine Rel.alloc ?_ _ | with_reducible refine Rel.setCell ?_ (by first | (simp; done) | (simp; omega)) _ | with_reducible refine Rel.drew ?_ | with_reducible refine Rel.trans ?_ H1.out | with_reducible refine Rel.trans ?_ H0.out))
                · have NO : Hid (∀ n d, ¬ IsTxt t n d) := fun n d h => by
                    have t := TP.out n d h
                    have e1 : n = v := by rw [t.2.1, ← hasx.out, ← hvx.out, Int.one_mul]
                    have e2 : d = u := by
                      rcases t.2.2 with ⟨_, hp⟩ | ⟨_, _, _, hv⟩
                      · rw [hpn.out] at hp; cases hp
                      · rw [← hv, ← hbsy.out, hux.out]
                    have := h.2
                    rw [e1, e2, hF] at this; exact hFs this
                  have hl : ¬ F.toList = t.toList := fun h => hFs (toList_eq h)
                  have n1 : (F.toList == t.toList) = false := by simpa using hl
                  clear hF hFs
                  go_wp2
                  refine bodyPost_ret (v := .tuple #[.agg #[.int .i64 0, .int .i64 0], .bool false]) ?_ rfl (prs_no NO.out ?_)
                  · simp [results, Tryd.results18, go_sem, kc1_0_0, kc1_0_1, kc1_1_0, kc1_1_1]
                  · (show Rel _ _; repeat (first | with_reducible exact Rel.refl _ | with_reducible refine Rel.alloc ?_ _ | with_reducible refine Rel.setCell ?_ (by first | (simp; done) | (simp; omega)) _ | with_reducible refine Rel.drew ?_ | with_reducible refine Rel.trans ?_ H1.out | with_reducible refine Rel.trans ?_ H0.out))
            · have hpn := Lib.hid hp
              rw [hA.out, size_list] at hl
              have c1 : decide ((A : Int) < (t.size : Int)) = false := decide_eq_false (by omega)
              have c2 : decide (A < t.size) = false := decide_eq_false (by omega)
              have c3 : ¬ (A : Int) < (t.size : Int) := by omega
              clear hp hl
              go_wp2_with fail
              refine (NX.out _).mono ?_
              rintro e w1 ⟨v, rfl, v0, v1, hvx, rfl⟩
              replace hvx := Lib.hid (hvx trivial)
              have W2 : IntKind.i64.wrap (v) = v := IntWalk.i64_in _ ⟨by omega, by omega⟩
              obtain ⟨F, hF⟩ : ∃ F, fmtS (v) 1 = F := ⟨_, rfl⟩
              have FM := Lib.hid fun w => rFormat_any (v) 1 w (by omega) (by omega) (by omega) (by omega)
              unfold StrRes at FM
              rw [hF] at FM
              go_wp2_with fail
              refine (FM.out _).mono ?_
              rintro e w1 ⟨rfl, h1⟩
              have q := keep2 h1 (b := w.heap.size) (by first | (simp; done) | (simp; omega) | omega)
              have kc1_0_0 := q.1
              have kc1_0_1 := q.2.1
              have kf1_0_0 := q.2.2.1
              have kf1_0_1 := q.2.2.2.1
              have kl1_0 := q.2.2.2.2.1
              have kn1_0 := q.2.2.2.2.2.1
              have km1_0 := q.2.2.2.2.2.2
              clear q
              have q := keep2 h1 (b := w.heap.size + 1) (by first | (simp; done) | (simp; omega) | omega)
              have kc1_1_0 := q.1
              have kc1_1_1 := q.2.1
              have kf1_1_0 := q.2.2.1
              have kf1_1_1 := q.2.2.2.1
              have kl1_1 := q.2.2.2.2.1
              have kn1_1 := q.2.2.2.2.2.1
              have km1_1 := q.2.2.2.2.2.2
              clear q
              have kz1 := h1.size
              (try simp only [World.size_alloc, World.size_setCell, World.size_drew] at kz1)
              have H1 := Lib.hid h1
              clear h1
              by_cases hFs : F = t
              · have YES : Hid (IsTxt t (v) 1) := txt_of_fmt (hF.trans hFs) hsz.out
                have n1 : (F.toList == t.toList) = true := by rw [hFs]; simp
                clear hF
                go_wp2
                refine bodyPost_ret (v := .tuple #[.agg #[.int .i64 (v), .int .i64 1], .bool true]) ?_ rfl (prs_yes YES.out ?_)
                · simp [results, Tryd.results18, go_sem, kc1_0_0, kc1_0_1, kc1_1_0, kc1_1_1]
                · (show Rel _ _; repeat (first | with_reducible exact Rel.refl _ | with_reducible refine Rel.alloc ?_ _ | with_reducible refine Rel.setCell ?_ (by first | (simp; done) | (simp; omega)) _ | with_reducible refine Rel.drew ?_ | with_reducible refine Rel.trans ?_ H1.out | with_reducible refine Rel.trans ?_ H0.out))
              · have NO : Hid (∀ n d, ¬ IsTxt t n d) := fun n d h => by
                  have t := TP.out n d h
                  have e1 : n = v := by rw [t.2.1, ← hasx.out, ← hvx.out, Int.one_mul]
                  have e2 : d = 1 := by
                    rcases t.2.2 with ⟨e, _⟩ | ⟨_, hp, _⟩
                    · exact e
                    · rw [hpn.out] at hp; cases hp
                  have := h.2
                  rw [e1, e2, hF] at this; exact hFs this
                have hl : ¬ F.toList = t.toList := fun h => hFs (toList_eq h)
                have n1 : (F.toList == t.toList) = false := by simpa using hl
                clear hF hFs
                go_wp2
                refine bodyPost_ret (v := .tuple #[.agg #[.int .i64 0, .int .i64 0], .bool false]) ?_ rfl (prs_no NO.out ?_)
                · simp [results, Tryd.results18, go_sem, kc1_0_0, kc1_0_1, kc1_1_0, kc1_1_1]
                · (show Rel _ _; repeat (first | with_reducible exact Rel.refl _ | with_reducible refine Rel.alloc ?_ _ | with_reducible refine Rel.setCell ?_ (by first | (simp; done) | (simp; omega)) _ | with_reducible refine Rel.drew ?_ | with_reducible refine Rel.trans ?_ H1.out | with_reducible refine Rel.trans ?_ H0.out))
    · have hz2 : t.size = 0 := by omega
      have HZ := Lib.hid hz2
      go_enter Tryd.func18, Tryd.ntmps18
      go_wp2
      clear hz2 hz hz3
      go_loop [6, 7] (fun x i => ∃ k m : Nat, k ≤ t.size ∧ i = .int .i64 k ∧ x = .int .i64 m ∧ m ≤ t.size ∧ Hid (m = if A < k then A else t.size)) (fun _ i => t.size - (intOf i).toNat)
      case atStart => exact ⟨0, t.size, by omega, rfl, by rw [HZ.out]; rfl, by omega, by unfold Hid; simp⟩
      case round =>
        obtain ⟨k, m, hk, rfl, rfl, hm, hM⟩ := hrel
        by_cases hlt : k < t.size
        · obtain ⟨l1, l2⟩ := LM.out k hlt
          have hm2 := loop_m hM.out hlt ((t[k].toNat : Int) = 47) l1 l2
          clear l1 l2
          by_cases h47 : (t[k].toNat : Int) = 47
          · rw [if_pos h47] at hm2
            have g47 : ((t[k].toNat : Int) == 47) = true := by simpa using h47
            by_cases hmk : m ≤ k
            · rw [if_pos hmk] at hm2
              have HM := Lib.hid hm2
              have z1 : decide ((m : Int) ≤ (k : Int)) = true := decide_eq_true (by omega)
              have z2 : min (m : Int) (k : Int) = (m : Int) := by omega
              have z3 : ((k : Int) < (m : Int)) = False := by simp; omega
              clear hm2
              go_wp2
              go_round
              case rel => exact ⟨k + 1, m, by omega, by go_num, by go_num, by omega, HM⟩
              case measure => simp [intOf]; omega
            · rw [if_neg hmk] at hm2
              have HM := Lib.hid hm2
              have z1 : decide ((m : Int) ≤ (k : Int)) = false := decide_eq_false (by omega)
              have z2 : min (m : Int) (k : Int) = (k : Int) := by omega
              clear hm2
              go_wp2
              go_round
              case rel => exact ⟨k + 1, k, by omega, by go_num, by go_num, by omega, HM⟩
              case measure => simp [intOf]; omega
          · rw [if_neg h47] at hm2
            have g47 : ((t[k].toNat : Int) == 47) = false := by simpa using h47
            have HM := Lib.hid hm2
            clear hm2
            go_wp2
            go_round
            case rel => exact ⟨k + 1, m, by omega, by go_num, by go_num, by omega, HM⟩
            case measure => simp [intOf]; omega
        · have em : A = m := by
            have := hM.out
            rw [this, show k = t.size by omega]
            split <;> omega
          subst em
          clear hM
          have hasx : Hid (x = asT t) := hx.symm.trans (asS_take t hA.out)
          cases hb : natB x
          · have NX := Lib.hid fun w => naturalS_any x w hxs
            unfold NatRes at NX
            rw [hb] at NX
            have NO : Hid (∀ n d, ¬ IsTxt t n d) := fun n d h => by
              have := (TP.out n d h).1
              rw [← hasx.out, hb] at this; cases this
            clear hb
            go_wp2_with fail
            refine (NX.out _).mono ?_
            rintro e w1 ⟨v, rfl, v0, v1, _, rfl⟩
            have W1 : IntKind.i64.wrap (v) = v := IntWalk.i64_in _ ⟨by omega, by omega⟩
            go_wp2
            refine bodyPost_ret (v := .tuple #[.agg #[.int .i64 0, .int .i64 0], .bool false]) ?_ rfl (prs_no NO.out ?_)
            · simp [results, Tryd.results18, go_sem]
            · (show Rel _ _; repeat (first | with_reducible exact Rel.refl _ | with_reducible refine Rel.alloc ?_ _ | with_reducible refine Rel.setCell ?_ (by first | (simp; done) | (simp; omega)) _ | with_reducible refine Rel.drew ?_ | with_reducible refine Rel.trans ?_ H0.out))
          · have NX := Lib.hid fun w => naturalS_any x w hxs
            unfold NatRes at NX
            rw [hb] at NX
            have hsz : Hid (0 < t.size) := by
              have e := as_ne (hasx.out ▸ hb)
              have e2 := rst_le t
              show 0 < _
              rw [hT.out] at e2; omega
            clear hb
            rcases pns_lt t.data.toList with ⟨hp, hl⟩ | ⟨hp, hl⟩
            · have hpn := Lib.hid hp
              rw [hA.out, size_list] at hl
              have W5 : IntKind.i64.wrap ((A : Int) + 1) = (A : Int) + 1 := IntWalk.i64_in _ ⟨by omega, by omega⟩
              have W6 : ((A : Int) + 1).toNat = A + 1 := by omega
              have c1 : decide ((A : Int) < (t.size : Int)) = true := decide_eq_true (by omega)
              have c2 : decide (A < t.size) = true := decide_eq_true (by omega)
              have c3 : (A : Int) < (t.size : Int) := by omega
              have hbsy : Hid (y = bsT t) := hy.symm.trans (bsS_drop t hp hA.out)
              clear hp hl
              cases hb : natB y
              · have NY := Lib.hid fun w => naturalS_any y w hys
                unfold NatRes at NY
                rw [hb] at NY
                have NO : Hid (∀ n d, ¬ IsTxt t n d) := fun n d h => by
                  rcases (TP.out n d h).2.2 with ⟨_, h⟩ | ⟨_, _, h, _⟩
                  · rw [hpn.out] at h; cases h
                  · rw [← hbsy.out, hb] at h; cases h
                clear hb
                go_wp2_with fail
                refine (NX.out _).mono ?_
                rintro e w1 ⟨v, rfl, v0, v1, _, rfl⟩
                have W1 : IntKind.i64.wrap (v) = v := IntWalk.i64_in _ ⟨by omega, by omega⟩
                go_wp2_with fail
                refine (NY.out _).mono ?_
                rintro e w1 ⟨u, rfl, u0, u1, _, rfl⟩
                go_wp2
                refine bodyPost_ret (v := .tuple #[.agg #[.int .i64 0, .int .i64 0], .bool false]) ?_ rfl (prs_no NO.out ?_)
                · simp [results, Tryd.results18, go_sem]
                · (show Rel _ _; repeat (first | with_reducible exact Rel.refl _ | with_reducible refine Rel.alloc ?_ _ | with_reducible refine Rel.setCell ?_ (by first | (simp; done) | (simp; omega)) _ | with_reducible refine Rel.drew ?_ | with_reducible refine Rel.trans ?_ H0.out))
              · have NY := Lib.hid fun w => naturalS_any y w hys
                unfold NatRes at NY
                rw [hb] at NY
                clear hb
                go_wp2_with fail
                refine (NX.out _).mono ?_
                rintro e w1 ⟨v, rfl, v0, v1, hvx, rfl⟩
                replace hvx := Lib.hid (hvx trivial)
                go_wp2_with fail
                refine (NY.out _).mono ?_
                rintro e w1 ⟨u, rfl, u0, u1, hux, rfl⟩
                replace hux := Lib.hid (hux trivial)
                have W2 : IntKind.i64.wrap (v) = v := IntWalk.i64_in _ ⟨by omega, by omega⟩
                obtain ⟨F, hF⟩ : ∃ F, fmtS (v) u = F := ⟨_, rfl⟩
                have FM := Lib.hid fun w => rFormat_any (v) u w (by omega) (by omega) (by omega) (by omega)
                unfold StrRes at FM
                rw [hF] at FM
                go_wp2_with fail
                refine (FM.out _).mono ?_
                rintro e w1 ⟨rfl, h1⟩
                have q := keep2 h1 (b := w.heap.size) (by first | (simp; done) | (simp; omega) | omega)
                have kc1_0_0 := q.1
                have kc1_0_1 := q.2.1
                have kf1_0_0 := q.2.2.1
                have kf1_0_1 := q.2.2.2.1
                have kl1_0 := q.2.2.2.2.1
                have kn1_0 := q.2.2.2.2.2.1
                have km1_0 := q.2.2.2.2.2.2
                clear q
                have q := keep2 h1 (b := w.heap.size + 1) (by first | (simp; done) | (simp; omega) | omega)
                have kc1_1_0 := q.1
                have kc1_1_1 := q.2.1
                have kf1_1_0 := q.2.2.1
                have kf1_1_1 := q.2.2.2.1
                have kl1_1 := q.2.2.2.2.1
                have kn1_1 := q.2.2.2.2.2.1
                have km1_1 := q.2.2.2.2.2.2
                clear q
                have kz1 := h1.size
                (try simp only [World.size_alloc, World.size_setCell, World.size_drew] at kz1)
                have H1 := Lib.hid h1
                clear h1
                by_cases hFs : F = t
                · have YES : Hid (IsTxt t (v) u) := txt_of_fmt (hF.trans hFs) hsz.out
                  have n1 : (F.toList == t.toList) = true := by rw [hFs]; simp
                  clear hF
                  go_wp2
                  refine bodyPost_ret (v := .tuple #[.agg #[.int .i64 (v), .int .i64 u], .bool true]) ?_ rfl (prs_yes YES.out ?_)
                  · simp [results, Tryd.results18, go_sem, kc1_0_0, kc1_0_1, kc1_1_0, kc1_1_1]
                  · (show Rel _ _; repeat (first | with_reducible exact Rel.refl _ | with_reducible refine Rel.alloc ?_ _ | with_reducible refine Rel.setCell ?_ (by first | (simp; done) | (simp; omega)) _ | with_reducible refine Rel.drew ?_ | with_reducible refine Rel.trans ?_ H1.out | with_reducible refine Rel.trans ?_ H0.out))
                · have NO : Hid (∀ n d, ¬ IsTxt t n d) := fun n d h => by
                    have t := TP.out n d h
                    have e1 : n = v := by rw [t.2.1, ← hasx.out, ← hvx.out, Int.one_mul]
                    have e2 : d = u := by
                      rcases t.2.2 with ⟨_, hp⟩ | ⟨_, _, _, hv⟩
                      · rw [hpn.out] at hp; cases hp
                      · rw [← hv, ← hbsy.out, hux.out]
                    have := h.2
                    rw [e1, e2, hF] at this; exact hFs this
                  have hl : ¬ F.toList = t.toList := fun h => hFs (toList_eq h)
                  have n1 : (F.toList == t.toList) = false := by simpa using hl
                  clear hF hFs
                  go_wp2
                  refine bodyPost_ret (v := .tuple #[.agg #[.int .i64 0, .int .i64 0], .bool false]) ?_ rfl (prs_no NO.out ?_)
                  · simp [results, Tryd.results18, go_sem, kc1_0_0, kc1_0_1, kc1_1_0, kc1_1_1]
                  · (show Rel _ _; repeat (first | with_reducible exact Rel.refl _ | with_reducible refine Rel.alloc ?_ _ | with_reducible refine Rel.setCell ?_ (by first | (simp; done) | (simp; omega)) _ | with_reducible refine Rel.drew ?_ | with_reducible refine Rel.trans ?_ H1.out | with_reducible refine Rel.trans ?_ H0.out))
            · have hpn := Lib.hid hp
              rw [hA.out, size_list] at hl
              have c1 : decide ((A : Int) < (t.size : Int)) = false := decide_eq_false (by omega)
              have c2 : decide (A < t.size) = false := decide_eq_false (by omega)
              have c3 : ¬ (A : Int) < (t.size : Int) := by omega
              clear hp hl
              go_wp2_with fail
              refine (NX.out _).mono ?_
              rintro e w1 ⟨v, rfl, v0, v1, hvx, rfl⟩
              replace hvx := Lib.hid (hvx trivial)
              have W2 : IntKind.i64.wrap (v) = v := IntWalk.i64_in _ ⟨by omega, by omega⟩
              obtain ⟨F, hF⟩ : ∃ F, fmtS (v) 1 = F := ⟨_, rfl⟩
              have FM := Lib.hid fun w => rFormat_any (v) 1 w (by omega) (by omega) (by omega) (by omega)
              unfold StrRes at FM
              rw [hF] at FM
              go_wp2_with fail
              refine (FM.out _).mono ?_
              rintro e w1 ⟨rfl, h1⟩
              have q := keep2 h1 (b := w.heap.size) (by first | (simp; done) | (simp; omega) | omega)
              have kc1_0_0 := q.1
              have kc1_0_1 := q.2.1
              have kf1_0_0 := q.2.2.1
              have kf1_0_1 := q.2.2.2.1
              have kl1_0 := q.2.2.2.2.1
              have kn1_0 := q.2.2.2.2.2.1
              have km1_0 := q.2.2.2.2.2.2
              clear q
              have q := keep2 h1 (b := w.heap.size + 1) (by first | (simp; done) | (simp; omega) | omega)
              have kc1_1_0 := q.1
              have kc1_1_1 := q.2.1
              have kf1_1_0 := q.2.2.1
              have kf1_1_1 := q.2.2.2.1
              have kl1_1 := q.2.2.2.2.1
              have kn1_1 := q.2.2.2.2.2.1
              have km1_1 := q.2.2.2.2.2.2
              clear q
              have kz1 := h1.size
              (try simp only [World.size_alloc, World.size_setCell, World.size_drew] at kz1)
              have H1 := Lib.hid h1
              clear h1
              by_cases hFs : F = t
              · have YES : Hid (IsTxt t (v) 1) := txt_of_fmt (hF.trans hFs) hsz.out
                have n1 : (F.toList == t.toList) = true := by rw [hFs]; simp
                clear hF
                go_wp2
                refine bodyPost_ret (v := .tuple #[.agg #[.int .i64 (v), .int .i64 1], .bool true]) ?_ rfl (prs_yes YES.out ?_)
                · simp [results, Tryd.results18, go_sem, kc1_0_0, kc1_0_1, kc1_1_0, kc1_1_1]
                · (show Rel _ _; repeat (first | with_reducible exact Rel.refl _ | with_reducible refine Rel.alloc ?_ _ | with_reducible refine Rel.setCell ?_ (by first | (simp; done) | (simp; omega)) _ | with_reducible refine Rel.drew ?_ | with_reducible refine Rel.trans ?_ H1.out | with_reducible refine Rel.trans ?_ H0.out))
              · have NO : Hid (∀ n d, ¬ IsTxt t n d) := fun n d h => by
                  have t := TP.out n d h
                  have e1 : n = v := by rw [t.2.1, ← hasx.out, ← hvx.out, Int.one_mul]
                  have e2 : d = 1 := by
                    rcases t.2.2 with ⟨e, _⟩ | ⟨_, hp, _⟩
                    · exact e
                    · rw [hpn.out] at hp; cases hp
                  have := h.2
                  rw [e1, e2, hF] at this; exact hFs this
                have hl : ¬ F.toList = t.toList := fun h => hFs (toList_eq h)
                have n1 : (F.toList == t.toList) = false := by simpa using hl
                clear hF hFs
                go_wp2
                refine bodyPost_ret (v := .tuple #[.agg #[.int .i64 0, .int .i64 0], .bool false]) ?_ rfl (prs_no NO.out ?_)
                · simp [results, Tryd.results18, go_sem, kc1_0_0, kc1_0_1, kc1_1_0, kc1_1_1]
                · (show Rel _ _; repeat (first | with_reducible exact Rel.refl _ | with_reducible refine Rel.alloc ?_ _ | with_reducible refine Rel.setCell ?_ (by first | (simp; done) | (simp; omega)) _ | with_reducible refine Rel.drew ?_ | with_reducible refine Rel.trans ?_ H1.out | with_reducible refine Rel.trans ?_ H0.out))
  · have h1 : s.extract 1 s.size = t := by
      have := hT.out; unfold rstS at this; rw [if_pos hN.out] at this; exact this
    have h2 : sg = -1 := by
      have := hsg.out; unfold sgnI at this; rw [if_pos hN.out] at this; exact this.symm
    have hz : 0 < s.size := by
      rcases Nat.eq_zero_or_pos s.size with h | h
      · have := hN.out; unfold negS at this
        have e : s.data.toList = [] := List.eq_nil_of_length_eq_zero (by rw [size_list]; exact h)
        rw [e] at this; cases this
      · exact h
    have h45 : ((s[0].toNat : Int) == 45) = true := (hd45_at hz).symm.trans hN.out
    subst h2
    go_enter Tryd.func18, Tryd.ntmps18
    go_wp2
    go_loop [6, 7] (fun x i => ∃ k m : Nat, k ≤ t.size ∧ i = .int .i64 k ∧ x = .int .i64 m ∧ m ≤ t.size ∧ Hid (m = if A < k then A else t.size)) (fun _ i => t.size - (intOf i).toNat)
    case atStart => exact ⟨0, t.size, by omega, rfl, by rfl, by omega, by unfold Hid; simp⟩
    case round =>
      obtain ⟨k, m, hk, rfl, rfl, hm, hM⟩ := hrel
      by_cases hlt : k < t.size
      · obtain ⟨l1, l2⟩ := LM.out k hlt
        have hm2 := loop_m hM.out hlt ((t[k].toNat : Int) = 47) l1 l2
        clear l1 l2
        by_cases h47 : (t[k].toNat : Int) = 47
        · rw [if_pos h47] at hm2
          have g47 : ((t[k].toNat : Int) == 47) = true := by simpa using h47
          by_cases hmk : m ≤ k
          · rw [if_pos hmk] at hm2
            have HM := Lib.hid hm2
            have z1 : decide ((m : Int) ≤ (k : Int)) = true := decide_eq_true (by omega)
            have z2 : min (m : Int) (k : Int) = (m : Int) := by omega
            have z3 : ((k : Int) < (m : Int)) = False := by simp; omega
            clear hm2
            go_wp2
            go_round
            case rel => exact ⟨k + 1, m, by omega, by go_num, by go_num, by omega, HM⟩
            case measure => simp [intOf]; omega
          · rw [if_neg hmk] at hm2
            have HM := Lib.hid hm2
            have z1 : decide ((m : Int) ≤ (k : Int)) = false := decide_eq_false (by omega)
            have z2 : min (m : Int) (k : Int) = (k : Int) := by omega
            clear hm2
            go_wp2
            go_round
            case rel => exact ⟨k + 1, k, by omega, by go_num, by go_num, by omega, HM⟩
            case measure => simp [intOf]; omega
        · rw [if_neg h47] at hm2
          have g47 : ((t[k].toNat : Int) == 47) = false := by simpa using h47
          have HM := Lib.hid hm2
          clear hm2
          go_wp2
          go_round
          case rel => exact ⟨k + 1, m, by omega, by go_num, by go_num, by omega, HM⟩
          case measure => simp [intOf]; omega
      · have em : A = m := by
          have := hM.out
          rw [this, show k = t.size by omega]
          split <;> omega
        subst em
        clear hM
        have hasx : Hid (x = asT t) := hx.symm.trans (asS_take t hA.out)
        cases hb : natB x
        · have NX := Lib.hid fun w => naturalS_any x w hxs
          unfold NatRes at NX
          rw [hb] at NX
          have NO : Hid (∀ n d, ¬ IsTxt s n d) := fun n d h => by
            have := (TP.out n d h).1
            rw [← hasx.out, hb] at this; cases this
          clear hb
          go_wp2_with fail
          refine (NX.out _).mono ?_
          rintro e w1 ⟨v, rfl, v0, v1, _, rfl⟩
          have W1 : IntKind.i64.wrap (-v) = -v := IntWalk.i64_in _ ⟨by omega, by omega⟩
          go_wp2
          refine bodyPost_ret (v := .tuple #[.agg #[.int .i64 0, .int .i64 0], .bool false]) ?_ rfl (prs_no NO.out ?_)
          · simp [results, Tryd.results18, go_sem]
          · (show Rel _ _; repeat (first | with_reducible exact Rel.refl _ | with_reducible refine Rel.alloc ?_ _ | with_reducible refine Rel.setCell ?_ (by first | (simp; done) | (simp; omega)) _ | with_reducible refine Rel.drew ?_ | with_reducible refine Rel.trans ?_ H0.out))
        · have NX := Lib.hid fun w => naturalS_any x w hxs
          unfold NatRes at NX
          rw [hb] at NX
          have hsz : Hid (0 < s.size) := by
            have e := as_ne (hasx.out ▸ hb)
            have e2 := rst_le s
            show 0 < _
            rw [hT.out] at e2; omega
          clear hb
          rcases pns_lt t.data.toList with ⟨hp, hl⟩ | ⟨hp, hl⟩
          · have hpn := Lib.hid hp
            rw [hA.out, size_list] at hl
            have W5 : IntKind.i64.wrap ((A : Int) + 1) = (A : Int) + 1 := IntWalk.i64_in _ ⟨by omega, by omega⟩
            have W6 : ((A : Int) + 1).toNat = A + 1 := by omega
            have c1 : decide ((A : Int) < (t.size : Int)) = true := decide_eq_true (by omega)
            have c2 : decide (A < t.size) = true := decide_eq_true (by omega)
            have c3 : (A : Int) < (t.size : Int) := by omega
            have hbsy : Hid (y = bsT t) := hy.symm.trans (bsS_drop t hp hA.out)
            clear hp hl
            cases hb : natB y
            · have NY := Lib.hid fun w => naturalS_any y w hys
              unfold NatRes at NY
              rw [hb] at NY
              have NO : Hid (∀ n d, ¬ IsTxt s n d) := fun n d h => by
                rcases (TP.out n d h).2.2 with ⟨_, h⟩ | ⟨_, _, h, _⟩
                · rw [hpn.out] at h; cases h
                · rw [← hbsy.out, hb] at h; cases h
              clear hb
              go_wp2_with fail
              refine (NX.out _).mono ?_
              rintro e w1 ⟨v, rfl, v0, v1, _, rfl⟩
              have W1 : IntKind.i64.wrap (-v) = -v := IntWalk.i64_in _ ⟨by omega, by omega⟩
              go_wp2_with fail
              refine (NY.out _).mono ?_
              rintro e w1 ⟨u, rfl, u0, u1, _, rfl⟩
              go_wp2
              refine bodyPost_ret (v := .tuple #[.agg #[.int .i64 0, .int .i64 0], .bool false]) ?_ rfl (prs_no NO.out ?_)
              · simp [results, Tryd.results18, go_sem]
              · (show Rel _ _; repeat (first | with_reducible exact Rel.refl _ | with_reducible refine Rel.alloc ?_ _ | with_reducible refine Rel.setCell ?_ (by first | (simp; done) | (simp; omega)) _ | with_reducible refine Rel.drew ?_ | with_reducible refine Rel.trans ?_ H0.out))
            · have NY := Lib.hid fun w => naturalS_any y w hys
              unfold NatRes at NY
              rw [hb] at NY
              clear hb
              go_wp2_with fail
              refine (NX.out _).mono ?_
              rintro e w1 ⟨v, rfl, v0, v1, hvx, rfl⟩
              replace hvx := Lib.hid (hvx trivial)
              go_wp2_with fail
              refine (NY.out _).mono ?_
              rintro e w1 ⟨u, rfl, u0, u1, hux, rfl⟩
              replace hux := Lib.hid (hux trivial)
              have W2 : IntKind.i64.wrap (-v) = -v := IntWalk.i64_in _ ⟨by omega, by omega⟩
              obtain ⟨F, hF⟩ : ∃ F, fmtS (-v) u = F := ⟨_, rfl⟩
              have FM := Lib.hid fun w => rFormat_any (-v) u w (by omega) (by omega) (by omega) (by omega)
              unfold StrRes at FM
              rw [hF] at FM
              go_wp2_with fail
              refine (FM.out _).mono ?_
              rintro e w1 ⟨rfl, h1⟩
              have q := keep2 h1 (b := w.heap.size) (by first | (simp; done) | (simp; omega) | omega)
              have kc1_0_0 := q.1
              have kc1_0_1 := q.2.1
              have kf1_0_0 := q.2.2.1
              have kf1_0_1 := q.2.2.2.1
              have kl1_0 := q.2.2.2.2.1
              have kn1_0 := q.2.2.2.2.2.1
              have km1_0 := q.2.2.2.2.2.2
              clear q
              have q := keep2 h1 (b := w.heap.size + 1) (by first | (simp; done) | (simp; omega) | omega)
              have kc1_1_0 := q.1
              have kc1_1_1 := q.2.1
              have kf1_1_0 := q.2.2.1
              have kf1_1_1 := q.2.2.2.1
              have kl1_1 := q.2.2.2.2.1
              have kn1_1 := q.2.2.2.2.2.1
              have km1_1 := q.2.2.2.2.2.2
              clear q
              have kz1 := h1.size
              (try simp only [World.size_alloc, World.size_setCell, World.size_drew] at kz1)
              have H1 := Lib.hid h1
              clear h1
              by_cases hFs : F = s
              · have YES : Hid (IsTxt s (-v) u) := txt_of_fmt (hF.trans hFs) hsz.out
                have n1 : (F.toList == s.toList) = true := by rw [hFs]; simp
                clear hF
                go_wp2
                refine bodyPost_ret (v := .tuple #[.agg #[.int .i64 (-v), .int .i64 u], .bool true]) ?_ rfl (prs_yes YES.out ?_)
                · simp [results, Tryd.results18, go_sem, kc1_0_0, kc1_0_1, kc1_1_0, kc1_1_1]
                · (show Rel _ _; repeat (first | with_reducible exact Rel.refl _ | with_reducible refine Rel.alloc ?_ _ | with_reducible refine Rel.setCell ?_ (by first | (simp; done) | (simp; omega)) _ | with_reducible refine Rel.drew ?_ | with_reducible refine Rel.trans ?_ H1.out | with_reducible refine Rel.trans ?_ H0.out))
              · have NO : Hid (∀ n d, ¬ IsTxt s n d) := fun n d h => by
                  have t := TP.out n d h
                  have e1 : n = -v := by rw [t.2.1, ← hasx.out, ← hvx.out, Int.neg_one_mul]
                  have e2 : d = u := by
                    rcases t.2.2 with ⟨_, hp⟩ | ⟨_, _, _, hv⟩
                    · rw [hpn.out] at hp; cases hp
                    · rw [← hv, ← hbsy.out, hux.out]
                  have := h.2
                  rw [e1, e2, hF] at this; exact hFs this
                have hl : ¬ F.toList = s.toList := fun h => hFs (toList_eq h)
                have n1 : (F.toList == s.toList) = false := by simpa using hl
                clear hF hFs
                go_wp2
                refine bodyPost_ret (v := .tuple #[.agg #[.int .i64 0, .int .i64 0], .bool false]) ?_ rfl (prs_no NO.out ?_)
                · simp [results, Tryd.results18, go_sem, kc1_0_0, kc1_0_1, kc1_1_0, kc1_1_1]
                · (show Rel _ _; repeat (first | with_reducible exact Rel.refl _ | with_reducible refine Rel.alloc ?_ _ | with_reducible refine Rel.setCell ?_ (by first | (simp; done) | (simp; omega)) _ | with_reducible refine Rel.drew ?_ | with_reducible refine Rel.trans ?_ H1.out | with_reducible refine Rel.trans ?_ H0.out))
          · have hpn := Lib.hid hp
            rw [hA.out, size_list] at hl
            have c1 : decide ((A : Int) < (t.size : Int)) = false := decide_eq_false (by omega)
            have c2 : decide (A < t.size) = false := decide_eq_false (by omega)
            have c3 : ¬ (A : Int) < (t.size : Int) := by omega
            clear hp hl
            go_wp2_with fail
            refine (NX.out _).mono ?_
            rintro e w1 ⟨v, rfl, v0, v1, hvx, rfl⟩
            replace hvx := Lib.hid (hvx trivial)
            have W2 : IntKind.i64.wrap (-v) = -v := IntWalk.i64_in _ ⟨by omega, by omega⟩
            obtain ⟨F, hF⟩ : ∃ F, fmtS (-v) 1 = F := ⟨_, rfl⟩
            have FM := Lib.hid fun w => rFormat_any (-v) 1 w (by omega) (by omega) (by omega) (by omega)
            unfold StrRes at FM
            rw [hF] at FM
            go_wp2_with fail
            refine (FM.out _).mono ?_
            rintro e w1 ⟨rfl, h1⟩
            have q := keep2 h1 (b := w.heap.size) (by first | (simp; done) | (simp; omega) | omega)
            have kc1_0_0 := q.1
            have kc1_0_1 := q.2.1
            have kf1_0_0 := q.2.2.1
            have kf1_0_1 := q.2.2.2.1
            have kl1_0 := q.2.2.2.2.1
            have kn1_0 := q.2.2.2.2.2.1
            have km1_0 := q.2.2.2.2.2.2
            clear q
            have q := keep2 h1 (b := w.heap.size + 1) (by first | (simp; done) | (simp; omega) | omega)
            have kc1_1_0 := q.1
            have kc1_1_1 := q.2.1
            have kf1_1_0 := q.2.2.1
            have kf1_1_1 := q.2.2.2.1
            have kl1_1 := q.2.2.2.2.1
            have kn1_1 := q.2.2.2.2.2.1
            have km1_1 := q.2.2.2.2.2.2
            clear q
            have kz1 := h1.size
            (try simp only [World.size_alloc, World.size_setCell, World.size_drew] at kz1)
            have H1 := Lib.hid h1
            clear h1
            by_cases hFs : F = s
            · have YES : Hid (IsTxt s (-v) 1) := txt_of_fmt (hF.trans hFs) hsz.out
              have n1 : (F.toList == s.toList) = true := by rw [hFs]; simp
              clear hF
              go_wp2
              refine bodyPost_ret (v := .tuple #[.agg #[.int .i64 (-v), .int .i64 1], .bool true]) ?_ rfl (prs_yes YES.out ?_)
              · simp [results, Tryd.results18, go_sem, kc1_0_0, kc1_0_1, kc1_1_0, kc1_1_1]
              · (show Rel _ _; repeat (first | with_reducible exact Rel.refl _ | with_reducible refine Rel.alloc ?_ _ | with_reducible refine Rel.setCell ?_ (by first | (simp; done) | (simp; omega)) _ | with_reducible refine Rel.drew ?_ | with_reducible refine Rel.trans ?_ H1.out | with_reducible refine Rel.trans ?_ H0.out))
            · have NO : Hid (∀ n d, ¬ IsTxt s n d) := fun n d h => by
                have t := TP.out n d h
                have e1 : n = -v := by rw [t.2.1, ← hasx.out, ← hvx.out, Int.neg_one_mul]
                have e2 : d = 1 := by
                  rcases t.2.2 with ⟨e, _⟩ | ⟨_, hp, _⟩
                  · exact e
                  · rw [hpn.out] at hp; cases hp
                have := h.2
                rw [e1, e2, hF] at this; exact hFs this
              have hl : ¬ F.toList = s.toList := fun h => hFs (toList_eq h)
              have n1 : (F.toList == s.toList) = false := by simpa using hl
              clear hF hFs
              go_wp2
              refine bodyPost_ret (v := .tuple #[.agg #[.int .i64 0, .int .i64 0], .bool false]) ?_ rfl (prs_no NO.out ?_)
              · simp [results, Tryd.results18, go_sem, kc1_0_0, kc1_0_1, kc1_1_0, kc1_1_1]
              · (show Rel _ _; repeat (first | with_reducible exact Rel.refl _ | with_reducible refine Rel.alloc ?_ _ | with_reducible refine Rel.setCell ?_ (by first | (simp; done) | (simp; omega)) _ | with_reducible refine Rel.drew ?_ | with_reducible refine Rel.trans ?_ H1.out | with_reducible refine Rel.trans ?_ H0.out))

theorem ParseFraction_any (s : ByteArray) (w : World) (hs : s.size ≤ 140737488355328) : Calls Tryd.prog 18 #[.string s] w (PrsRes s w) := by
  have h1 := rst_le s
  have h2 := ahs_len (rstS s).data.toList
  rw [size_list] at h2
  exact PF_core s _ _ _ _ _ _ w hs (by omega) (by simp; omega) (by simp; omega) rfl rfl rfl rfl (by omega) rfl rfl

end Go.Proofs.YtfdajdlbkdfhoaaDoor

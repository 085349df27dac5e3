/- Lemmas, each as it is printed; no conditions but those printed. -/
import Derived.Test.YthmlhheceihcbaaGreatDoorPB19
import Derived.Test.YthmlhheceihcbaaGreatDoorPB39
import Derived.Deep.AppendLies
namespace Go.Proofs.YthmlhheceihcbaaGreatDoor
set_option maxHeartbeats 16000000
open Go.RowKit Cal Str Tok Frac Txt Tree Go.Proofs.Tryz
attribute [local go_sem] calmUpon
set_option linter.unusedVariables false
set_option linter.unusedSimpArgs false
def RWrd (b G : Nat) (tk : List Tk) (E : Int) (l : List (List UInt8 × Int)) (s : Pt) (w : World) (e : Ending) (w' : World) : Prop := e = .returned (.int .i64 (wrdT tk l s)) /\ Rdr w' b G tk E (wrdP tk l s) /\ Ro b w w'
theorem tabI_le (s : ByteArray) : ∀ {l : List (List UInt8 × Int)}, (∀ p ∈ l, 0 <= p.2 /\ p.2 <= 100) -> 0 <= tabI l s /\ tabI l s <= 100
 | [], _ => by unfold tabI; omega
 | p :: l, h => by
  unfold tabI; split
  ·exact h p (by simp)
  ·exact tabI_le s (fun q hq => h q (by simp [hq]))
set_option maxRecDepth 20000 in
theorem rof_any (b G : Nat) (tk : List Tk) (E z : Int) (l : List (List UInt8 × Int)) (s : Pt) (w : World) (h : Rdr w b G tk E s) (hT : TksOk tk) (hz : z = 1 /\ l = kndL \/ z = 2 /\ l = benL \/ z = 3 /\ l = modL) :
    Calls prog 83 #[.pointer (some ⟨b, 0, none⟩), .int .i64 z] w (RWrd b G tk E l s w) := by
  have HP := Hj h;have KD := rkind_any b G tk E s 1 w h (by decide);have hlen := hT.len;unfold BRes at KD;unfold RWrd;by_cases hk : pkK tk s = 1
  · have ek : (pkK tk s == 1) = true := by rw [beq_iff_eq]; exact hk
    obtain ⟨ho, hi⟩ := pkK_some (tk := tk) (s := s) (by omega);obtain ⟨t, cap, ht, c0, -, q1, -⟩ := rdr_at h hi;have c1 := h.c1;obtain ⟨N, hN⟩ : ∃ N, tabI l t.T = N := ⟨_, rfl⟩;obtain ⟨x, hx⟩ : ∃ x, tabI kndL t.T = x := ⟨_, rfl⟩;obtain ⟨y, hy⟩ : ∃ x, tabI benL t.T = x := ⟨_, rfl⟩;obtain ⟨u, hu⟩ : ∃ x, tabI modL t.T = x := ⟨_, rfl⟩
    have hNz : 0 <= N /\ (z = 1 /\ N = x \/ z = 2 /\ N = y \/ z = 3 /\ N = u) := by
      rcases hz with ⟨rfl, rfl⟩ | ⟨rfl, rfl⟩ | ⟨rfl, rfl⟩ <;> refine ⟨?_, ?_⟩ <;> first | omega | (rw [<- hN]; exact (tabI_le _ (by decide)).1)
    have hO : wrdO tk l s = !(N == 0) := by unfold wrdO; rw [ek, (pk_tok ho ht).2, hN]; rfl
    have K1 := Hj fun w => rKind_any t.T w
    have K2 := Hj fun w => rBenefit_any t.T w
    have K3 := Hj fun w => rMode_any t.T w
    rw [hx] at K1;rw [hy] at K2;rw [hu] at K3
    have hTl : wrdT tk l s = N := by unfold wrdT; rw [hO, (pk_tok ho ht).2, hN]; by_cases e : N = 0 <;> simp [e]
    have hPl : wrdP tk l s = if N = 0 then s.no else s.adv := by unfold wrdP; rw [hO]; by_cases e : N = 0 <;> simp [e]
    obtain ⟨p, hp⟩ : ∃ p, wrdP tk l s = p := ⟨_, rfl⟩;rw [hTl, hp];rw [hp] at hPl;have HPL := Hj hPl;rw [ek] at KD;obtain ⟨n, hn⟩ : ∃ n, tk.length = n := ⟨_, rfl⟩;have HI := Hj hi;rw [hn] at c0 hi hlen;obtain ⟨i, hi'⟩ : ∃ i, s.i = i := ⟨_, rfl⟩;rw [hi'] at c1 hi q1;have HII := Hj hi';have ii : (i : Int) < (n : Int) := by omega
    have wi : IntKind.i64.wrap ((i : Int) + 1) = (i : Int) + 1 := IntWalk.i64_in _ ⟨by omega, by omega⟩;clear h ht hk hi' hn hN hx hy hu hO hTl hPl hz hp;go_enter func83, ntmps83;go_wp2_with fail;refine KD.mono ?_;rintro e w1 ⟨rfl, h1⟩;have k0 := h1.cell c0;have k1 := h1.cell c1;have kq := h1.cell q1;go_wp2_with fail;refine wrd (fun w2 h2 => ?_);have R2 := Hj (h1.trans h2);clear h1 h2 k0 k1 kq;go_wp2_with fail;refine (K1.out _).mono ?_;rintro e w3 ⟨rfl, rfl⟩;go_wp2_with fail;refine (K2.out _).mono ?_;rintro e w3 ⟨rfl, rfl⟩;go_wp2_with fail;refine (K3.out _).mono ?_;rintro e w3 ⟨rfl, rfl⟩;have P2 := Hj (HP.out.rel R2.out);have b1 := P2.out.c1;have f1 := P2.out.f1;have hb := P2.out.lt;have hb2 := Nat.ne_of_lt hb;rw [HII.out] at b1;obtain ⟨N0, hNz⟩ := hNz;by_cases hN : N = 0
    · have e0 : decide (0 < N) = false := dF (by omega)
      rcases hNz with ⟨rfl, rfl⟩ | ⟨rfl, rfl⟩ | ⟨rfl, rfl⟩ <;>
      (go_wp2_with fail
       refine (rstop_any b G tk E s _ (P2.out.rel ((Rel.refl _).alloc _))).mono ?_;unfold RUn;rintro e w4 ⟨⟨v, rfl⟩, hP, h4⟩;have HP4 := Hj hP;have R4 := Hj ((Ro.of (R2.out.alloc _)).trans h4);clear hP h4;go_wp2;go_ret;rw [HPL.out, if_pos hN]
       exact ⟨by rw [hN]; rfl, HP4.out, R4.out⟩)
    · have e0 : decide (0 < N) = true := dT (by omega)
      rcases hNz with ⟨rfl, rfl⟩ | ⟨rfl, rfl⟩ | ⟨rfl, rfl⟩ <;>
      (go_wp2
       go_ret;rw [HPL.out, if_neg hN]
       exact ⟨rfl, HII.out ▸ (P2.out.adv HI.out).rel ((Rel.refl _).alloc _), ((Ro.of R2.out).set 1 _).alloc _⟩)
  · have ek : (pkK tk s == 1) = false := by rw [zn]; exact hk
    have hO : wrdO tk l s = false := by unfold wrdO; rw [ek]; rfl
    unfold wrdT wrdP;rw [hO, if_neg (by simp), if_neg (by simp)];rw [ek] at KD;clear h hO ek hk;go_enter func83, ntmps83;go_wp2_with fail;refine KD.mono ?_;rintro e w1 ⟨rfl, h1⟩;have R1 := Hj h1;clear h1 KD;go_wp2_with fail;refine (rstop_any b G tk E s _ (HP.out.rel R1.out)).mono ?_;unfold RUn;rintro e w4 ⟨⟨v, rfl⟩, hP, h4⟩;have HP4 := Hj hP;have R4 := Hj ((Ro.of R1.out).trans h4);clear hP h4;go_wp2;go_ret;exact ⟨rfl, HP4.out, R4.out⟩
section
variable {b G : Nat} {tk : List Tk} {E : Int} {w0 w : World} {s : Pt}
theorem x_of (hT : TksOk tk) (h : RX b G tk E w0 s w) (z : Int) (l : List (List UInt8 × Int)) (hz : z = 1 /\ l = kndL \/ z = 2 /\ l = benL \/ z = 3 /\ l = modL) : Calls prog 83 #[.pointer (some ⟨b, 0, none⟩), .int .i64 z] w fun e w' => e = .returned (.int .i64 (wrdT tk l s)) /\ RX b G tk E w0 (wrdP tk l s) w' := by
 refine (rof_any b G tk E z l s w h.P hT hz).mono ?_;rintro e w' ⟨h1, h2, h3⟩;exact ⟨h1, h2, h.R.trans h3, h.hb, h.hG⟩
theorem x_expr (hT : TksOk tk) (hH : TkHd tk) (h : RX b G tk E w0 s w) : Calls prog 123 #[.pointer (some ⟨b, 0, none⟩), .int .i64 0] w fun e w' => ∃ t xa xc, e = .returned (.agg #[.int .i64 t.op, .int .i64 t.va, .int .i64 t.vb, .int .i64 t.dm, .string t.nm, .slice xa t.cnt xc]) /\ ((pq tk s).2.ok = true -> t = (pq tk s).1 /\ ∀ P : Nat -> Prop, (∀ q, w.heap.size <= q -> P q) -> TxB P w' (t, .slice xa t.cnt xc)) /\ RX b G tk E w0 (pq tk s).2 w' := by
 have hf : 10 * rem tk s + cc 0 <= 10 * tk.length + 8 := by have := rem_le tk s; unfold cc; simp only [if_true]; omega
 refine (rread_all b G tk E hT hH (10 * tk.length + 8) _ (Nat.le_refl _) 0 (by decide) w s h.P hf).mono ?_;rintro e w' ⟨t, x, h1, h2, h3, h4, h5⟩;obtain ⟨xa, xc, rfl⟩ := kids_slice (kidsB_to h2);exact ⟨t, xa, xc, h1, fun hk => ⟨h3 hk, fun P hP => TxB.got h2 (by rw [h3 hk]; exact pq_size hT h.P.le) hP⟩, h4, h.R.trans h5, h.hb, h.hG⟩
end
def RCl (b G : Nat) (tk : List Tk) (E : Int) (wa : World) (BO N : Nat) (r : Ver × Pt) (e : Ending) (w' : World) : Prop := (∃ v, e = .returned v) /\ RX b G tk E wa r.2 w' /\ ∃ m', Blk w' BO 48 (verC m') /\ (r.2.ok = true -> m'.pl = r.1 /\ ClS b wa w' BO (N + 1) m')
theorem c_al {b G : Nat} {tk : List Tk} {E : Int} {w0 w : World} {s : Pt} {f : FuncId} {ar : Array Value} {Q : Ending -> World -> Prop} {c : Array Value} {T : TypeId} (hx : RX b G tk E w0 s w)
  (h : ∀ X, Blk X w.heap.size T c.toList -> RX b G tk E X s X -> Ro b w0 X -> Calls prog f ar X Q) : Calls prog f ar (w.alloc (.cells c T)) Q := h _ (Blk.new w T c) (hx.al _).re (hx.al _).R
theorem c_p6 {b G : Nat} {tk : List Tk} {E : Int} {w0 w : World} {s : Pt} {f : FuncId} {ar : Array Value} {Q : Ending -> World -> Prop} {T : TypeId} {l : List Value} {g i : Nat} {u0 u1 u2 u3 u4 u5 : Value} (hx : RX b G tk E w0 s w) (hB : Blk w g T l) (hg : w0.heap.size <= g) (hb : g ≠ b)
  (h : ∀ X, Blk X g T ((((((l.set i u0).set (i + 1) u1).set (i + 2) u2).set (i + 3) u3).set (i + 4) u4).set (i + 5) u5) -> RX b G tk E X s X -> Ro b w0 X -> Ro g w X -> Calls prog f ar X Q) : Calls prog f ar ((((((w.setCell ⟨g, i, none⟩ u0).setCell ⟨g, i + 1, none⟩ u1).setCell ⟨g, i + 2, none⟩ u2).setCell ⟨g, i + 3, none⟩ u3).setCell ⟨g, i + 4, none⟩ u4).setCell ⟨g, i + 5, none⟩ u5) Q :=
 h _ ((((((hB.set _ _).set _ _).set _ _).set _ _).set _ _).set _ _) (hx.p6 hg i).re (hx.p6 hg i).R (Ro.p6 i)
theorem pq_ok {tk : List Tk} {s : Pt} (h : (pq tk s).2.ok = true) : s.ok = true := (pe_beh tk (10 * tk.length + 8) 0 .no s (by unfold md; decide)).2.1 h
def tz (P : Program) (e : TypeId) : Option (Option Value × Nat × Nat) := (P.info? e).map fun i => (i.zero, i.size, i.bytes)
theorem wl_app {P : Program} {w W : World} {ops : Array Oper} {rest : List Oper} {o : Oper} {a : Act} {Q : Exit -> Act -> World -> Prop} {t e Ty : TypeId} {base size bytes n c g : Nat} {z v : Value} {xs : List Value} {news : Array Value} {s x : Operand}
  (ti : tz P e = some (some z, size, bytes)) (hown : w.ownsRow base e size v n xs) (hW : w = W.alloc (.cells news Ty)) (hn : n <= 100000) (hbase : base <= W.heap.size)
  (h : ∀ g2 cap w', w'.ownsRow base e size (.slice (some ⟨g2, 0, none⟩) (n + 1) cap) (n + 1) (xs ++ news.toList) -> w.grownBy w' v.ownBlock -> (v.ownBlock = some g2 \/ g2 = g + 1) -> wpList P ops Q rest (a.put o.dst (.slice (some ⟨g2, 0, none⟩) (n + 1) cap)) w')
  (hgd : o.guard = none := by rfl) (ho : o.op = .call { callee := .builtin .append, args := #[s, x], argTypes := #[t, t] } := by rfl) (ht : P.underlying t = some (.slice e) := by rfl) (hs : a.eval s = v := by rfl) (hx : a.eval x = .slice (some ⟨g, 0, none⟩) 1 c := by rfl) (hg : W.heap.size = g := by simp)
  (hl : news.toList.length = size := by rfl) (h1 : (news.toList.all fun u => u.oneCell') = true := by rfl) (hb : bytes <= 1000 := by decide) (hz : z.cells.size = size := by rfl) (hsz : 0 < size := by decide) : wpList P ops Q (o :: rest) a w := by
 obtain ⟨i, hi, hxx⟩ := Option.map_eq_some_iff.1 ti;simp only [Prod.mk.injEq] at hxx;refine wpList_append_lies w hgd s x t ho base e i z size bytes ht hi hxx.1 hxx.2.1 hxx.2.2 hz hsz v n xs hs hown ⟨g, 0, none⟩ 1 c news.toList hx (by omega) ?_ (List.all_eq_true.1 h1) (by decide) (by unfold maxLen; omega) ?_ (by subst hW; simp; omega) (g + 1) (by subst hW; simp; omega) (fun g cap w' h1 h2 h3 _ => h g cap w' h1 h2 h3)
 ·subst hW; exact new_cells2 W news Ty hg.symm
 ·have : (n + 1) * bytes <= 100001 * 1000 := Nat.mul_le_mul (by omega) hb;omega
end Go.Proofs.YthmlhheceihcbaaGreatDoor

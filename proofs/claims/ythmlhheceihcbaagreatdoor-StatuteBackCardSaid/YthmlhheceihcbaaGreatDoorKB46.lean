/- Lemmas, each as it is printed; no conditions but those printed. -/
import Derived.Test.YthmlhheceihcbaaGreatDoorKB43
import Derived.Test.YthmlhheceihcbaaGreatDoorKB38
namespace Go.Proofs.YthmlhheceihcbaaGreatDoor
set_option maxHeartbeats 16000000
open Go.RowKit Cal Str Tok Frac Txt Tree Go.Proofs.Tryz
attribute [local go_sem] calmUpon
set_option linter.unusedVariables false
set_option linter.unusedSimpArgs false
structure Rdr (w : World) (b G : Nat) (tk : List Tk) (E : Int) (s : Pt) : Prop where
 lt : b < w.heap.size
 le : s.i <= tk.length
 tok : ∃ ad cap, w.cell? ⟨b, 0, none⟩ = some (.slice ad tk.length cap) /\ (0 < tk.length -> ad = some ⟨G, 0, none⟩)
 toks : Toks w b G tk
 c1 : w.cell? ⟨b, 1, none⟩ = some (.int .i64 (s.i : Int))
 c2 : w.cell? ⟨b, 2, none⟩ = some (.int .i64 E)
 c3 : w.cell? ⟨b, 3, none⟩ = some (.bool (!s.ok))
 f1 : w.frozen? ⟨b, 1, none⟩ = false
 f3 : w.frozen? ⟨b, 3, none⟩ = false
theorem Rdr.rel {w w' : World} {b G : Nat} {tk : List Tk} {E : Int} {s : Pt} (h : Rdr w b G tk E s) (r : Rel w w') : Rdr w' b G tk E s := by
 obtain ⟨ad, cap, h1, h2⟩ := h.tok;exact ⟨Nat.lt_of_lt_of_le h.lt r.size, h.le, ⟨ad, cap, r.cell h1, h2⟩, h.toks.ro (Ro.of r), r.cell h.c1, r.cell h.c2, r.cell h.c3, ((rcell r).2 b 1 h.lt).trans h.f1, ((rcell r).2 b 3 h.lt).trans h.f3⟩
theorem Rdr.other {w : World} {b G : Nat} {tk : List Tk} {E : Int} {s : Pt} (h : Rdr w b G tk E s) {g i : Nat} {v : Value} (hne : g ≠ b) (ht : Toks (w.setCell ⟨g, i, none⟩ v) b G tk) : Rdr (w.setCell ⟨g, i, none⟩ v) b G tk E s := by
 obtain ⟨ad, cap, h1, h2⟩ := h.tok;have oc : ∀ j, (w.setCell ⟨g, i, none⟩ v).cell? ⟨b, j, none⟩ = w.cell? ⟨b, j, none⟩ := fun j => World.cell?_setCell_other _ _ _ _ (fun e => hne (by injection e))
 exact ⟨by simpa [World.setCell] using h.lt, h.le, ⟨ad, cap, (oc 0).trans h1, h2⟩, ht, (oc 1).trans h.c1, (oc 2).trans h.c2, (oc 3).trans h.c3, by rw [World.frozen?_setCell]; exact h.f1, by rw [World.frozen?_setCell]; exact h.f3⟩
theorem Rdr.adv {w : World} {b G : Nat} {tk : List Tk} {E : Int} {s : Pt} (h : Rdr w b G tk E s) (hi : s.i < tk.length) : Rdr (w.setCell ⟨b, 1, none⟩ (.int .i64 ((s.i : Int) + 1))) b G tk E s.adv := by
 obtain ⟨ad, cap, h1, h2⟩ := h.tok;have oc : ∀ j, ¬ j = 1 -> (w.setCell ⟨b, 1, none⟩ (.int .i64 ((s.i : Int) + 1))).cell? ⟨b, j, none⟩ = w.cell? ⟨b, j, none⟩ := fun j hj => World.cell?_setCell_other _ _ _ _ (by intro e; injection e; omega)
 refine ⟨by simpa [World.setCell] using h.lt, hi, ⟨ad, cap, (oc 0 (by decide)).trans h1, h2⟩, h.toks.ro ((Ro.refl b w).set 1 _), ?_, (oc 2 (by decide)).trans h.c2, (oc 3 (by decide)).trans h.c3, by rw [World.frozen?_setCell]; exact h.f1, by rw [World.frozen?_setCell]; exact h.f3⟩;rw [World.cell?_setCell_same _ _ _ h.c1]; rfl
theorem Rdr.no {w : World} {b G : Nat} {tk : List Tk} {E : Int} {s : Pt} (h : Rdr w b G tk E s) : Rdr (w.setCell ⟨b, 3, none⟩ (.bool true)) b G tk E s.no := by
 obtain ⟨ad, cap, h1, h2⟩ := h.tok;have oc : ∀ j, ¬ j = 3 -> (w.setCell ⟨b, 3, none⟩ (.bool true)).cell? ⟨b, j, none⟩ = w.cell? ⟨b, j, none⟩ := fun j hj => World.cell?_setCell_other _ _ _ _ (by intro e; injection e; omega)
 refine ⟨by simpa [World.setCell] using h.lt, h.le, ⟨ad, cap, (oc 0 (by decide)).trans h1, h2⟩, h.toks.ro ((Ro.refl b w).set 3 _), (oc 1 (by decide)).trans h.c1, (oc 2 (by decide)).trans h.c2, ?_, by rw [World.frozen?_setCell]; exact h.f1, by rw [World.frozen?_setCell]; exact h.f3⟩;rw [World.cell?_setCell_same _ _ _ h.c3]; rfl
theorem accB_end {tk : List Tk} {x : List UInt8} {s : Pt} (h : s.ok = false \/ tk.length <= s.i) : accB tk x s = false := by
 have hn : tkAt tk s = none := by
  unfold tkAt
  rcases h with h | h
  ·rw [if_neg (by simp [h])]
  ·split
   ·exact List.getElem?_eq_none h
   ·rfl
 unfold accB; rw [hn]
def HdT (t : Tk) : Prop := (t.K = 2 \/ t.K = 3) -> ∃ c l, t.T.data.toList = c :: l /\ (dgb c = true \/ (c.toNat : Int) = 64)
def TkHd (tk : List Tk) : Prop := ∀ t ∈ tk, HdT t
theorem tokK_hd {s : ByteArray} {b : Nat} (h : tokK s b = 2 \/ tokK s b = 3) : ∃ hb : b < s.size, dgb s[b] = true \/ (s[b].toNat : Int) = 64 := by
 unfold tokK at h;by_cases hb : b < s.size
 ·refine ⟨hb, ?_⟩;rw [dif_pos hb] at h;by_cases h1 : low s[b] = true
  ·rw [if_pos h1] at h
   split at h <;> omega
  ·rw [if_neg h1] at h;by_cases h2 : dgb s[b] = true
   ·exact .inl h2
   ·rw [if_neg h2] at h;by_cases h3 : (s[b].toNat : Int) = 64
    ·exact .inr h3
    ·rw [if_neg h3] at h
     split at h <;> omega
 ·rw [dif_neg hb] at h; omega
theorem allF_hd (s : ByteArray) : ∀ (f a : Nat) (acc : List Tk), a <= s.size -> TkHd acc -> TkHd (allF s f a acc).1 := by
 intro f
 induction f with
 | zero => intro a acc ha h; exact h
 | succ f ih =>
  intro a acc ha h;simp only [allF];have hs := skp_le ha;by_cases h1 : skp s a = s.size
  ·rw [if_pos h1]; exact h
  ·rw [if_neg h1];by_cases h2 : tokK s (skp s a) = 0
   ·rw [if_pos h2]; intro t ht; simp at ht
   ·rw [if_neg h2];have hb : skp s a < s.size := by omega
    have hn := tokN_pos h2;have hle := tok_le hb;refine ih _ _ hle (fun t ht => ?_)
    rcases List.mem_append.1 ht with ht | ht
    ·exact h t ht
    ·obtain rfl : t = ⟨tokK s (skp s a), s.extract (skp s a) (skp s a + tokN s (skp s a)), (skp s a : Int)⟩ := by simpa using ht
     intro hk;obtain ⟨hb', hc⟩ := tokK_hd hk;refine ⟨s[skp s a], ((s.data.toList.drop (skp s a + 1)).take (tokN s (skp s a) - 1)), ?_, hc⟩;show (s.extract _ _).data.toList = _
     rw [ext_data, show skp s a + tokN s (skp s a) - skp s a = (tokN s (skp s a) - 1) + 1 by omega, drop_cons s _ hb, List.take_succ_cons]
theorem allR_hd (s : ByteArray) : TkHd (allR s).1 := by
 unfold allR;split
 ·exact allF_hd s _ 0 [] (Nat.zero_le _) (fun t ht => by simp at ht)
 ·intro t ht; simp at ht
def RRes (b G : Nat) (tk : List Tk) (E : Int) (r : Ex × Pt) (w : World) (e : Ending) (w' : World) : Prop :=
 ∃ t x, e = .returned (.agg #[.int .i64 t.op, .int .i64 t.va, .int .i64 t.vb, .int .i64 t.dm, .string t.nm, x]) /\ ExKidsB (fun g => w.heap.size <= g) t w' x /\ (r.2.ok = true -> t = r.1) /\ Rdr w' b G tk E r.2 /\ Ro b w w'
def RC (b G : Nat) (tk : List Tk) (E : Int) (m f : Nat) : Prop :=
 ∀ (w : World) (s : Pt), Rdr w b G tk E s -> 10 * rem tk s + cc m <= f -> Calls prog 123 #[.pointer (some ⟨b, 0, none⟩), .int .i64 (m : Int)] w (RRes b G tk E (pe tk f m .no s) w)
theorem bin_bad {tk : List Tk} {s : Pt} (h : s.ok = false) (l : List (List UInt8 × Int)) : binO tk s l = false /\ binT tk s l = 0 := bin_no (fun i p _ => accB_end (.inl h))
theorem pe_bad (tk : List Tk) {s : Pt} (h : s.ok = false) : ∀ f m a, md m -> (pe tk f m a s).2 = s := by
 intro f
 induction f with
 | zero => intro m a _; rfl
 | succ f ih =>
  intro m a hm;have A : ∀ x, accB tk x s = false := fun x => accB_end (.inl h)
  have I : ∀ m a, md m -> (pe tk f m a s).2 = s := ih;unfold md at hm
  rcases hm with rfl | rfl | rfl | rfl | rfl | rfl | rfl | rfl | rfl | rfl | rfl | rfl
  ·rw [pe_0, if_neg (by simp [A])]; exact I _ _ (by unfold md; decide)
  ·rw [pe_1, I 2 .no (by unfold md; decide)]; exact I _ _ (by unfold md; decide)
  ·rw [pe_11, if_neg (by simp [A])]
  ·rw [pe_2, I 3 .no (by unfold md; decide)]; exact I _ _ (by unfold md; decide)
  ·rw [pe_12, if_neg (by simp [A])]
  ·rw [pe_3, if_neg (by simp [A])]; exact I _ _ (by unfold md; decide)
  ·rw [pe_4, I 5 .no (by unfold md; decide), if_neg (by simp [bin_bad h])]; exact I _ _ (by unfold md; decide)
  ·rw [pe_5, I 6 .no (by unfold md; decide)]; exact I _ _ (by unfold md; decide)
  ·rw [pe_15, if_neg (by simp [bin_bad h])]
  ·rw [pe_6, I 7 .no (by unfold md; decide)]; exact I _ _ (by unfold md; decide)
  ·rw [pe_16, if_neg (by simp [bin_bad h])]
  ·rw [pe_7, if_neg (by simp [A]), if_neg (by simp [A]), if_neg (by simp [A]), if_neg (by simp [A]), if_neg (by simp [bin_bad h])];have hk : pkK tk s = 0 := by unfold pkK tkAt; rw [h]; rfl
   rw [if_neg (by rw [hk]; decide)];have hN : namO tk s = false := by unfold namO tkAt; rw [h]; rfl
   show namP tk s = s
   unfold namP; rw [if_neg (by simp [hN])]; exact no_no h
def zeroT : Ex := .mk 0 0 0 0 ⟨#[]⟩ 0 (fun _ => .no)
theorem zeroT_kids (P : Nat -> Prop) (w : World) : ExKidsB P zeroT w (.slice none 0 0) := ⟨⟨by decide, by decide, by decide, by decide, by decide, by decide, by decide, by decide, by decide⟩, by decide, none, 0, rfl, fun h => absurd h (by decide)⟩
theorem Rdr.eq {W Z : World} {b G : Nat} {tk : List Tk} {E : Int} {s : Pt} (h : Rdr W b G tk E s) (hs : W.heap.size <= Z.heap.size) (hb : Z.heap[b]? = W.heap[b]?) (hG : tk = [] \/ Z.heap[G]? = W.heap[G]?) : Rdr Z b G tk E s := by
 obtain ⟨ad, cap, h1, h2⟩ := h.tok;have oc : ∀ j, Z.cell? ⟨b, j, none⟩ = W.cell? ⟨b, j, none⟩ := fun j => World.cell?_of_block hb
 have of : ∀ j, Z.frozen? ⟨b, j, none⟩ = W.frozen? ⟨b, j, none⟩ := fun j => World.frozen?_of_block hb
 have tk2 : Toks Z b G tk := by
  rcases h.toks with e | ⟨hg, hne, hc⟩
  ·exact .inl e
  ·rcases hG with e | e
   ·exact .inl e
   ·exact .inr ⟨Nat.lt_of_lt_of_le hg hs, hne, fun i t ht => ⟨(World.cell?_of_block e).trans (hc i t ht).1, (World.cell?_of_block e).trans (hc i t ht).2.1, (World.cell?_of_block e).trans (hc i t ht).2.2⟩⟩
 exact ⟨Nat.lt_of_lt_of_le h.lt hs, h.le, ⟨ad, cap, (oc 0).trans h1, h2⟩, tk2, (oc 1).trans h.c1, (oc 2).trans h.c2, (oc 3).trans h.c3, (of 1).trans h.f1, (of 3).trans h.f3⟩
structure RX (b G : Nat) (tk : List Tk) (E : Int) (w0 : World) (s : Pt) (W : World) : Prop where
 P : Rdr W b G tk E s
 R : Ro b w0 W
 hb : b < w0.heap.size
 hG : tk = [] \/ G < w0.heap.size
section
variable {b G : Nat} {tk : List Tk} {E : Int} {w0 W X : World} {s : Pt}
theorem RX.st {s2 : Pt} (h : RX b G tk E w0 s W) (p : Rdr X b G tk E s2) (r : Ro b W X) : RX b G tk E w0 s2 X := ⟨p, h.R.trans r, h.hb, h.hG⟩
theorem RX.of (h : Rdr W b G tk E s) : RX b G tk E W s W := ⟨h, Ro.refl _ _, h.lt, h.toks.imp id fun h => h.1⟩
theorem RX.rel (h : RX b G tk E w0 s W) (r : Rel W X) : RX b G tk E w0 s X := ⟨h.P.rel r, h.R.trans (Ro.of r), h.hb, h.hG⟩
theorem RX.al (h : RX b G tk E w0 s W) (o : Obj) : RX b G tk E w0 s (W.alloc o) := h.rel ((Rel.refl _).alloc o)
theorem RX.re (h : RX b G tk E w0 s W) : RX b G tk E W s W := ⟨h.P, Ro.refl _ _, Nat.lt_of_lt_of_le h.hb h.R.size, h.hG.imp id fun e => Nat.lt_of_lt_of_le e h.R.size⟩
theorem RX.tr (h : RX b G tk E w0 s W) {wa : World} (r : Ro b wa w0) (hb : b < wa.heap.size) (hG : tk = [] \/ G < wa.heap.size) : RX b G tk E wa s W := ⟨h.P, r.trans h.R, hb, hG⟩
theorem RX.adv (h : RX b G tk E w0 s W) (hi : s.i < tk.length) : RX b G tk E w0 s.adv (W.setCell ⟨b, 1, none⟩ (.int .i64 ((s.i : Int) + 1))) := ⟨h.P.adv hi, h.R.set 1 _, h.hb, h.hG⟩
theorem RX.put (h : RX b G tk E w0 s W) {g : Nat} (hg : w0.heap.size <= g) (i : Nat) (u : Value) : RX b G tk E w0 s (W.setCell ⟨g, i, none⟩ u) :=
 ⟨h.P.eq (by simp) (Below.heap_setCell _ _ _ _ (by show b ≠ g; have := h.hb; omega)) (h.hG.imp id fun e => Below.heap_setCell _ _ _ _ (by show G ≠ g; omega)), h.R.setNew (p := ⟨g, i, none⟩) hg u, h.hb, h.hG⟩
theorem RX.p2 (h : RX b G tk E w0 s W) {g : Nat} (hg : w0.heap.size <= g) (i : Nat) {u0 u1 : Value} : RX b G tk E w0 s ((W.setCell ⟨g, i, none⟩ u0).setCell ⟨g, i + 1, none⟩ u1) := (h.put hg _ _).put hg _ _
theorem RX.p6 (h : RX b G tk E w0 s W) {g : Nat} (hg : w0.heap.size <= g) (i : Nat) {u0 u1 u2 u3 u4 u5 : Value} : RX b G tk E w0 s ((((((W.setCell ⟨g, i, none⟩ u0).setCell ⟨g, i + 1, none⟩ u1).setCell ⟨g, i + 2, none⟩ u2).setCell ⟨g, i + 3, none⟩ u3).setCell ⟨g, i + 4, none⟩ u4).setCell ⟨g, i + 5, none⟩ u5) := (((((h.put hg _ _).put hg _ _).put hg _ _).put hg _ _).put hg _ _).put hg _ _
theorem RX.grown {row : Option Nat} (h : RX b G tk E w0 s W) (hg : W.grownBy X row) (hrow : ∀ q, row = some q -> w0.heap.size <= q) : RX b G tk E w0 s X := by
 have h1 := h.hb;have h3 := h.R.size;have key : ∀ q, q < w0.heap.size -> X.heap[q]? = W.heap[q]? := fun q hq => hg.block q (by omega) (fun e => by have := hrow q e.symm; omega)
 exact ⟨h.P.eq hg.size (key b h1) (h.hG.imp id fun e => key G e), Ro.grown h.R hg hrow, h.hb, h.hG⟩
end
section
variable {b G : Nat} {tk : List Tk} {E : Int} {w0 w : World} {s : Pt}
end
section
variable {b G : Nat} {tk : List Tk} {E : Int} {w0 w W : World} {s : Pt}
theorem RX.at {fn : FuncId} {ar : Array Value} {r : Ex × Pt} (S : RX b G tk E w0 s w) (C : Calls prog fn ar w (RRes b G tk E r w)) (hb : Beh tk s r.2) : Calls prog fn ar w fun e X => ∃ t a xa xc s1, r = (a, s1) /\ e = .returned (.agg #[.int .i64 t.op, .int .i64 t.va, .int .i64 t.vb, .int .i64 t.dm, .string t.nm, .slice xa t.cnt xc]) /\ ExKidsB (fun q => w.heap.size <= q) t X (.slice xa t.cnt xc) /\ (s1.ok = true -> s.ok = true /\ t = a) /\ RX b G tk E w0 s1 X /\ Ro b w X /\ rem tk s1 <= rem tk s := by
 refine C.mono ?_;rintro e X ⟨t, x, h1, h2, h3, h4, h5⟩;obtain ⟨xa, xc, rfl⟩ := kids_slice (kidsB_to h2);exact ⟨t, _, xa, xc, _, rfl, h1, h2, fun h => ⟨hb.2.1 h, h3 h⟩, S.st h4 h5, h5, hb.rem⟩
theorem RC.at (n c : Nat) {z : Int} {f : Nat} (H : ∀ m, m <= 7 -> RC b G tk E m f) (S : RX b G tk E w0 s w) (hf : 10 * rem tk s + c <= f := by omega) (hz : z = (n : Int) := by rfl) (hn : n <= 7 := by decide) (hc : cc n = c := by rfl) : Calls prog 123 #[.pointer (some ⟨b, 0, none⟩), .int .i64 z] w fun e X => ∃ t a xa xc s1, pe tk f n .no s = (a, s1) /\ e = .returned (.agg #[.int .i64 t.op, .int .i64 t.va, .int .i64 t.vb, .int .i64 t.dm, .string t.nm, .slice xa t.cnt xc]) /\ ExKidsB (fun q => w.heap.size <= q) t X (.slice xa t.cnt xc) /\ (s1.ok = true -> s.ok = true /\ t = a) /\ RX b G tk E w0 s1 X /\ Ro b w X /\ rem tk s1 <= rem tk s := by
 subst hc hz;exact S.at (H n hn w s S.P hf) (pe_beh tk f n .no s (by unfold md; omega))
end
set_option maxRecDepth 20000 in
theorem rexpr_bad (b G : Nat) (tk : List Tk) (E : Int) (s : Pt) (n : Int) (w : World) (h : Rdr w b G tk E s) (ho : s.ok = false) (a : Ex) : Calls prog 123 #[.pointer (some ⟨b, 0, none⟩), .int .i64 n] w (RRes b G tk E (a, s) w) := by
 have S := RX.of h;have c3 := h.c3;have hlt := h.lt;rw [ho] at c3;clear h;go_enter func123, ntmps123;refine gw ?_;exact bodyPost_ret (res6 rfl rfl (Blk.new w _ _)) rfl ⟨zeroT, _, rfl, zeroT_kids _ _, fun h => (by rw [ho] at h; cases h), (S.al _).P, (S.al _).R⟩
theorem RC.of {b G m f : Nat} {tk : List Tk} {E : Int} (hm : md m) (h : ∀ w s, s.ok = true -> RX b G tk E w s w -> w.cell? ⟨b, 3, none⟩ = some (.bool false) -> b < w.heap.size -> 10 * rem tk s + cc m <= f -> Calls prog 123 #[.pointer (some ⟨b, 0, none⟩), .int .i64 (m : Int)] w (RRes b G tk E (pe tk f m .no s) w)) : RC b G tk E m f := by
 intro w s hP hf;by_cases ho : s.ok = true
 ·have c3 := hP.c3;rw [ho] at c3;exact h w s ho (.of hP) c3 hP.lt hf
 ·have := rexpr_bad b G tk E s m w hP (by simpa using ho) (pe tk f m .no s).1
  rwa [show ((pe tk f m .no s).1, s) = pe tk f m .no s from Prod.ext rfl (pe_bad tk (by simpa using ho) f m .no hm).symm] at this
end Go.Proofs.YthmlhheceihcbaaGreatDoor

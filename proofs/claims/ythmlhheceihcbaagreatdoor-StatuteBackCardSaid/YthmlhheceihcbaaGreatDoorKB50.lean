/- Lemmas, each as it is printed; no conditions but those printed. -/
import Derived.Test.YthmlhheceihcbaaGreatDoorKB49
import Derived.Test.YthmlhheceihcbaaGreatDoorKB47
import Derived.Test.YthmlhheceihcbaaGreatDoorKB11
namespace Go.Proofs.YthmlhheceihcbaaGreatDoor
set_option maxHeartbeats 16000000
open Go.RowKit Cal Str Tok Frac Txt Tree Go.Proofs.Tryz
attribute [local go_sem] calmUpon
set_option linter.unusedVariables false
set_option linter.unusedSimpArgs false
theorem it_any (a : Int) (w : World) (ht : TabW w) (h0 : 0 <= a) (h1 : a <= 100000) : Calls prog 42 #[.int .i64 a] w fun e w' => e = .returned (.string (fmtS a 1)) /\ Rel w w' := by
 rw [fmt_1 (valid_one h0 h1) rfl]; exact itoa_any a w ht (by omega) (by omega)
theorem SB.new {w0 w : World} (r : Rel w0 w) : SB w0 w.heap.size ⟨#[]⟩ (w.alloc (.cells #[.pointer none, .slice none 0 0] 98)) :=
 ⟨.inl ⟨Below.size r, _, heap_alloc_new w _, World.ownsRow_nil _ _ _ _, by simp [Value.ownBlock]⟩, r.alloc _⟩
theorem Blk.nb {W X : World} {b g : Nat} {T : TypeId} {l : List Value} (h : Blk W g T l) (m : Nb b W X) (hb : g ≠ b) (hT : T ≠ 5 := by decide) : Blk X g T l := h.keep (m.2 g h.lt hb fun c f e => by
 have := h.symm.trans e
 injection this with this
 injection this with _ this _
 exact hT this)
structure F2 (w : World) (b q g : Nat) (xl vl : List Value) (T : ByteArray) (W : World) : Prop where
 S : SB w b T W
 X : Blk W q 28 xl
 V : Blk W g 48 vl
 nq : q ≠ b
 ng : g ≠ b
section
variable {w W X : World} {b q g : Nat} {xl vl : List Value} {T U : ByteArray}
theorem F2.ln (h : F2 w b q g xl vl T W) (S : SB w b U X) (m : Nb b W X) : F2 w b q g xl vl U X := ⟨S, h.X.nb m h.nq, h.V.nb m h.ng, h.nq, h.ng⟩
theorem F2.rel (h : F2 w b q g xl vl T W) (r : Rel W X) : F2 w b q g xl vl T X := ⟨h.S.rel r, h.X.rel r, h.V.rel r, h.nq, h.ng⟩
end
theorem vnum_of {m : VerM} (h : m.pl.valid = true) : (1 <= m.unit /\ m.unit <= 100000) /\ (∀ p ∈ m.cr, 0 <= p.2 /\ p.2 <= 73049) /\ (∀ p ∈ m.se, 1900 <= p.1 /\ p.1 <= 2099) := by
 unfold VerM.pl Ver.valid at h;simp only [Bool.and_eq_true, List.all_eq_true] at h;obtain ⟨⟨-, -, hu⟩, -, a3, a4, -⟩ := h;refine ⟨bw_bd hu, fun p hp => ?_, fun p hp => ?_⟩
 ·have := a3 p hp;simp only [crV, Bool.and_eq_true] at this;exact bw_bd this.2
 ·have := a4 p hp;simp only [seV, Bool.and_eq_true] at this;exact bw_bd this.1
theorem tp_at {w : World} {t : Ex} {x : Value} (ht : TabW w) (h : TxB (fun _ => True) w (t, x)) (f : t.form = true /\ t.size <= 60) : ∃ xa xc T, x = .slice xa t.cnt xc /\ t.put 0 = T /\ T.size <= 4200 /\ Hid (∀ w', Rel w w' -> Calls prog 48 #[.agg #[.int .i64 t.op, .int .i64 t.va, .int .i64 t.vb, .int .i64 t.dm, .string t.nm, .slice xa t.cnt xc], .int .i64 0] w' (fun e w1 => e = .returned (.string T) /\ Rel w' w1)) := by
 obtain ⟨xa, xc, e⟩ := kids_slice (kidsB_to h.1);simp only at e;subst e;exact ⟨xa, xc, _, rfl, rfl, put_size f.1 f.2 0, Hj fun w' r => text_all t f.1 f.2 _ w' 0 (Hj (ht.rel r)) (kids_rel (kidsB_to h.1) r) (by decide) (by decide)⟩
theorem F2.al {w W : World} {b q g : Nat} {xl vl : List Value} {T : ByteArray} (h : F2 w b q g xl vl T W) (o : Obj) : F2 w b q g xl vl T (W.alloc o) := h.rel ((Rel.refl W).alloc o)
theorem SB.lt {w0 w : World} {b : Nat} {l : ByteArray} (h : SB w0 b l w) : b < w.heap.size := by rcases h.I with ⟨-, v, h, -⟩ | ⟨-, v, h, -⟩ <;> exact (Array.getElem?_eq_some_iff.1 h).1
theorem byW (l : List (List UInt8 × Int)) (n g c : Nat) (z : Int) (s : ByteArray) (w : World) (hT : TabAt w g l) (hn : l.length = n) (hl : n <= 100) (hs : (⟨(nmI l z).toArray⟩ : ByteArray) = s) :
  Calls prog 44 #[.slice (some ⟨g, 0, none⟩) n c, .int .i64 z] w fun e w' => e = .returned (.string s) /\ Rel w w' := by
 subst hn hs;exact byNumber_any l g c z w hT hl
theorem ln_cr1 (T W U : ByteArray) : T ++ lnT [⟨#[32, 32, 32, 32, 99, 114, 101, 100, 105, 116]⟩, W, ⟨#[108, 105, 109, 105, 116]⟩, U ++ ⟨#[59]⟩] = ((T ++ (⟨#[32, 32, 32, 32, 99, 114, 101, 100, 105, 116, 32]⟩ ++ W)) ++ (⟨#[32, 108, 105, 109, 105, 116, 32]⟩ ++ U)) ++ ⟨#[59, 10]⟩ := ba_ext (by simp [lnT, jn, spB])
theorem ln_cr2 (T W : ByteArray) : T ++ lnT [⟨#[32, 32, 32, 32, 99, 114, 101, 100, 105, 116]⟩, W ++ ⟨#[59]⟩] = (T ++ (⟨#[32, 32, 32, 32, 99, 114, 101, 100, 105, 116, 32]⟩ ++ W)) ++ ⟨#[59, 10]⟩ := ba_ext (by simp [lnT, jn, spB])
theorem ln_se (T U F : ByteArray) : T ++ lnT [⟨#[32, 32, 32, 32, 105, 110, 100, 101, 120]⟩, U, F ++ ⟨#[59]⟩] = T ++ ((((⟨#[32, 32, 32, 32, 105, 110, 100, 101, 120, 32]⟩ ++ U) ++ ⟨#[32]⟩) ++ F) ++ ⟨#[59, 10]⟩) := ba_ext (by simp [lnT, jn, spB])
theorem ln_le (T N E : ByteArray) : T ++ lnT [⟨#[32, 32, 32, 32, 108, 101, 116]⟩, N, ⟨#[61]⟩, E ++ ⟨#[59]⟩] = T ++ ((((⟨#[32, 32, 32, 32, 108, 101, 116, 32]⟩ ++ N) ++ ⟨#[32, 61, 32]⟩) ++ E) ++ ⟨#[59, 10]⟩) := ba_ext (by simp [lnT, jn, spB])
theorem ln_gr (T W E F : ByteArray) : T ++ lnT [⟨#[32, 32, 32, 32, 103, 114, 97, 110, 116]⟩, W, ⟨#[105, 102]⟩, E, ⟨#[112, 97, 121]⟩, F ++ ⟨#[59]⟩] = T ++ ((((((⟨#[32, 32, 32, 32, 103, 114, 97, 110, 116, 32]⟩ ++ W) ++ ⟨#[32, 105, 102, 32]⟩) ++ E) ++ ⟨#[32, 112, 97, 121, 32]⟩) ++ F) ++ ⟨#[59, 10]⟩) := ba_ext (by simp [lnT, jn, spB])
theorem ln_re (T W E : ByteArray) : T ++ lnT [⟨#[32, 32, 32, 32, 114, 101, 100, 117, 99, 101]⟩, W, ⟨#[98, 121]⟩, E ++ ⟨#[59]⟩] = T ++ ((((⟨#[32, 32, 32, 32, 114, 101, 100, 117, 99, 101, 32]⟩ ++ W) ++ ⟨#[32, 98, 121, 32]⟩) ++ E) ++ ⟨#[59, 10]⟩) := ba_ext (by simp [lnT, jn, spB])
theorem ln_hd (T D W U : ByteArray) : (T ++ lnT [(⟨#[32, 32, 102, 114, 111, 109, 32, 64]⟩ ++ D) ++ ⟨#[32, 123]⟩]) ++ lnT [⟨#[32, 32, 32, 32, 114, 111, 117, 110, 100]⟩, W, U ++ ⟨#[59]⟩] = T ++ ((((((⟨#[32, 32, 102, 114, 111, 109, 32, 64]⟩ ++ D) ++ ⟨#[32, 123, 10, 32, 32, 32, 32, 114, 111, 117, 110, 100, 32]⟩) ++ W) ++ ⟨#[32]⟩) ++ U) ++ ⟨#[59, 10]⟩) := ba_ext (by simp [lnT, jn, spB])
theorem ln_st (T N U : ByteArray) : T ++ lnT [⟨#[115, 116, 97, 116, 117, 116, 101]⟩, N, ⟨#[99, 117, 114, 114, 101, 110, 99, 121]⟩, U, ⟨#[123]⟩] = T ++ (((((⟨#[115, 116, 97, 116, 117, 116, 101, 32]⟩ ++ N) ++ ⟨#[32, 99, 117, 114, 114, 101, 110, 99, 121, 32]⟩) ++ U) ++ ⟨#[32, 123, 10]⟩)) := ba_ext (by simp [lnT, jn, spB])
theorem ln_v (T : ByteArray) : T ++ lnT [⟨#[32, 32, 125]⟩] = T ++ ⟨#[32, 32, 125, 10]⟩ := ba_ext (by simp [lnT, jn, spB])
theorem ln_s (T : ByteArray) : T ++ lnT [⟨#[125]⟩] = T ++ ⟨#[125, 10]⟩ := ba_ext (by simp [lnT, jn, spB])
set_option maxRecDepth 20000 in
theorem sFormat_yes (s : StaM) (w : World) (hV : StaAt w s) (hv : s.pl.valid = true) (ht : TabW w) (HV : Hid (∀ w', Rel w w' -> Calls prog 29 #[s.val] w' (fun e w1 => e = .returned (.bool true) /\ Rel w' w1))) :
  Calls prog 12 #[s.val] w (fun e w1 => e = .returned (.tuple #[.string (staT s), .bool true]) /\ Rel w w1) := by
 obtain ⟨nm, cur, vs, ad, cap⟩ := s;unfold StaM.pl Sta.valid at hv;simp only [Bool.and_eq_true, decide_eq_true_eq, List.length_map, List.all_map, List.all_eq_true] at hv;obtain ⟨h1, hcu, -, h4, h5⟩ := hv;have zn := nam_le h1;have bc := bw_bd hcu;have VO : Hid (∀ m ∈ vs, VOk m) := fun m hm => vok_of (h5 m hm)
 have VN : Hid (∀ m ∈ vs, m.pl.valid = true) := fun m hm => h5 m hm
 have SA := Hj hV;have SR : Hid (RowB (fun _ => True) w ad (vs.flatMap verC)) := hV.r;have HTW := Hj ht;clear h1 h5 hV hcu ht;unfold StaM.val at HV |-;dsimp only at HV |-;go_enter func12, ntmps12;go_wp2_with fail;refine al_c fun W1 B1 R1 hz1 => ?_
 refine (HV.out _ R1).mono ?_;rintro e w1 ⟨rfl, h1⟩;clear HV;have X1 := (B1.rel h1).alloc (.cells #[.pointer none, .slice none 0 0] 98);have S1 := SB.new (R1.trans h1);have hb1 := Below.size h1;obtain ⟨W2, hW2⟩ : ∃ X, w1.alloc (.cells #[.pointer none, .slice none 0 0] 98) = X := ⟨_, rfl⟩;rw [hW2] at X1 S1;obtain ⟨b, hb⟩ : ∃ n, w1.heap.size = n := ⟨_, rfl⟩;have F0 : F2 w b w.heap.size w.heap.size [.string nm, .int .i64 cur, .slice ad vs.length cap] [] ⟨#[]⟩ W2 \/ True := .inr trivial;clear F0;rw [hb] at S1;have nq : w.heap.size ≠ b := by omega
 obtain ⟨N, hN⟩ : ∃ N, fmtS cur 1 = N := ⟨_, rfl⟩;have zN := fmtS_size cur 1;have C0 := Hj fun w' (r : Rel W2 w') => it_any cur w' (HTW.out.rel (S1.R.trans r)) (by omega) (by omega)
 rw [hN] at zN C0;have HN := Hj hN;clear hN;have b0 := X1.c (j := 0) rfl;have b1 := X1.c (j := 1) rfl;have b2 := X1.c (j := 2) rfl;have bl := X1.lt;go_wp2_with fail;(try rw [hW2]);(try rw [hb]);refine wrq [0, 1, 2, 3, 4, 5] 2 7 (fun w3 h3 => ?_);refine ao 6 (fun wb hb' K' hK' => ?_);have rb := h3.trans hb';go_simp;refine hK'.out _ _ (fun _ => rb.alloc _) ?_;clear hK' K';refine ao 7 (fun wl hl K' hK' => ?_);go_simp;refine (line_any [⟨#[115, 116, 97, 116, 117, 116, 101]⟩, nm, ⟨#[99, 117, 114, 114, 101, 110, 99, 121]⟩, N, ⟨#[123]⟩] (S1.rel ((rb.alloc _).trans hl)) ((Blk.new wb _ _).rel hl) rfl rfl (Nat.le_of_ble_eq_true rfl) (Nat.le_of_ble_eq_true rfl) (by intro x hx; simp only [List.mem_cons, List.not_mem_nil, or_false] at hx; (repeat' (rcases hx with rfl | hx)) <;> (try subst hx) <;> first | omega | (simp only [ByteArray.size_append, szA, List.length]; omega)) (by decide)).mono ?_;rintro e wm ⟨⟨v, rfl⟩, S9, m9⟩;have X9 := (X1.rel ((rb.alloc _).trans hl)).nb m9 nq;refine hK'.out _ _ (mkd (by kernel_rfl)) ?_;clear hK' K';refine ae (fun wn hn => ?_);replace S9 := S9.rel hn;replace X9 := X9.rel hn;rw [ln_st] at S9;obtain ⟨S0, hS0⟩ : ∃ T, (⟨#[]⟩ : ByteArray) ++ (((((⟨#[115, 116, 97, 116, 117, 116, 101, 32]⟩ ++ nm) ++ ⟨#[32, 99, 117, 114, 114, 101, 110, 99, 121, 32]⟩) ++ N) ++ ⟨#[32, 123, 10]⟩)) = T := ⟨_, rfl⟩;rw [hS0] at S9;have zS : S0.size <= 300 := by rw [<- hS0]; simp only [ByteArray.size_append, szA, List.length]; omega
 have HS := Hj hS0;have R9 := S9.R;clear b0 b1 b2 bl S1 X1 B1 h1 hW2 hb C0 rb hb' hl m9 hn h3 hS0 hb1 R1;have b2 := X9.c (j := 2) rfl;have bl := X9.lt;go_wp2_with fail;clear b2 bl
 go_loopw [35] (fun i wx => ∃ (k : Nat) (T : ByteArray), k <= vs.length /\ i = .int .i64 k /\ T.size <= 300 + 131000 * k /\ Hid (T = (vs.take k).foldl verT S0) /\ Hid (SB w b T wx /\ Blk wx w.heap.size 28 [.string nm, .int .i64 cur, .slice ad vs.length cap])) (fun i _ => vs.length - (intOf i).toNat)
 case atStart => exact ⟨0, S0, by omega, rfl, by omega, rfl, ⟨S9, X9⟩⟩
 case round =>
  obtain ⟨kO, T, hkO, rfl, zO, hT, hSX⟩ := hrel;obtain ⟨hS, hX⟩ := hSX.out;by_cases ltO : kO < vs.length
  ·have ki : (kO : Int) < (vs.length : Int) := by omega
   obtain ⟨m, g, off, hp, hm, ha, hg, hc⟩ := row_k SR.out verC_len (by decide) hS.R ltO;have VB := Hj (SA.out.b m hm);have VM := Hj (VO.out m hm);obtain ⟨nu, ncr, nse⟩ := vnum_of (VN.out m hm);have NCR := Hj ncr;have NSE := Hj nse;have HPO := Hj hp;have HAO := Hj ha;rw [ha];have c0 := hc 0 _ rfl;have c1 := hc 1 _ rfl;have c2 := hc 2 _ rfl;have c3 := hc 3 _ rfl;have c4 := hc 4 _ rfl;have c5 := hc 5 _ rfl;have c6 := hc 6 _ rfl;have c7 := hc 7 _ rfl;simp only [Nat.add_zero] at c0
   clear hp hm ha hc ncr nse;go_wp2_with fail;obtain ⟨WV, hWV⟩ : ∃ X, wr.alloc (.cells #[.int .i64 m.frm, .int .i64 m.mode, .int .i64 m.unit, .slice m.ca m.cr.length m.cc, .slice m.sa m.se.length m.sc, .slice m.la m.le.length m.lc, .slice m.ga m.gr.length m.gc, .slice m.ra m.re.length m.rc] 48) = X := ⟨_, rfl⟩
   have F : F2 w b w.heap.size wr.heap.size [.string nm, .int .i64 cur, .slice ad vs.length cap] [.int .i64 m.frm, .int .i64 m.mode, .int .i64 m.unit, .slice m.ca m.cr.length m.cc, .slice m.sa m.se.length m.sc, .slice m.la m.le.length m.lc, .slice m.ga m.gr.length m.gc, .slice m.ra m.re.length m.rc] T WV := by
    rw [<- hWV];exact ⟨hS.al _, hX.alloc _, Blk.new _ _ _, nq, by have := SB.lt hS; omega⟩
   obtain ⟨gv, hgv⟩ : ∃ n, wr.heap.size = n := ⟨_, rfl⟩;(try rw [hWV]);(try rw [hgv]);rw [hgv] at F;clear c0 c1 c2 c3 c4 c5 c6 c7 hWV hg hgv hS hX hSX;obtain ⟨D, hD⟩ : ∃ X, fmtD m.frm = X := ⟨_, rfl⟩;have zD := fmtD_size' m.frm;have HD := Hj hD;have CD := Hj fun w => cFormat_any m.frm w
   rw [hD] at zD CD;clear hD;refine (CD.out _).mono ?_;rintro e w1 ⟨rfl, h1⟩;have v0 : ¬ 9223372036854775807 < 8 + D.size := by omega
   have v1 : ¬ 9223372036854775807 < 8 + D.size + 2 := by omega
   go_wp2_with fail;refine al_c fun Y BY RY hY => ?_
   refine (line_any [(⟨#[32, 32, 102, 114, 111, 109, 32, 64]⟩ ++ D) ++ ⟨#[32, 123]⟩] (F.S.rel (Rel.trans (show Rel WV w1 from h1) RY)) BY rfl rfl (Nat.le_of_ble_eq_true rfl) (Nat.le_of_ble_eq_true rfl) (by intro x hx; simp only [List.mem_cons, List.not_mem_nil, or_false] at hx; (repeat' (rcases hx with rfl | hx)) <;> (try subst hx) <;> first | omega | (simp only [ByteArray.size_append, szA, List.length]; omega)) (by first | omega | (simp only [ByteArray.size_append]; omega))).mono ?_;rintro e w2 ⟨⟨v, rfl⟩, S9, m9⟩;have F := (F.rel (Rel.trans (show Rel WV w1 from h1) RY)).ln S9 m9;clear S9 m9 BY RY hY h1 v0 v1 CD;have zl : (lnT [(⟨#[32, 32, 102, 114, 111, 109, 32, 64]⟩ ++ D) ++ ⟨#[32, 123]⟩]).size <= 200 := by simp only [lnT, jn, List.foldl, ByteArray.size_append, szA, List.length]; omega
   obtain ⟨Wd, hWd⟩ : ∃ s, (⟨(nmI modL m.mode).toArray⟩ : ByteArray) = s := ⟨_, rfl⟩;have zWd : Wd.size <= 12 := by rw [<- hWd]; exact wd_size mo12 m.mode
   have HWd := Hj hWd;clear hWd
   obtain ⟨U, hU⟩ : ∃ X, fmtS m.unit 1 = X := ⟨_, rfl⟩;have zU := fmtS_size m.unit 1;have C0 := Hj fun w' (r : Rel w2 w') => it_any m.unit w' (HTW.out.rel (F.S.R.trans r)) (by omega) (by omega)
   rw [hU] at zU C0;have HU := Hj hU;clear hU;have v0 : ¬ 9223372036854775807 < U.size + 1 := by omega
   have k1 := F.V.cs;have l1 := F.V.lt
   go_wp2_with fail;refine wrq [0, 2, 3, 4, 6, 7, 8] 6 12 (fun w3 h3 => ?_)
   refine ao 1 (fun w4 h4 K' hK' => ?_);go_simp;refine (modes_any w4).mono ?_;rintro e w5 ⟨gt, rfl, hT5, h5⟩;have r5 := (h3.trans h4).trans h5;refine hK'.out _ _ (fun _ => r5) ?_;clear hK' K';refine ao 5 (fun w6 h6 K' hK' => ?_);go_simp;refine (byW modL 4 gt 4 m.mode Wd w6 (hT5.rel h6) rfl (by decide) HWd.out).mono ?_;rintro e w7 ⟨rfl, h7⟩;have r7 := (r5.trans h6).trans h7;refine hK'.out _ _ (fun _ => r7) ?_;clear hK' K' h3 h4 h5 h6 h7 hT5 r5;refine wrm [9, 10] 2 12 (fun _ => r7) ?_
   refine ao 11 (fun wb hb K' hK' => ?_);have rb := (r7).trans hb;go_simp;refine hK'.out _ _ (fun _ => rb.alloc _) ?_;clear hK' K';refine ao 12 (fun wl hl K' hK' => ?_);go_simp;refine (line_any [⟨#[32, 32, 32, 32, 114, 111, 117, 110, 100]⟩, Wd, U ++ ⟨#[59]⟩] (F.S.rel ((rb.alloc _).trans hl)) ((Blk.new wb _ _).rel hl) rfl rfl (Nat.le_of_ble_eq_true rfl) (Nat.le_of_ble_eq_true rfl) (by intro x hx; simp only [List.mem_cons, List.not_mem_nil, or_false] at hx; (repeat' (rcases hx with rfl | hx)) <;> (try subst hx) <;> first | omega | (simp only [ByteArray.size_append, szA, List.length]; omega)) (by first | omega | (simp only [ByteArray.size_append]; omega))).mono ?_;rintro e wm ⟨⟨v, rfl⟩, S9, m9⟩;have F := (F.rel ((rb.alloc _).trans hl)).ln S9 m9;refine hK'.out _ _ (mkd (by kernel_rfl)) ?_;clear hK' K';refine ae (fun wn hn => ?_);replace F := F.rel hn;clear rb hb hl S9 m9 hn
   have EH : T ++ ((((((⟨#[32, 32, 102, 114, 111, 109, 32, 64]⟩ ++ D) ++ ⟨#[32, 123, 10, 32, 32, 32, 32, 114, 111, 117, 110, 100, 32]⟩) ++ Wd) ++ ⟨#[32]⟩) ++ U) ++ ⟨#[59, 10]⟩) = hdT T m := by rw [<- HD.out, <- HWd.out, <- HU.out]; rfl
   rw [ln_hd, EH] at F;obtain ⟨T0, hT0⟩ : ∃ X, hdT T m = X := ⟨_, rfl⟩;have zT : T0.size <= T.size + 300 := by rw [<- hT0, <- EH]; simp only [ByteArray.size_append, szA, List.length]; omega
   rw [hT0] at F;have HH := Hj hT0;clear k1 l1 r7 hT0 EH C0 v0;have k1 := F.V.cs;have l1 := F.V.lt;go_wp2_with fail;clear k1 l1
   go_loopw [63] (fun i wx => ∃ (k : Nat) (U : ByteArray), k <= m.cr.length /\ i = .int .i64 k /\ U.size <= T.size + 300 + 200 * k /\ Hid (U = (m.cr.take k).foldl crT (T0)) /\ Hid (F2 w b w.heap.size gv [.string nm, .int .i64 cur, .slice ad vs.length cap] [.int .i64 m.frm, .int .i64 m.mode, .int .i64 m.unit, .slice m.ca m.cr.length m.cc, .slice m.sa m.se.length m.sc, .slice m.la m.le.length m.lc, .slice m.ga m.gr.length m.gc, .slice m.ra m.re.length m.rc] U wx)) (fun i _ => m.cr.length - (intOf i).toNat)
   case atStart => exact ⟨0, T0, by omega, rfl, (by first | omega | (have := VM.out.l0; omega)), rfl, F⟩
   case round =>
    obtain ⟨k, V, hk, rfl, hz, hV, hF⟩ := hrel;have lk := VM.out.l0;have F := hF.out;by_cases hlt : k < m.cr.length
    ·have ki : (k : Int) < (m.cr.length : Int) := by omega
     obtain ⟨p, g, off, hp, hm, ha, hg, hc⟩ := row_k VB.out.r0 crC_len (by decide) F.S.R hlt;have HA := Hj ha;rw [ha];have HP := Hj hp;obtain ⟨k0, l0⟩ := p;have c0 := hc 0 _ rfl;have c1 := hc 1 _ rfl;simp only [Nat.add_zero] at c0;have hn := NCR.out _ hm;simp only at hn;clear hp hc hm ha
     obtain ⟨WX, hWX⟩ : ∃ X, wr.alloc (.cells #[.int .i64 k0, .int .i64 l0] 51) = X := ⟨_, rfl⟩;have BB := Blk.new wr 51 #[.int .i64 k0, .int .i64 l0];have F := F.al (.cells #[.int .i64 k0, .int .i64 l0] 51);rw [hWX] at BB F;have kb := BB.cs;have lb := BB.lt
     obtain ⟨Wd, hWd⟩ : ∃ s, (⟨(nmI kndL k0).toArray⟩ : ByteArray) = s := ⟨_, rfl⟩;have zWd : Wd.size <= 12 := by rw [<- hWd]; exact wd_size kn12 k0
     have HWd := Hj hWd;clear hWd
     obtain ⟨U, hU⟩ : ∃ X, fmtS l0 1 = X := ⟨_, rfl⟩;have zU := fmtS_size l0 1;have C0 := Hj fun w' (r : Rel WX w') => it_any l0 w' (HTW.out.rel (F.S.R.trans r)) (by omega) (by omega)
     rw [hU] at zU C0;have HU := Hj hU;clear hU;have v0 : ¬ 9223372036854775807 < U.size + 1 := by omega
     have v1 : ¬ 9223372036854775807 < Wd.size + 1 := by omega
     by_cases hl : 0 < l0
     ·have el : decide (0 < l0) = true := decide_eq_true hl;go_wp2_with fail;(try rw [hWX]);refine wrq [0, 2, 3, 5, 6] 6 10 (fun w3 h3 => ?_);refine ao 1 (fun w4 h4 K' hK' => ?_);go_simp;refine (kinds_any w4).mono ?_;rintro e w5 ⟨gt, rfl, hT5, h5⟩;have r5 := (h3.trans h4).trans h5;refine hK'.out _ _ (fun _ => r5) ?_;clear hK' K';refine ao 4 (fun w6 h6 K' hK' => ?_);go_simp;refine (byW kndL 6 gt 6 k0 Wd w6 (hT5.rel h6) rfl (by decide) HWd.out).mono ?_;rintro e w7 ⟨rfl, h7⟩;have r7 := (r5.trans h6).trans h7;refine hK'.out _ _ (fun _ => r7) ?_;clear hK' K' h3 h4 h5 h6 h7 hT5 r5;refine wrm [7, 8] 2 10 (fun _ => r7) ?_
      refine ao 9 (fun wb hb K' hK' => ?_);have rb := (r7).trans hb;go_simp;refine hK'.out _ _ (fun _ => rb.alloc _) ?_;clear hK' K';refine ao 10 (fun wl hl K' hK' => ?_);go_simp;refine (line_any [⟨#[32, 32, 32, 32, 99, 114, 101, 100, 105, 116]⟩, Wd, ⟨#[108, 105, 109, 105, 116]⟩, U ++ ⟨#[59]⟩] (F.S.rel ((rb.alloc _).trans hl)) ((Blk.new wb _ _).rel hl) rfl rfl (Nat.le_of_ble_eq_true rfl) (Nat.le_of_ble_eq_true rfl) (by intro x hx; simp only [List.mem_cons, List.not_mem_nil, or_false] at hx; (repeat' (rcases hx with rfl | hx)) <;> (try subst hx) <;> first | omega | (simp only [ByteArray.size_append, szA, List.length]; omega)) (by first | omega | (simp only [ByteArray.size_append]; omega))).mono ?_;rintro e wm ⟨⟨v, rfl⟩, S9, m9⟩;have F := (F.rel ((rb.alloc _).trans hl)).ln S9 m9;refine hK'.out _ _ (mkd (by kernel_rfl)) ?_;clear hK' K';refine ae (fun wn hn => ?_);replace F := F.rel hn;clear rb hb hl S9 m9 hn;rw [ln_cr1] at F;clear kb lb r7 hWX c0 c1
      rw [HA.out] at F;go_wp2
      go_roundw
      case rel => exact ⟨k + 1, _, by omega, by go_num, (by simp only [ByteArray.size_append, szA, List.length]; omega), (by show _ = _; rw [take_fold HP.out, <- hV.out]; simp only [crT, if_pos hl, wdT, HWd.out, HU.out]; (try rfl)), Hj F⟩
      case measure => simp [intOf]; omega
     ·have el : decide (0 < l0) = false := decide_eq_false hl;go_wp2_with fail;(try rw [hWX]);refine wrq [0, 2, 3] 5 7 (fun w3 h3 => ?_);refine ao 1 (fun w4 h4 K' hK' => ?_);go_simp;refine (kinds_any w4).mono ?_;rintro e w5 ⟨gt, rfl, hT5, h5⟩;have r5 := (h3.trans h4).trans h5;refine hK'.out _ _ (fun _ => r5) ?_;clear hK' K';refine ao 4 (fun w6 h6 K' hK' => ?_);go_simp;refine (byW kndL 6 gt 6 k0 Wd w6 (hT5.rel h6) rfl (by decide) HWd.out).mono ?_;rintro e w7 ⟨rfl, h7⟩;have r7 := (r5.trans h6).trans h7;refine hK'.out _ _ (fun _ => r7) ?_;clear hK' K' h3 h4 h5 h6 h7 hT5 r5
      refine wrm [5] 2 7 (fun _ => r7) ?_
      refine ao 6 (fun wb hb K' hK' => ?_);have rb := (r7).trans hb;go_simp;refine hK'.out _ _ (fun _ => rb.alloc _) ?_;clear hK' K';refine ao 7 (fun wl hl K' hK' => ?_);go_simp;refine (line_any [⟨#[32, 32, 32, 32, 99, 114, 101, 100, 105, 116]⟩, Wd ++ ⟨#[59]⟩] (F.S.rel ((rb.alloc _).trans hl)) ((Blk.new wb _ _).rel hl) rfl rfl (Nat.le_of_ble_eq_true rfl) (Nat.le_of_ble_eq_true rfl) (by intro x hx; simp only [List.mem_cons, List.not_mem_nil, or_false] at hx; (repeat' (rcases hx with rfl | hx)) <;> (try subst hx) <;> first | omega | (simp only [ByteArray.size_append, szA, List.length]; omega)) (by first | omega | (simp only [ByteArray.size_append]; omega))).mono ?_;rintro e wm ⟨⟨v, rfl⟩, S9, m9⟩;have F := (F.rel ((rb.alloc _).trans hl)).ln S9 m9;refine hK'.out _ _ (mkd (by kernel_rfl)) ?_;clear hK' K';refine ae (fun wn hn => ?_);replace F := F.rel hn;clear rb hb hl S9 m9 hn;rw [ln_cr2] at F;clear kb lb r7 hWX c0 c1
      rw [HA.out] at F;go_wp2
      go_roundw
      case rel => exact ⟨k + 1, _, by omega, by go_num, (by simp only [ByteArray.size_append, szA, List.length]; omega), (by show _ = _; rw [take_fold HP.out, <- hV.out]; simp only [crT, if_neg (show ¬ 0 < l0 by omega), wdT, HWd.out]; (try rfl)), Hj F⟩
      case measure => simp [intOf]; omega
    ·have ki : ¬ (k : Int) < (m.cr.length : Int) := by omega
     have HV : Hid (V = m.cr.foldl crT (T0)) := by show _ = _; rw [hV.out, List.take_of_length_le (by omega)]
     have zV : V.size <= T.size + 1500 := by omega
     clear hF hV hz hlt hk lk;have k1 := F.V.cs;have l1 := F.V.lt;go_wp2_with fail;clear k1 l1
     go_loopw [93] (fun i wx => ∃ (k : Nat) (U : ByteArray), k <= m.se.length /\ i = .int .i64 k /\ U.size <= T.size + 1500 + 200 * k /\ Hid (U = (m.se.take k).foldl seT (m.cr.foldl crT T0)) /\ Hid (F2 w b w.heap.size gv [.string nm, .int .i64 cur, .slice ad vs.length cap] [.int .i64 m.frm, .int .i64 m.mode, .int .i64 m.unit, .slice m.ca m.cr.length m.cc, .slice m.sa m.se.length m.sc, .slice m.la m.le.length m.lc, .slice m.ga m.gr.length m.gc, .slice m.ra m.re.length m.rc] U wx)) (fun i _ => m.se.length - (intOf i).toNat)
     case atStart => exact ⟨0, V, by omega, rfl, (by first | omega | (have := VM.out.l0; omega)), HV, F⟩
     case round =>
      obtain ⟨k, V, hk, rfl, hz, hV, hF⟩ := hrel;have lk := VM.out.l1;have F := hF.out;by_cases hlt : k < m.se.length
      ·have ki : (k : Int) < (m.se.length : Int) := by omega
       obtain ⟨p, g, off, hp, hm, ha, hg, hc⟩ := row_k VB.out.r1 seC_len (by decide) F.S.R hlt;have HA := Hj ha;rw [ha];have HP := Hj hp;obtain ⟨k0, l0, m0⟩ := p;have c0 := hc 0 _ rfl;have c1 := hc 1 _ rfl;have c2 := hc 2 _ rfl;simp only [Nat.add_zero] at c0;have hn := NSE.out _ hm;obtain ⟨-, i1, i2⟩ := VB.out.b1 _ hm;simp only at hn i1 i2;clear hp hc hm ha
       obtain ⟨WX, hWX⟩ : ∃ X, wr.alloc (.cells #[.int .i64 k0, .int .i64 l0, .int .i64 m0] 56) = X := ⟨_, rfl⟩;have BB := Blk.new wr 56 #[.int .i64 k0, .int .i64 l0, .int .i64 m0];have F := F.al (.cells #[.int .i64 k0, .int .i64 l0, .int .i64 m0] 56);rw [hWX] at BB F;have kb := BB.cs;have lb := BB.lt
       have CF := Hj fun w' (r : Rel WX w') => FormatDecimal_any l0 m0 2 w' (HTW.out.rel (F.S.R.trans r)) i1.1 i1.2 i2.1 i2.2 (by decide) (by decide)
       unfold FdRes at CF;obtain ⟨E, hE⟩ : ∃ s, fdT l0 m0 2 = s := ⟨_, rfl⟩;have zE := fd_size l0 m0 2;rw [hE] at zE CF;have HE := Hj hE;clear hE
       obtain ⟨U, hU⟩ : ∃ X, fmtS k0 1 = X := ⟨_, rfl⟩;have zU := fmtS_size k0 1;have CU := Hj fun w' (r : Rel WX w') => it_any k0 w' (HTW.out.rel (F.S.R.trans r)) (by omega) (by omega)
       rw [hU] at zU CU;have HU := Hj hU;clear hU;have v0 : ¬ 9223372036854775807 < E.size + 1 := by omega
       go_wp2_with fail;(try rw [hWX]);refine (CF.out _ (Rel.refl _)).mono ?_;rintro e w1 ⟨rfl, h1⟩;have F := F.rel h1;have BB := BB.rel h1;clear kb lb;have kb := BB.cs;have lb := BB.lt;go_wp2_with fail;refine (CU.out _ h1).mono ?_;rintro e w2 ⟨rfl, h2⟩;have F := F.rel h2;clear kb lb;go_wp2_with fail;refine al_c fun Y BY RY hY => ?_
       refine (line_any [⟨#[32, 32, 32, 32, 105, 110, 100, 101, 120]⟩, U, E ++ ⟨#[59]⟩] (F.S.rel RY) BY rfl rfl (Nat.le_of_ble_eq_true rfl) (Nat.le_of_ble_eq_true rfl) (by intro x hx; simp only [List.mem_cons, List.not_mem_nil, or_false] at hx; (repeat' (rcases hx with rfl | hx)) <;> (try subst hx) <;> first | omega | (simp only [ByteArray.size_append, szA, List.length]; omega)) (by first | omega | (simp only [ByteArray.size_append]; omega))).mono ?_;rintro e w3 ⟨⟨v, rfl⟩, S9, m9⟩;have F := (F.rel RY).ln S9 m9;rw [ln_se] at F;clear S9 m9 BY RY hY h1 h2 BB hWX c0 c1 c2 CF CU
       rw [HA.out] at F;go_wp2
       go_roundw
       case rel => exact ⟨k + 1, _, by omega, by go_num, (by simp only [ByteArray.size_append, szA, List.length]; omega), (by show _ = _; rw [take_fold HP.out, <- hV.out]; simp only [seT, HE.out, HU.out]; (try rfl)), Hj F⟩
       case measure => simp [intOf]; omega
      ·have ki : ¬ (k : Int) < (m.se.length : Int) := by omega
       have HV : Hid (V = m.se.foldl seT (m.cr.foldl crT T0)) := by show _ = _; rw [hV.out, List.take_of_length_le (by omega)]
       have zV : V.size <= T.size + 5500 := by omega
       clear hF hV hz hlt hk lk;have k1 := F.V.cs;have l1 := F.V.lt;go_wp2_with fail;clear k1 l1
       go_loopw [115] (fun i wx => ∃ (k : Nat) (U : ByteArray), k <= m.le.length /\ i = .int .i64 k /\ U.size <= T.size + 5500 + 4300 * k /\ Hid (U = (m.le.take k).foldl leT (m.se.foldl seT (m.cr.foldl crT T0))) /\ Hid (F2 w b w.heap.size gv [.string nm, .int .i64 cur, .slice ad vs.length cap] [.int .i64 m.frm, .int .i64 m.mode, .int .i64 m.unit, .slice m.ca m.cr.length m.cc, .slice m.sa m.se.length m.sc, .slice m.la m.le.length m.lc, .slice m.ga m.gr.length m.gc, .slice m.ra m.re.length m.rc] U wx)) (fun i _ => m.le.length - (intOf i).toNat)
       case atStart => exact ⟨0, V, by omega, rfl, (by first | omega | (have := VM.out.l1; omega)), HV, F⟩
       case round =>
        obtain ⟨k, V, hk, rfl, hz, hV, hF⟩ := hrel;have lk := VM.out.l2;have F := hF.out;by_cases hlt : k < m.le.length
        ·have ki : (k : Int) < (m.le.length : Int) := by omega
         obtain ⟨p, g, off, hp, hm, ha, hg, hc⟩ := row_k VB.out.r2 leC_len (by decide) F.S.R hlt;have HA := Hj ha;rw [ha];have HP := Hj hp;obtain ⟨s0, t0, x0⟩ := p;obtain ⟨zs, hF0⟩ := VM.out.e2 _ hm;have hB := VB.out.b2 _ hm;unfold LeB at hB;simp only at zs hF0 hB;obtain ⟨xa0, xc0, P0, rfl, hP0, zP0, CP⟩ := tp_at (HTW.out.rel F.S.R) (TxB.rel hB.2 F.S.R) hF0;have HP0 := Hj hP0;have c0 := hc 0 _ rfl;have c1 := hc 1 _ rfl;have c2 := hc 2 _ rfl;have c3 := hc 3 _ rfl;have c4 := hc 4 _ rfl;have c5 := hc 5 _ rfl;have c6 := hc 6 _ rfl;simp only [Nat.add_zero] at c0;clear hp hc hm ha hB hP0
         obtain ⟨WX, hWX⟩ : ∃ X, wr.alloc (.cells #[.string s0, .int .i64 t0.op, .int .i64 t0.va, .int .i64 t0.vb, .int .i64 t0.dm, .string t0.nm, .slice xa0 t0.cnt xc0] 61) = X := ⟨_, rfl⟩;have BB := Blk.new wr 61 #[.string s0, .int .i64 t0.op, .int .i64 t0.va, .int .i64 t0.vb, .int .i64 t0.dm, .string t0.nm, .slice xa0 t0.cnt xc0];have F := F.al (.cells #[.string s0, .int .i64 t0.op, .int .i64 t0.va, .int .i64 t0.vb, .int .i64 t0.dm, .string t0.nm, .slice xa0 t0.cnt xc0] 61);rw [hWX] at BB F;have kb := BB.cs;have lb := BB.lt
         have C0 := Hj fun w' (r : Rel WX w') => CP.out w' (Rel.trans (by rw [<- hWX]; exact (Rel.refl wr).alloc _) r)
         clear CP;have v0 : ¬ 9223372036854775807 < P0.size + 1 := by omega
         go_wp2_with fail;(try rw [hWX]);refine wrq [0, 1, 2, 3, 4, 5, 6] 2 8 (fun w3 r7 => ?_)
         refine ao 7 (fun wb hb K' hK' => ?_);have rb := (r7).trans hb;go_simp;refine hK'.out _ _ (fun _ => rb.alloc _) ?_;clear hK' K';refine ao 8 (fun wl hl K' hK' => ?_);go_simp;refine (line_any [⟨#[32, 32, 32, 32, 108, 101, 116]⟩, s0, ⟨#[61]⟩, P0 ++ ⟨#[59]⟩] (F.S.rel ((rb.alloc _).trans hl)) ((Blk.new wb _ _).rel hl) rfl rfl (Nat.le_of_ble_eq_true rfl) (Nat.le_of_ble_eq_true rfl) (by intro x hx; simp only [List.mem_cons, List.not_mem_nil, or_false] at hx; (repeat' (rcases hx with rfl | hx)) <;> (try subst hx) <;> first | omega | (simp only [ByteArray.size_append, szA, List.length]; omega)) (by first | omega | (simp only [ByteArray.size_append]; omega))).mono ?_;rintro e wm ⟨⟨v, rfl⟩, S9, m9⟩;have F := (F.rel ((rb.alloc _).trans hl)).ln S9 m9;refine hK'.out _ _ (mkd (by kernel_rfl)) ?_;clear hK' K';refine ae (fun wn hn => ?_);replace F := F.rel hn;clear rb hb hl S9 m9 hn;rw [ln_le] at F;clear kb lb r7 hWX c0 c1 c2 c3 c4 c5 c6
         rw [HA.out] at F;go_wp2
         go_roundw
         case rel => exact ⟨k + 1, _, by omega, by go_num, (by simp only [ByteArray.size_append, szA, List.length]; omega), (by show _ = _; rw [take_fold HP.out, <- hV.out]; simp only [leT, HP0.out]; (try rfl)), Hj F⟩
         case measure => simp [intOf]; omega
        ·have ki : ¬ (k : Int) < (m.le.length : Int) := by omega
         have HV : Hid (V = m.le.foldl leT (m.se.foldl seT (m.cr.foldl crT T0))) := by show _ = _; rw [hV.out, List.take_of_length_le (by omega)]
         have zV : V.size <= T.size + 48500 := by omega
         clear hF hV hz hlt hk lk;have k1 := F.V.cs;have l1 := F.V.lt;go_wp2_with fail;clear k1 l1
         go_loopw [132] (fun i wx => ∃ (k : Nat) (U : ByteArray), k <= m.gr.length /\ i = .int .i64 k /\ U.size <= T.size + 50500 + 8600 * k /\ Hid (U = (m.gr.take k).foldl grT (m.le.foldl leT (m.se.foldl seT (m.cr.foldl crT T0)))) /\ Hid (F2 w b w.heap.size gv [.string nm, .int .i64 cur, .slice ad vs.length cap] [.int .i64 m.frm, .int .i64 m.mode, .int .i64 m.unit, .slice m.ca m.cr.length m.cc, .slice m.sa m.se.length m.sc, .slice m.la m.le.length m.lc, .slice m.ga m.gr.length m.gc, .slice m.ra m.re.length m.rc] U wx)) (fun i _ => m.gr.length - (intOf i).toNat)
         case atStart => exact ⟨0, V, by omega, rfl, (by first | omega | (have := VM.out.l2; omega)), HV, F⟩
         case round =>
          obtain ⟨k, V, hk, rfl, hz, hV, hF⟩ := hrel;have lk := VM.out.l3;have F := hF.out;by_cases hlt : k < m.gr.length
          ·have ki : (k : Int) < (m.gr.length : Int) := by omega
           obtain ⟨p, g, off, hp, hm, ha, hg, hc⟩ := row_k VB.out.r3 grC_len (by decide) F.S.R hlt;have HA := Hj ha;rw [ha];have HP := Hj hp;obtain ⟨k0, ⟨t0, x0⟩, t1, x1⟩ := p;obtain ⟨hF0, hF1⟩ := VM.out.e3 _ hm;have hB := VB.out.b3 _ hm;unfold GrB at hB;simp only at hF0 hF1 hB;obtain ⟨xa0, xc0, P0, rfl, hP0, zP0, CP⟩ := tp_at (HTW.out.rel F.S.R) (TxB.rel hB.2.1 F.S.R) hF0;obtain ⟨xa1, xc1, P1, rfl, hP1, zP1, CQ⟩ := tp_at (HTW.out.rel F.S.R) (TxB.rel hB.2.2 F.S.R) hF1;have HP0 := Hj hP0;have HP1 := Hj hP1;have c0 := hc 0 _ rfl;have c1 := hc 1 _ rfl;have c2 := hc 2 _ rfl;have c3 := hc 3 _ rfl;have c4 := hc 4 _ rfl;have c5 := hc 5 _ rfl;have c6 := hc 6 _ rfl;have c7 := hc 7 _ rfl;have c8 := hc 8 _ rfl;have c9 := hc 9 _ rfl;have c10 := hc 10 _ rfl;have c11 := hc 11 _ rfl;have c12 := hc 12 _ rfl;simp only [Nat.add_zero] at c0;clear hp hc hm ha hB hP0 hP1
           obtain ⟨WX, hWX⟩ : ∃ X, wr.alloc (.cells #[.int .i64 k0, .int .i64 t0.op, .int .i64 t0.va, .int .i64 t0.vb, .int .i64 t0.dm, .string t0.nm, .slice xa0 t0.cnt xc0, .int .i64 t1.op, .int .i64 t1.va, .int .i64 t1.vb, .int .i64 t1.dm, .string t1.nm, .slice xa1 t1.cnt xc1] 64) = X := ⟨_, rfl⟩;have BB := Blk.new wr 64 #[.int .i64 k0, .int .i64 t0.op, .int .i64 t0.va, .int .i64 t0.vb, .int .i64 t0.dm, .string t0.nm, .slice xa0 t0.cnt xc0, .int .i64 t1.op, .int .i64 t1.va, .int .i64 t1.vb, .int .i64 t1.dm, .string t1.nm, .slice xa1 t1.cnt xc1];have F := F.al (.cells #[.int .i64 k0, .int .i64 t0.op, .int .i64 t0.va, .int .i64 t0.vb, .int .i64 t0.dm, .string t0.nm, .slice xa0 t0.cnt xc0, .int .i64 t1.op, .int .i64 t1.va, .int .i64 t1.vb, .int .i64 t1.dm, .string t1.nm, .slice xa1 t1.cnt xc1] 64);rw [hWX] at BB F;have kb := BB.cs;have lb := BB.lt
           obtain ⟨Wd, hWd⟩ : ∃ s, (⟨(nmI benL k0).toArray⟩ : ByteArray) = s := ⟨_, rfl⟩;have zWd : Wd.size <= 12 := by rw [<- hWd]; exact wd_size be12 k0
           have HWd := Hj hWd;clear hWd
           have C0 := Hj fun w' (r : Rel WX w') => CP.out w' (Rel.trans (by rw [<- hWX]; exact (Rel.refl wr).alloc _) r)
           have C1 := Hj fun w' (r : Rel WX w') => CQ.out w' (Rel.trans (by rw [<- hWX]; exact (Rel.refl wr).alloc _) r)
           clear CP CQ;have v0 : ¬ 9223372036854775807 < P1.size + 1 := by omega
           go_wp2_with fail;(try rw [hWX]);refine wrq [0, 2, 3, 5, 6, 8, 9] 7 13 (fun w3 h3 => ?_)
           refine ao 1 (fun w4 h4 K' hK' => ?_);go_simp;refine (benefits_any w4).mono ?_;rintro e w5 ⟨gt, rfl, hT5, h5⟩;have r5 := (h3.trans h4).trans h5;refine hK'.out _ _ (fun _ => r5) ?_;clear hK' K';refine ao 4 (fun w6 h6 K' hK' => ?_);go_simp;refine (byW benL 5 gt 5 k0 Wd w6 (hT5.rel h6) rfl (by decide) HWd.out).mono ?_;rintro e w7 ⟨rfl, h7⟩;have r7 := (r5.trans h6).trans h7;refine hK'.out _ _ (fun _ => r7) ?_;clear hK' K' h3 h4 h5 h6 h7 hT5 r5;refine wrm [7, 10, 11] 2 13 (fun _ => r7) ?_
           refine ao 12 (fun wb hb K' hK' => ?_);have rb := (r7).trans hb;go_simp;refine hK'.out _ _ (fun _ => rb.alloc _) ?_;clear hK' K';refine ao 13 (fun wl hl K' hK' => ?_);go_simp;refine (line_any [⟨#[32, 32, 32, 32, 103, 114, 97, 110, 116]⟩, Wd, ⟨#[105, 102]⟩, P0, ⟨#[112, 97, 121]⟩, P1 ++ ⟨#[59]⟩] (F.S.rel ((rb.alloc _).trans hl)) ((Blk.new wb _ _).rel hl) rfl rfl (Nat.le_of_ble_eq_true rfl) (Nat.le_of_ble_eq_true rfl) (by intro x hx; simp only [List.mem_cons, List.not_mem_nil, or_false] at hx; (repeat' (rcases hx with rfl | hx)) <;> (try subst hx) <;> first | omega | (simp only [ByteArray.size_append, szA, List.length]; omega)) (by first | omega | (simp only [ByteArray.size_append]; omega))).mono ?_;rintro e wm ⟨⟨v, rfl⟩, S9, m9⟩;have F := (F.rel ((rb.alloc _).trans hl)).ln S9 m9;refine hK'.out _ _ (mkd (by kernel_rfl)) ?_;clear hK' K';refine ae (fun wn hn => ?_);replace F := F.rel hn;clear rb hb hl S9 m9 hn;rw [ln_gr] at F;clear kb lb r7 hWX c0 c1 c2 c3 c4 c5 c6 c7 c8 c9 c10 c11 c12
           rw [HA.out] at F;go_wp2
           go_roundw
           case rel => exact ⟨k + 1, _, by omega, by go_num, (by simp only [ByteArray.size_append, szA, List.length]; omega), (by show _ = _; rw [take_fold HP.out, <- hV.out]; simp only [grT, wdT, HWd.out, HP0.out, HP1.out]; (try rfl)), Hj F⟩
           case measure => simp [intOf]; omega
          ·have ki : ¬ (k : Int) < (m.gr.length : Int) := by omega
           have HV : Hid (V = m.gr.foldl grT (m.le.foldl leT (m.se.foldl seT (m.cr.foldl crT T0)))) := by show _ = _; rw [hV.out, List.take_of_length_le (by omega)]
           have zV : V.size <= T.size + 93500 := by omega
           clear hF hV hz hlt hk lk;have k1 := F.V.cs;have l1 := F.V.lt;go_wp2_with fail;clear k1 l1
           go_loopw [154] (fun i wx => ∃ (k : Nat) (U : ByteArray), k <= m.re.length /\ i = .int .i64 k /\ U.size <= T.size + 95500 + 4300 * k /\ Hid (U = (m.re.take k).foldl reT (m.gr.foldl grT (m.le.foldl leT (m.se.foldl seT (m.cr.foldl crT T0))))) /\ Hid (F2 w b w.heap.size gv [.string nm, .int .i64 cur, .slice ad vs.length cap] [.int .i64 m.frm, .int .i64 m.mode, .int .i64 m.unit, .slice m.ca m.cr.length m.cc, .slice m.sa m.se.length m.sc, .slice m.la m.le.length m.lc, .slice m.ga m.gr.length m.gc, .slice m.ra m.re.length m.rc] U wx)) (fun i _ => m.re.length - (intOf i).toNat)
           case atStart => exact ⟨0, V, by omega, rfl, (by first | omega | (have := VM.out.l3; omega)), HV, F⟩
           case round =>
            obtain ⟨k, V, hk, rfl, hz, hV, hF⟩ := hrel;have lk := VM.out.l4;have F := hF.out;by_cases hlt : k < m.re.length
            ·have ki : (k : Int) < (m.re.length : Int) := by omega
             obtain ⟨p, g, off, hp, hm, ha, hg, hc⟩ := row_k VB.out.r4 reC_len (by decide) F.S.R hlt;have HA := Hj ha;rw [ha];have HP := Hj hp;obtain ⟨k0, t0, x0⟩ := p;have hF0 := VM.out.e4 _ hm;have hB := VB.out.b4 _ hm;unfold ReB at hB;simp only at hF0 hB;obtain ⟨xa0, xc0, P0, rfl, hP0, zP0, CP⟩ := tp_at (HTW.out.rel F.S.R) (TxB.rel hB.2 F.S.R) hF0;have HP0 := Hj hP0;have c0 := hc 0 _ rfl;have c1 := hc 1 _ rfl;have c2 := hc 2 _ rfl;have c3 := hc 3 _ rfl;have c4 := hc 4 _ rfl;have c5 := hc 5 _ rfl;have c6 := hc 6 _ rfl;simp only [Nat.add_zero] at c0;clear hp hc hm ha hB hP0
             obtain ⟨WX, hWX⟩ : ∃ X, wr.alloc (.cells #[.int .i64 k0, .int .i64 t0.op, .int .i64 t0.va, .int .i64 t0.vb, .int .i64 t0.dm, .string t0.nm, .slice xa0 t0.cnt xc0] 66) = X := ⟨_, rfl⟩;have BB := Blk.new wr 66 #[.int .i64 k0, .int .i64 t0.op, .int .i64 t0.va, .int .i64 t0.vb, .int .i64 t0.dm, .string t0.nm, .slice xa0 t0.cnt xc0];have F := F.al (.cells #[.int .i64 k0, .int .i64 t0.op, .int .i64 t0.va, .int .i64 t0.vb, .int .i64 t0.dm, .string t0.nm, .slice xa0 t0.cnt xc0] 66);rw [hWX] at BB F;have kb := BB.cs;have lb := BB.lt
             obtain ⟨Wd, hWd⟩ : ∃ s, (⟨(nmI benL k0).toArray⟩ : ByteArray) = s := ⟨_, rfl⟩;have zWd : Wd.size <= 12 := by rw [<- hWd]; exact wd_size be12 k0
             have HWd := Hj hWd;clear hWd
             have C0 := Hj fun w' (r : Rel WX w') => CP.out w' (Rel.trans (by rw [<- hWX]; exact (Rel.refl wr).alloc _) r)
             clear CP;have v0 : ¬ 9223372036854775807 < P0.size + 1 := by omega
             go_wp2_with fail;(try rw [hWX]);refine wrq [0, 2, 3, 5, 6] 6 10 (fun w3 h3 => ?_)
             refine ao 1 (fun w4 h4 K' hK' => ?_);go_simp;refine (benefits_any w4).mono ?_;rintro e w5 ⟨gt, rfl, hT5, h5⟩;have r5 := (h3.trans h4).trans h5;refine hK'.out _ _ (fun _ => r5) ?_;clear hK' K';refine ao 4 (fun w6 h6 K' hK' => ?_);go_simp;refine (byW benL 5 gt 5 k0 Wd w6 (hT5.rel h6) rfl (by decide) HWd.out).mono ?_;rintro e w7 ⟨rfl, h7⟩;have r7 := (r5.trans h6).trans h7;refine hK'.out _ _ (fun _ => r7) ?_;clear hK' K' h3 h4 h5 h6 h7 hT5 r5;refine wrm [7, 8] 2 10 (fun _ => r7) ?_
             refine ao 9 (fun wb hb K' hK' => ?_);have rb := (r7).trans hb;go_simp;refine hK'.out _ _ (fun _ => rb.alloc _) ?_;clear hK' K';refine ao 10 (fun wl hl K' hK' => ?_);go_simp;refine (line_any [⟨#[32, 32, 32, 32, 114, 101, 100, 117, 99, 101]⟩, Wd, ⟨#[98, 121]⟩, P0 ++ ⟨#[59]⟩] (F.S.rel ((rb.alloc _).trans hl)) ((Blk.new wb _ _).rel hl) rfl rfl (Nat.le_of_ble_eq_true rfl) (Nat.le_of_ble_eq_true rfl) (by intro x hx; simp only [List.mem_cons, List.not_mem_nil, or_false] at hx; (repeat' (rcases hx with rfl | hx)) <;> (try subst hx) <;> first | omega | (simp only [ByteArray.size_append, szA, List.length]; omega)) (by first | omega | (simp only [ByteArray.size_append]; omega))).mono ?_;rintro e wm ⟨⟨v, rfl⟩, S9, m9⟩;have F := (F.rel ((rb.alloc _).trans hl)).ln S9 m9;refine hK'.out _ _ (mkd (by kernel_rfl)) ?_;clear hK' K';refine ae (fun wn hn => ?_);replace F := F.rel hn;clear rb hb hl S9 m9 hn;rw [ln_re] at F;clear kb lb r7 hWX c0 c1 c2 c3 c4 c5 c6
             rw [HA.out] at F;go_wp2
             go_roundw
             case rel => exact ⟨k + 1, _, by omega, by go_num, (by simp only [ByteArray.size_append, szA, List.length]; omega), (by show _ = _; rw [take_fold HP.out, <- hV.out]; simp only [reT, wdT, HWd.out, HP0.out]; (try rfl)), Hj F⟩
             case measure => simp [intOf]; omega
            ·have ki : ¬ (k : Int) < (m.re.length : Int) := by omega
             have HV : Hid (V = m.re.foldl reT (m.gr.foldl grT (m.le.foldl leT (m.se.foldl seT (m.cr.foldl crT T0))))) := by show _ = _; rw [hV.out, List.take_of_length_le (by omega)]
             have zV : V.size <= T.size + 117000 := by omega
             clear hF hV hz hlt hk lk;go_wp2_with fail;refine al_c fun Y BY RY hY => ?_
             refine (line_any [⟨#[32, 32, 125]⟩] (F.S.rel RY) BY rfl rfl (Nat.le_of_ble_eq_true rfl) (Nat.le_of_ble_eq_true rfl) (by intro x hx; simp only [List.mem_cons, List.not_mem_nil, or_false] at hx; (repeat' (rcases hx with rfl | hx)) <;> (try subst hx) <;> first | omega | (simp only [ByteArray.size_append, szA, List.length]; omega)) (by first | omega | (simp only [ByteArray.size_append]; omega))).mono ?_;rintro e w3 ⟨⟨v, rfl⟩, S9, m9⟩;have F := (F.rel RY).ln S9 m9;rw [ln_v] at F;clear S9 m9 BY RY hY;go_wp2
             go_roundw
             case rel => exact ⟨kO + 1, _, by omega, by go_num, (by simp only [ByteArray.size_append, szA, List.length]; omega), (by show _ = _; rw [take_fold HPO.out, <- hT.out]; simp only [verT, HV.out, HH.out]; (try rfl)), Hj ⟨F.S, by have := F.X; rwa [HAO.out] at this⟩⟩
             case measure => simp [intOf]; omega
  ·have ki : ¬ (kO : Int) < (vs.length : Int) := by omega
   obtain ⟨hS, hX⟩ := hSX.out;have HV : Hid (T = vs.foldl verT S0) := by show _ = _; rw [hT.out, List.take_of_length_le (by omega)]
   have zT : T.size <= 1000000 := by omega
   clear hT hSX hX;go_wp2_with fail;refine al_c fun Y BY RY hY => ?_
   refine (line_any [⟨#[125]⟩] (hS.rel RY) BY rfl rfl (Nat.le_of_ble_eq_true rfl) (Nat.le_of_ble_eq_true rfl) (by intro x hx; simp only [List.mem_cons, List.not_mem_nil, or_false] at hx; (repeat' (rcases hx with rfl | hx)) <;> (try subst hx) <;> first | omega | (simp only [ByteArray.size_append, szA, List.length]; omega)) (by first | omega | (simp only [ByteArray.size_append]; omega))).mono ?_;rintro e w3 ⟨⟨v, rfl⟩, S9, m9⟩;rw [ln_s] at S9
   have e9 : T ++ ⟨#[125, 10]⟩ = staT ⟨nm, cur, vs, ad, cap⟩ := by
    rw [HV.out, <- HS.out, <- HN.out];unfold staT
    congr 2 <;> (try (apply ba_ext; simp))
   rw [e9] at S9;clear m9 BY RY hY hS;go_wp2_with fail;refine (sb_string S9).mono ?_;rintro e w4 ⟨rfl, r4⟩;have R4 := Hj r4;clear S9 r4 e9;go_wp2
   go_ret2
   exact ⟨rfl, R4.out⟩
set_option maxRecDepth 20000 in
theorem sFormat_no (s : StaM) (w : World) (HV : Hid (∀ w', Rel w w' -> Calls prog 29 #[s.val] w' (fun e w1 => e = .returned (.bool false) /\ Rel w' w1))) :
  Calls prog 12 #[s.val] w (fun e w1 => e = .returned (.tuple #[.string ⟨#[]⟩, .bool false]) /\ Rel w w1) := by
 obtain ⟨nm, cur, vs, ad, cap⟩ := s;unfold StaM.val at HV |-;dsimp only at HV |-;go_enter func12, ntmps12;go_wp2_with fail;refine al_c fun W1 B1 R1 hz1 => ?_
 refine (HV.out _ R1).mono ?_;rintro e w1 ⟨rfl, h1⟩;have RR := Hj (R1.trans h1);clear HV B1 R1 h1;go_wp2
 go_ret2
 exact ⟨rfl, RR.out⟩
theorem sFormat_any (s : StaM) (w : World) (hV : StaAt w s) (ht : TabW w) (HV : Hid (∀ s w, StaAt w s -> TabW w -> Calls prog 29 #[s.val] w (BRes s.pl.valid w))) :
  Calls prog 12 #[s.val] w (fun e w1 => e = .returned (.tuple #[.string (if s.pl.valid = true then staT s else ⟨#[]⟩), .bool s.pl.valid]) /\ Rel w w1) := by
 have H : ∀ v, s.pl.valid = v -> Hid (∀ w', Rel w w' -> Calls prog 29 #[s.val] w' (fun e w1 => e = .returned (.bool v) /\ Rel w' w1)) := fun v hv => Hj fun w' r => by
  have := HV.out s w' (StaB.rel hV r) (ht.rel r);unfold BRes at this
  rwa [hv] at this
 cases hv : s.pl.valid
 ·exact sFormat_no s w (H _ hv)
 ·exact sFormat_yes s w hV hv ht (H _ hv)
end Go.Proofs.YthmlhheceihcbaaGreatDoor

/- Lemmas, each as it is printed; no conditions but those printed. -/
import Derived.Test.YthmlhheceihcbaaGreatDoorKB33
import Derived.Test.YthmlhheceihcbaaGreatDoorKB10
namespace Go.Proofs.YthmlhheceihcbaaGreatDoor
set_option maxHeartbeats 16000000
open Go.RowKit Cal Str Tok Frac Txt Tree Go.Proofs.Tryz
attribute [local go_sem] calmUpon
set_option linter.unusedVariables false
set_option linter.unusedSimpArgs false
theorem map_at {α β : Type} {f : α -> β} {l l' : List α} (h : l.map f = l'.map f) {i : Nat} {p q : α} (hp : l[i]? = some p) (hq : l'[i]? = some q) : f p = f q := by
 have := congrArg (fun l => l[i]?) h;simpa [hp, hq] using this
theorem map_len {α β : Type} {f : α -> β} {l l' : List α} (h : l.map f = l'.map f) : l.length = l'.length := by
 have := congrArg List.length h;simpa using this
def RowW (w : World) (ad : Option Addr) {α : Type} (L : List α) (d : Nat) (c : α -> List Value) : Prop := 0 < L.length -> ∃ g off, ad = some ⟨g, off, none⟩ /\ g < w.heap.size /\ ∀ i p, L[i]? = some p -> ∀ j u, (c p)[j]? = some u -> w.cell? ⟨g, off + i * d + j, none⟩ = some u
theorem rowW {P : Nat -> Prop} {w w' : World} {ad : Option Addr} {α : Type} {c : α -> List Value} {d : Nat} {L : List α} (h : RowB P w ad (L.flatMap c)) (hc : ∀ p, (c p).length = d) (hd : 0 < d) (r : Rel w w') : RowW w' ad L d c := fun h0 => by
 obtain ⟨g, off, e, hg, -, hr⟩ := row_open h hc hd h0;exact ⟨g, off, e, r.lt hg, fun i p hp j u hu => r.cell (hr i p hp j u hu)⟩
theorem RowW.rel {w w' : World} {ad : Option Addr} {α : Type} {c : α -> List Value} {d : Nat} {L : List α} (h : RowW w ad L d c) (r : Rel w w') : RowW w' ad L d c := fun h0 => by
 obtain ⟨g, off, e, hg, hr⟩ := h h0;exact ⟨g, off, e, r.lt hg, fun i p hp j u hu => r.cell (hr i p hp j u hu)⟩
def cellsJ (w : World) (g o : Nat) : Nat -> List Value -> Prop
 | _, [] => True
 | j, v :: l => w.cell? ⟨g, o + j, none⟩ = some v /\ cellsJ w g o (j + 1) l
theorem cellsJ_of {w : World} {g o : Nat} : ∀ {l : List Value} {i : Nat}, (∀ j u, l[j]? = some u -> w.cell? ⟨g, o + (i + j), none⟩ = some u) -> cellsJ w g o i l
 | [], _, _ => trivial
 | v :: l, i, h => ⟨h 0 v rfl, cellsJ_of (fun j u hj => by have := h (j + 1) u (by simpa using hj); rw [show i + (j + 1) = i + 1 + j by omega] at this; exact this)⟩
theorem rowC {w : World} {g o : Nat} {l : List Value} (h : ∀ j u, l[j]? = some u -> w.cell? ⟨g, o + j, none⟩ = some u) {p : Prop} (e : cellsJ w g o 0 l = p := by simp only [crC, seC, leC, grC, reC, cellsJ, and_true, Nat.add_zero, Nat.zero_add, Nat.reduceAdd]; rfl) : p := e ▸ cellsJ_of (fun j u hj => by rw [Nat.zero_add]; exact h j u hj)
set_option maxRecDepth 20000 in
theorem rSameV_eq (a b : VerM) (w : World) (ha : VerB (fun _ => True) w a) (hb : VerB (fun _ => True) w b) (he : a.pl = b.pl) : Calls prog 38 #[a.val, b.val] w (BRes true w) := by
 obtain ⟨f, mo, un, C, S, L, G, R, aC, aS, aL, aG, aR, pC, pS, pL, pG, pR⟩ := a;obtain ⟨f', mo', un', C', S', L', G', R', bC, bS, bL, bG, bR, qC, qS, qL, qG, qR⟩ := b;simp only [VerM.pl, Ver.mk.injEq] at he;obtain ⟨rfl, rfl, rfl, rfl, rfl, hL, hG, hR⟩ := he;unfold BRes VerM.val;dsimp only;have eL := map_len hL;have eG := map_len hG;have eR := map_len hR;have n0 : C.length <= 100000 := ha.n0;have n1 : S.length <= 100000 := ha.n1;have n2 : L.length <= 100000 := ha.n2;have n3 : G.length <= 100000 := ha.n3;have n4 : R.length <= 100000 := ha.n4;rw [<- eL, <- eG, <- eR];obtain ⟨WB, hWB⟩ : ∃ X, (w.alloc (.cells #[.int .i64 f, .int .i64 mo, .int .i64 un, .slice aC C.length pC, .slice aS S.length pS, .slice aL L.length pL, .slice aG G.length pG, .slice aR R.length pR] 48)).alloc (.cells #[.int .i64 f, .int .i64 mo, .int .i64 un, .slice bC C.length qC, .slice bS S.length qS, .slice bL L.length qL, .slice bG G.length qG, .slice bR R.length qR] 48) = X := ⟨_, rfl⟩;have R0 : Rel w WB := by rw [<- hWB]; exact ((Rel.refl w).alloc _).alloc _
 have BA : Blk WB w.heap.size 48 [.int .i64 f, .int .i64 mo, .int .i64 un, .slice aC C.length pC, .slice aS S.length pS, .slice aL L.length pL, .slice aG G.length pG, .slice aR R.length pR] := by rw [<- hWB]; exact (Blk.new w _ #[_, _, _, _, _, _, _, _]).alloc _
 have BB : Blk WB (w.heap.size + 1) 48 [.int .i64 f, .int .i64 mo, .int .i64 un, .slice bC C.length qC, .slice bS S.length qS, .slice bL L.length qL, .slice bG G.length qG, .slice bR R.length qR] := by
  rw [<- hWB];have h := Blk.new (w.alloc (.cells #[.int .i64 f, .int .i64 mo, .int .i64 un, .slice aC C.length pC, .slice aS S.length pS, .slice aL L.length pL, .slice aG G.length pG, .slice aR R.length pR] 48)) 48 #[.int .i64 f, .int .i64 mo, .int .i64 un, .slice bC C.length qC, .slice bS S.length qS, .slice bL L.length qL, .slice bG G.length qG, .slice bR R.length qR]
  rwa [World.size_alloc] at h
 have AC := rowW ha.r0 crC_len (by decide) R0;have BC := rowW hb.r0 crC_len (by decide) R0;have AS := rowW ha.r1 seC_len (by decide) R0;have BS := rowW hb.r1 seC_len (by decide) R0;have AL := rowW ha.r2 leC_len (by decide) R0;have BL := rowW hb.r2 leC_len (by decide) R0;have AG := rowW ha.r3 grC_len (by decide) R0;have BG := rowW hb.r3 grC_len (by decide) R0;have AR := rowW ha.r4 reC_len (by decide) R0;have BR := rowW hb.r4 reC_len (by decide) R0;have TL : Hid (∀ p ∈ L, LeB (fun _ => True) w p) := ha.b2;have TL' : Hid (∀ p ∈ L', LeB (fun _ => True) w p) := hb.b2;have TG : Hid (∀ p ∈ G, GrB (fun _ => True) w p) := ha.b3;have TG' : Hid (∀ p ∈ G', GrB (fun _ => True) w p) := hb.b3;have TR : Hid (∀ p ∈ R, ReB (fun _ => True) w p) := ha.b4;have TR' : Hid (∀ p ∈ R', ReB (fun _ => True) w p) := hb.b4;have HL := Hj hL;have HG := Hj hG;have HR := Hj hR;have EL := Hj eL;have EG := Hj eG;have ER := Hj eR;have kA := BA.cs;have kB := BB.cs;have kAl := BA.lt;have kBl := BB.lt;clear ha hb hL hG hR eL eG eR;go_enter func38, ntmps38;go_wp2_with fail;(try rw [hWB]);clear hWB
 go_loopw [5] (fun z wx => ∃ i : Nat, i <= C.length /\ z = .int .i64 i /\ Rel WB wx) (fun i _ => C.length - (intOf i).toNat)
 case atStart => exact ⟨0, by omega, rfl, Rel.refl _⟩
 case round =>
  obtain ⟨i, hi, rfl, hR⟩ := hrel;have kA := (BA.rel hR).cs;have kB := (BB.rel hR).cs;have kAl := (BA.rel hR).lt;have kBl := (BB.rel hR).lt;by_cases hlt : i < C.length
  ·have ki : (i : Int) < (C.length : Int) := by omega
   obtain ⟨g, off, rfl, hg, hc⟩ := (AC.rel hR) (by omega);obtain ⟨g', off', rfl, hg', hc'⟩ := (BC.rel hR) (by omega);obtain ⟨p, hp⟩ : ∃ p, C[i]? = some p := get_some hlt;have m := rowC (hc i _ hp);have m' := rowC (hc' i _ hp);clear hc hc' hp;go_wp2_with fail;refine wrd (fun w1 h1 => ?_);have hR := hR.trans h1;clear h1 kA kB kAl kBl m m';go_wp2
   go_roundw
   case rel => exact ⟨i + 1, by omega, by go_num, hR⟩
   case measure => simp [intOf]; omega
  ·have ki : decide ((i : Int) < (C.length : Int)) = false := dF (by omega);go_wp2_with fail;clear kA kB kAl kBl ki
   go_loopw [6] (fun z wx => ∃ i : Nat, i <= S.length /\ z = .int .i64 i /\ Rel WB wx) (fun i _ => S.length - (intOf i).toNat)
   case atStart => exact ⟨0, by omega, rfl, hR⟩
   case round =>
    obtain ⟨i, hi, rfl, hR⟩ := hrel;have kA := (BA.rel hR).cs;have kB := (BB.rel hR).cs;have kAl := (BA.rel hR).lt;have kBl := (BB.rel hR).lt;by_cases hlt : i < S.length
    ·have ki : (i : Int) < (S.length : Int) := by omega
     obtain ⟨g, off, rfl, hg, hc⟩ := (AS.rel hR) (by omega);obtain ⟨g', off', rfl, hg', hc'⟩ := (BS.rel hR) (by omega);obtain ⟨p, hp⟩ : ∃ p, S[i]? = some p := get_some hlt;have m := rowC (hc i _ hp);have m' := rowC (hc' i _ hp);clear hc hc' hp;go_wp2_with fail;refine wrd (fun w1 h1 => ?_);have hR := hR.trans h1;clear h1 kA kB kAl kBl m m';go_wp2
     go_roundw
     case rel => exact ⟨i + 1, by omega, by go_num, hR⟩
     case measure => simp [intOf]; omega
    ·have ki : decide ((i : Int) < (S.length : Int)) = false := dF (by omega);go_wp2_with fail;clear kA kB kAl kBl ki
     go_loopw [7] (fun z wx => ∃ i : Nat, i <= L.length /\ z = .int .i64 i /\ Rel WB wx) (fun i _ => L.length - (intOf i).toNat)
     case atStart => exact ⟨0, by omega, rfl, hR⟩
     case round =>
      obtain ⟨i, hi, rfl, hR⟩ := hrel;have kA := (BA.rel hR).cs;have kB := (BB.rel hR).cs;have kAl := (BA.rel hR).lt;have kBl := (BB.rel hR).lt;by_cases hlt : i < L.length
      ·have ki : (i : Int) < (L.length : Int) := by omega
       obtain ⟨g, off, rfl, hg, hc⟩ := (AL.rel hR) (by omega);obtain ⟨g', off', rfl, hg', hc'⟩ := (BL.rel hR) (by have := EL.out; omega);obtain ⟨p, hp⟩ : ∃ p, L[i]? = some p := get_some hlt;obtain ⟨q, hq⟩ : ∃ p, L'[i]? = some p := get_some (by have := EL.out; omega);have ee := map_at HL.out hp hq;have tp := TL.out p (List.mem_of_getElem? hp);have tq := TL'.out q (List.mem_of_getElem? hq);obtain ⟨s, t, v⟩ := p;obtain ⟨s', t', v'⟩ := q;obtain ⟨rfl, rfl⟩ : s = s' /\ t = t' := by simpa using ee
       obtain ⟨xt, ct, e1⟩ := kids_slice (kidsB_to tp.2.1);obtain ⟨yt, dt, e2⟩ := kids_slice (kidsB_to tq.2.1);simp only at e1 e2;subst e1;subst e2;have C0 := Hj fun w' (r : Rel wr w') => rSame_any t t _ _ w' (kids_rel (kidsB_to tp.2.1) ((R0.trans hR).trans r)) (kids_rel (kidsB_to tq.2.1) ((R0.trans hR).trans r))
       unfold BRes at C0;rw [same_refl] at C0;clear ee tp tq;have m := rowC (hc i _ hp);have m' := rowC (hc' i _ hq);clear hc hc' hp hq;go_wp2_with fail;refine wrd (fun w1 h1 => ?_);have hR := hR.trans h1;clear h1 kA kB kAl kBl m m';go_wp2
       go_roundw
       case rel => exact ⟨i + 1, by omega, by go_num, hR⟩
       case measure => simp [intOf]; omega
      ·have ki : decide ((i : Int) < (L.length : Int)) = false := dF (by omega);go_wp2_with fail;clear kA kB kAl kBl ki
       go_loopw [8] (fun z wx => ∃ i : Nat, i <= G.length /\ z = .int .i64 i /\ Rel WB wx) (fun i _ => G.length - (intOf i).toNat)
       case atStart => exact ⟨0, by omega, rfl, hR⟩
       case round =>
        obtain ⟨i, hi, rfl, hR⟩ := hrel;have kA := (BA.rel hR).cs;have kB := (BB.rel hR).cs;have kAl := (BA.rel hR).lt;have kBl := (BB.rel hR).lt;by_cases hlt : i < G.length
        ·have ki : (i : Int) < (G.length : Int) := by omega
         obtain ⟨g, off, rfl, hg, hc⟩ := (AG.rel hR) (by omega);obtain ⟨g', off', rfl, hg', hc'⟩ := (BG.rel hR) (by have := EG.out; omega);obtain ⟨p, hp⟩ : ∃ p, G[i]? = some p := get_some hlt;obtain ⟨q, hq⟩ : ∃ p, G'[i]? = some p := get_some (by have := EG.out; omega);have ee := map_at HG.out hp hq;have tp := TG.out p (List.mem_of_getElem? hp);have tq := TG'.out q (List.mem_of_getElem? hq);obtain ⟨s, ⟨t, v⟩, ⟨u, z⟩⟩ := p;obtain ⟨s', ⟨t', v'⟩, ⟨u', z'⟩⟩ := q;obtain ⟨rfl, rfl, rfl⟩ : s = s' /\ t = t' /\ u = u' := by simpa using ee
         obtain ⟨xt, ct, e1⟩ := kids_slice (kidsB_to tp.2.1.1);obtain ⟨yt, dt, e2⟩ := kids_slice (kidsB_to tq.2.1.1);simp only at e1 e2;subst e1;subst e2;have C0 := Hj fun w' (r : Rel wr w') => rSame_any t t _ _ w' (kids_rel (kidsB_to tp.2.1.1) ((R0.trans hR).trans r)) (kids_rel (kidsB_to tq.2.1.1) ((R0.trans hR).trans r))
         unfold BRes at C0;rw [same_refl] at C0;obtain ⟨xu, cu, e1⟩ := kids_slice (kidsB_to tp.2.2.1);obtain ⟨yu, du, e2⟩ := kids_slice (kidsB_to tq.2.2.1);simp only at e1 e2;subst e1;subst e2;have C1 := Hj fun w' (r : Rel wr w') => rSame_any u u _ _ w' (kids_rel (kidsB_to tp.2.2.1) ((R0.trans hR).trans r)) (kids_rel (kidsB_to tq.2.2.1) ((R0.trans hR).trans r))
         unfold BRes at C1;rw [same_refl] at C1;clear ee tp tq;have m := rowC (hc i _ hp);have m' := rowC (hc' i _ hq);clear hc hc' hp hq;go_wp2_with fail;refine wrd (fun w1 h1 => ?_);have hR := hR.trans h1;clear h1 kA kB kAl kBl m m';go_wp2
         go_roundw
         case rel => exact ⟨i + 1, by omega, by go_num, hR⟩
         case measure => simp [intOf]; omega
        ·have ki : decide ((i : Int) < (G.length : Int)) = false := dF (by omega);go_wp2_with fail;clear kA kB kAl kBl ki
         go_loopw [9] (fun z wx => ∃ i : Nat, i <= R.length /\ z = .int .i64 i /\ Rel WB wx) (fun i _ => R.length - (intOf i).toNat)
         case atStart => exact ⟨0, by omega, rfl, hR⟩
         case round =>
          obtain ⟨i, hi, rfl, hR⟩ := hrel;have kA := (BA.rel hR).cs;have kB := (BB.rel hR).cs;have kAl := (BA.rel hR).lt;have kBl := (BB.rel hR).lt;by_cases hlt : i < R.length
          ·have ki : (i : Int) < (R.length : Int) := by omega
           obtain ⟨g, off, rfl, hg, hc⟩ := (AR.rel hR) (by omega);obtain ⟨g', off', rfl, hg', hc'⟩ := (BR.rel hR) (by have := ER.out; omega);obtain ⟨p, hp⟩ : ∃ p, R[i]? = some p := get_some hlt;obtain ⟨q, hq⟩ : ∃ p, R'[i]? = some p := get_some (by have := ER.out; omega);have ee := map_at HR.out hp hq;have tp := TR.out p (List.mem_of_getElem? hp);have tq := TR'.out q (List.mem_of_getElem? hq);obtain ⟨s, t, v⟩ := p;obtain ⟨s', t', v'⟩ := q;obtain ⟨rfl, rfl⟩ : s = s' /\ t = t' := by simpa using ee
           obtain ⟨xt, ct, e1⟩ := kids_slice (kidsB_to tp.2.1);obtain ⟨yt, dt, e2⟩ := kids_slice (kidsB_to tq.2.1);simp only at e1 e2;subst e1;subst e2;have C0 := Hj fun w' (r : Rel wr w') => rSame_any t t _ _ w' (kids_rel (kidsB_to tp.2.1) ((R0.trans hR).trans r)) (kids_rel (kidsB_to tq.2.1) ((R0.trans hR).trans r))
           unfold BRes at C0;rw [same_refl] at C0;clear ee tp tq;have m := rowC (hc i _ hp);have m' := rowC (hc' i _ hq);clear hc hc' hp hq;go_wp2_with fail;refine wrd (fun w1 h1 => ?_);have hR := hR.trans h1;clear h1 kA kB kAl kBl m m';go_wp2
           go_roundw
           case rel => exact ⟨i + 1, by omega, by go_num, hR⟩
           case measure => simp [intOf]; omega
          ·have ki : decide ((i : Int) < (R.length : Int)) = false := dF (by omega);go_wp2;go_ret;exact ⟨rfl, R0.trans hR⟩
theorem rowD {w : World} {g o : Nat} {m : VerM} (h : ∀ j u, (verC m)[j]? = some u -> w.cell? ⟨g, o + j, none⟩ = some u) {p : Prop} (e : cellsJ w g o 0 (verC m) = p := by simp only [verC, cellsJ, and_true, Nat.add_zero, Nat.zero_add, Nat.reduceAdd]; rfl) : p := e ▸ cellsJ_of (fun j u hj => by rw [Nat.zero_add]; exact h j u hj)
set_option maxRecDepth 20000 in
theorem rSame_eq (a b : StaM) (w : World) (ha : StaAt w a) (hb : StaAt w b) (he : a.pl = b.pl) : Calls prog 11 #[a.val, b.val] w (BRes true w) := by
 obtain ⟨nm, cu, L, aL, pL⟩ := a;obtain ⟨nm', cu', M, aM, pM⟩ := b;simp only [StaM.pl, Sta.mk.injEq] at he;obtain ⟨rfl, rfl, hM⟩ := he;unfold BRes StaM.val;dsimp only;have eM := map_len hM;have n0 : L.length <= 100000 := ha.l;rw [<- eM];obtain ⟨WB, hWB⟩ : ∃ X, (w.alloc (.cells #[.string nm, .int .i64 cu, .slice aL L.length pL] 28)).alloc (.cells #[.string nm, .int .i64 cu, .slice aM L.length pM] 28) = X := ⟨_, rfl⟩;have R0 : Rel w WB := by rw [<- hWB]; exact ((Rel.refl w).alloc _).alloc _
 have BA : Blk WB w.heap.size 28 [.string nm, .int .i64 cu, .slice aL L.length pL] := by rw [<- hWB]; exact (Blk.new w _ #[_, _, _]).alloc _
 have BB : Blk WB (w.heap.size + 1) 28 [.string nm, .int .i64 cu, .slice aM L.length pM] := by
  rw [<- hWB];have h := Blk.new (w.alloc (.cells #[.string nm, .int .i64 cu, .slice aL L.length pL] 28)) 28 #[.string nm, .int .i64 cu, .slice aM L.length pM]
  rwa [World.size_alloc] at h
 have AL := rowW ha.r verC_len (by decide) R0;have AM := rowW hb.r verC_len (by decide) R0;have TL : Hid (∀ p ∈ L, VerB (fun _ => True) w p) := ha.b;have TM : Hid (∀ p ∈ M, VerB (fun _ => True) w p) := hb.b;have HM := Hj hM;have EM := Hj eM;have kA := BA.cs;have kB := BB.cs;have kAl := BA.lt;have kBl := BB.lt;clear ha hb hM eM;go_enter func11, ntmps11;go_wp2_with fail;(try rw [hWB]);clear hWB kA kB kAl kBl
 go_loopw [5] (fun z wx => ∃ i : Nat, i <= L.length /\ z = .int .i64 i /\ Rel WB wx) (fun i _ => L.length - (intOf i).toNat)
 case atStart => exact ⟨0, by omega, rfl, Rel.refl _⟩
 case round =>
  obtain ⟨i, hi, rfl, hR⟩ := hrel;have kA := (BA.rel hR).cs;have kB := (BB.rel hR).cs;have kAl := (BA.rel hR).lt;have kBl := (BB.rel hR).lt;by_cases hlt : i < L.length
  ·have ki : (i : Int) < (L.length : Int) := by omega
   obtain ⟨g, off, rfl, hg, hc⟩ := (AL.rel hR) (by omega);obtain ⟨g', off', rfl, hg', hc'⟩ := (AM.rel hR) (by have := EM.out; omega);obtain ⟨p, hp⟩ : ∃ p, L[i]? = some p := get_some hlt;obtain ⟨q, hq⟩ : ∃ p, M[i]? = some p := get_some (by have := EM.out; omega);have ee := map_at HM.out hp hq;have tp := TL.out p (List.mem_of_getElem? hp);have tq := TM.out q (List.mem_of_getElem? hq);have C0 := Hj fun w' (r : Rel wr w') => rSameV_eq p q w' (VerB.rel tp ((R0.trans hR).trans r)) (VerB.rel tq ((R0.trans hR).trans r)) ee
   unfold BRes VerM.val at C0;have m := rowD (hc i _ hp);have m' := rowD (hc' i _ hq);clear ee tp tq hc hc' hp hq;go_wp2_with fail;refine wrd (fun w1 h1 => ?_);have hR := hR.trans h1;clear h1 kA kB kAl kBl m m';go_wp2
   go_roundw
   case rel => exact ⟨i + 1, by omega, by go_num, hR⟩
   case measure => simp [intOf]; omega
  ·have ki : decide ((i : Int) < (L.length : Int)) = false := dF (by omega);go_wp2;go_ret;exact ⟨rfl, R0.trans hR⟩
end Go.Proofs.YthmlhheceihcbaaGreatDoor

/- Lemmas, each as it is printed; no conditions but those printed. -/
import Derived.Test.YthmlhheceihcbaaGreatDoorKB13
namespace Go.Proofs.YthmlhheceihcbaaGreatDoor
set_option maxHeartbeats 16000000
open Go.RowKit Cal Str Tok Frac Txt Tree Go.Proofs.Tryz
set_option linter.unusedVariables false
set_option linter.unusedSimpArgs false
theorem VerB.grown {base : Nat} {Z : Nat -> Prop} {ra : Option Addr} {k rc g H : Nat} {w w' : World} {m : VerM} (h : VerB (fun q => (base <= q /\ Z q) /\ OffB ra q) w m) (hg : w.grownBy w' (Value.slice ra k rc).ownBlock) (hat : (Value.slice ra k rc).ownBlock = some g \/ g = H) (hH : w.heap.size <= H) : VerB (fun q => (base <= q /\ Z q) /\ OffB (some ⟨g, 0, none⟩) q) w' m :=
 h.keep hg.size (fun q hq hp => ⟨offB_grown hg hq hp.2, hp.1, offB_next hat (by omega) hp.2⟩)
theorem VerB.ro {P : Nat -> Prop} {b : Nat} {w w' : World} {m : VerM} (h : VerB P w m) (r : Ro b w w') (hb : ∀ q, P q -> q ≠ b) : VerB P w' m := h.keep r.size (fun q hq hp => ⟨r.block q hq (hb q hp), hp⟩)
theorem VerB.mono {P Q : Nat -> Prop} {w : World} {m : VerM} (h : VerB P w m) (hb : ∀ q, P q -> Q q) : VerB Q w m := h.keep (Nat.le_refl _) (fun q hq hp => ⟨rfl, hb q hp⟩)
theorem VerB.lt {P Q : Nat -> Prop} {w : World} {m : VerM} (h : VerB P w m) (hb : ∀ q, P q -> q < w.heap.size -> Q q) : VerB Q w m := h.keep (Nat.le_refl _) (fun q hq hp => ⟨rfl, hb q hp hq⟩)
theorem VerB.frm {P : Nat -> Prop} {w : World} {m : VerM} (h : VerB P w m) {z : Int} (hz : I64 z) : VerB P w { m with frm := z } := { h with i0 := hz }
def VerS (P : Nat -> Prop) (w : World) (m : VerM) : Prop := VerB P w m /\ m.cr.length <= 99999 /\ m.se.length <= 99999
theorem VerS.rel {P : Nat -> Prop} {w w' : World} {m : VerM} (h : VerS P w m) (r : Rel w w') : VerS P w' m := ⟨VerB.rel h.1 r, h.2⟩
theorem VerS.grown {base : Nat} {Z : Nat -> Prop} {ra : Option Addr} {k rc g H : Nat} {w w' : World} {m : VerM} (h : VerS (fun q => (base <= q /\ Z q) /\ OffB ra q) w m) (hg : w.grownBy w' (Value.slice ra k rc).ownBlock) (hat : (Value.slice ra k rc).ownBlock = some g \/ g = H) (hH : w.heap.size <= H) : VerS (fun q => (base <= q /\ Z q) /\ OffB (some ⟨g, 0, none⟩) q) w' m := ⟨VerB.grown h.1 hg hat hH, h.2⟩
theorem VerS.ro {P : Nat -> Prop} {b : Nat} {w w' : World} {m : VerM} (h : VerS P w m) (r : Ro b w w') (hb : ∀ q, P q -> q ≠ b) : VerS P w' m := ⟨VerB.ro h.1 r hb, h.2⟩
theorem VerS.mono {P Q : Nat -> Prop} {w : World} {m : VerM} (h : VerS P w m) (hb : ∀ q, P q -> Q q) : VerS Q w m := ⟨VerB.mono h.1 hb, h.2⟩
theorem VerS.lt {P Q : Nat -> Prop} {w : World} {m : VerM} (h : VerS P w m) (hb : ∀ q, P q -> q < w.heap.size -> Q q) : VerS Q w m := ⟨VerB.lt h.1 hb, h.2⟩
theorem VerS.frm {P : Nat -> Prop} {w : World} {m : VerM} (h : VerS P w m) {z : Int} (hz : I64 z) : VerS P w { m with frm := z } := ⟨VerB.frm h.1 hz, h.2⟩
structure StS (w W : World) (zer l : List Value) : Prop where
 rel : Rel w W
 r : Blk W w.heap.size 28 zer
 o : Blk W (w.heap.size + 1) 28 l
section
variable {w W X Y Z : World} {zer l : List Value} {T : TypeId} {base d n k rc : Nat} {ra : Option Addr} {vs : List Value}
theorem StS.on (h : StS w W zer l) (r : Rel W X) : StS w X zer l := ⟨h.rel.trans r, h.r.rel r, h.o.rel r⟩
theorem StS.put (h : StS w W zer l) (i : Nat) (u : Value) : StS w (W.setCell ⟨w.heap.size + 1, i, none⟩ u) zer (l.set i u) :=
 ⟨h.rel.setCell (p := ⟨w.heap.size + 1, i, none⟩) (by simp) u, h.r.other (by omega) i u, h.o.set i u⟩
theorem StS.app (h : StS w W zer l) (hO : W.ownsRow base T d (.slice ra k rc) n vs) (hb : w.heap.size + 1 < base) (r : Rel W Y) (hg : Y.grownBy Z (Value.slice ra k rc).ownBlock) : StS w Z zer l := by
 have h2 := h.on r;have hrow : ∀ q, (Value.slice ra k rc).ownBlock = some q -> base <= q := fun q hq => (hO.lt q hq).1
 exact ⟨Below.grown h2.rel hg h2.rel.size (fun q hq => by have := hrow q hq; omega), h2.r.grown hg (fun e => by have := hrow _ e.symm; omega), h2.o.grown hg (fun e => by have := hrow _ e.symm; omega)⟩
end
end Go.Proofs.YthmlhheceihcbaaGreatDoor
namespace Go.Proofs.YthmlhheceihcbaaGreatDoor
set_option maxHeartbeats 16000000
open Cal Str Tok Frac Txt Tree
set_option linter.unusedVariables false
def tabI : List (List UInt8 × Int) -> ByteArray -> Int
 | [], _ => 0
 | p :: l, s => if (s.data.toList == p.1) = true then p.2 else tabI l s
def nmI : List (List UInt8 × Int) -> Int -> List UInt8
 | [], _ => []
 | p :: l, z => if p.2 = z then p.1 else nmI l z
def kndL : List (List UInt8 × Int) := [([118, 111, 108, 117, 110, 116, 97, 114, 121], 6), ([115, 101, 114, 118, 105, 99, 101], 9), ([117, 110, 101, 109, 112, 108, 111, 121, 101, 100], 7), ([115, 105, 99, 107], 8), ([99, 104, 105, 108, 100], 10), ([114, 101, 115, 105, 100, 101, 110, 99, 101], 5)]
def benL : List (List UInt8 × Int) := [([111, 108, 100], 1), ([100, 105, 115, 97, 98, 105, 108, 105, 116, 121], 2), ([115, 117, 114, 118, 105, 118, 111, 114], 3), ([102, 97, 109, 105, 108, 121], 4), ([115, 105, 99, 107, 110, 101, 115, 115], 5)]
def modL : List (List UInt8 × Int) := [([100, 111, 119, 110], 1), ([117, 112], 2), ([104, 97, 108, 102], 3), ([101, 118, 101, 110], 4)]
theorem nmI_hit {z : Int} : ∀ {l : List (List UInt8 × Int)} {j : Nat} {q : List UInt8 × Int}, l[j]? = some q -> q.2 = z -> (∀ (i : Nat) p, i < j -> l[i]? = some p -> ¬ p.2 = z) -> nmI l z = q.1 := by
 intro l
 induction l with
 | nil => intro j q h; simp at h
 | cons a l ih =>
  intro j q h hz hn
  cases j with
  | zero => simp at h; subst h; simp only [nmI]; rw [if_pos hz]
  | succ j =>
   simp only [nmI];rw [if_neg (hn 0 a (by omega) rfl)];exact ih (by simpa using h) hz (fun i p hi hp => hn (i + 1) p (by omega) (by simpa using hp))
theorem nmI_no {z : Int} : ∀ {l : List (List UInt8 × Int)}, (∀ (i : Nat) p, l[i]? = some p -> ¬ p.2 = z) -> nmI l z = [] := by
 intro l
 induction l with
 | nil => intro _; rfl
 | cons a l ih =>
  intro h;simp only [nmI];rw [if_neg (h 0 a rfl)];exact ih (fun i p hp => h (i + 1) p (by simpa using hp))
theorem nm_knd (z : Int) : (nmI kndL z == []) = !(decide (5 <= z) && decide (z <= 10)) := by
 by_cases h : 5 <= z /\ z <= 10
 ·rcases (show z = 5 \/ z = 6 \/ z = 7 \/ z = 8 \/ z = 9 \/ z = 10 by omega) with rfl | rfl | rfl | rfl | rfl | rfl <;> rfl
 ·rw [nmI_no (fun i p hp => by
   have : p ∈ kndL := List.mem_of_getElem? hp;simp [kndL] at this
   rcases this with rfl | rfl | rfl | rfl | rfl | rfl <;> (simp only []; omega))]
  have : (decide (5 <= z) && decide (z <= 10)) = false := by simp; omega
  rw [this]; rfl
theorem nm_ben (z : Int) : (nmI benL z == []) = !(decide (1 <= z) && decide (z <= 5)) := by
 by_cases h : 1 <= z /\ z <= 5
 ·rcases (show z = 1 \/ z = 2 \/ z = 3 \/ z = 4 \/ z = 5 by omega) with rfl | rfl | rfl | rfl | rfl <;> rfl
 ·rw [nmI_no (fun i p hp => by
   have : p ∈ benL := List.mem_of_getElem? hp;simp [benL] at this
   rcases this with rfl | rfl | rfl | rfl | rfl <;> (simp only []; omega))]
  have : (decide (1 <= z) && decide (z <= 5)) = false := by simp; omega
  rw [this]; rfl
theorem nm_mod (z : Int) : (nmI modL z == []) = !(decide (1 <= z) && decide (z <= 4)) := by
 by_cases h : 1 <= z /\ z <= 4
 ·rcases (show z = 1 \/ z = 2 \/ z = 3 \/ z = 4 by omega) with rfl | rfl | rfl | rfl <;> rfl
 ·rw [nmI_no (fun i p hp => by
   have : p ∈ modL := List.mem_of_getElem? hp;simp [modL] at this
   rcases this with rfl | rfl | rfl | rfl <;> (simp only []; omega))]
  have : (decide (1 <= z) && decide (z <= 4)) = false := by simp; omega
  rw [this]; rfl
end Go.Proofs.YthmlhheceihcbaaGreatDoor
namespace Go.Proofs.YthmlhheceihcbaaGreatDoor
set_option maxHeartbeats 16000000
open Go.RowKit Cal Str Tok Frac Txt Tree Go.Proofs.Tryz
attribute [local go_sem] calmUpon
set_option linter.unusedVariables false
set_option linter.unusedSimpArgs false
def TabAt (W : World) (g : Nat) (l : List (List UInt8 × Int)) : Prop := g < W.heap.size /\ ∀ (i : Nat) p, l[i]? = some p -> W.cell? ⟨g, i * 2, none⟩ = some (.string ⟨p.1.toArray⟩) /\ W.cell? ⟨g, i * 2 + 1, none⟩ = some (.int .i64 p.2)
theorem TabAt.rel {W X : World} {g : Nat} {l : List (List UInt8 × Int)} (h : TabAt W g l) (r : Rel W X) : TabAt X g l := ⟨r.lt h.1, fun i p hp => ⟨r.cell (h.2 i p hp).1, r.cell (h.2 i p hp).2⟩⟩
theorem kinds_any (w : World) : Calls prog 46 #[] w fun e w' => ∃ g, e = .returned (.slice (some ⟨g, 0, none⟩) 6 6) /\ TabAt w' g kndL /\ Rel w w' := by
 have B := Blk.new w 144 #[.string ⟨#[118, 111, 108, 117, 110, 116, 97, 114, 121]⟩, .int .i64 6, .string ⟨#[115, 101, 114, 118, 105, 99, 101]⟩, .int .i64 9, .string ⟨#[117, 110, 101, 109, 112, 108, 111, 121, 101, 100]⟩, .int .i64 7, .string ⟨#[115, 105, 99, 107]⟩, .int .i64 8, .string ⟨#[99, 104, 105, 108, 100]⟩, .int .i64 10, .string ⟨#[114, 101, 115, 105, 100, 101, 110, 99, 101]⟩, .int .i64 5];go_enter func46, ntmps46;go_wp2;go_ret;refine ⟨w.heap.size, rfl, ⟨B.lt, fun i p h => ?_⟩, rx0⟩;have hi : i < 6 := (List.getElem?_eq_some_iff.1 h).1
 rcases (show i = 0 \/ i = 1 \/ i = 2 \/ i = 3 \/ i = 4 \/ i = 5 by omega) with rfl | rfl | rfl | rfl | rfl | rfl <;> (cases h; exact ⟨B.c rfl, B.c rfl⟩)
theorem benefits_any (w : World) : Calls prog 49 #[] w fun e w' => ∃ g, e = .returned (.slice (some ⟨g, 0, none⟩) 5 5) /\ TabAt w' g benL /\ Rel w w' := by
 have B := Blk.new w 144 #[.string ⟨#[111, 108, 100]⟩, .int .i64 1, .string ⟨#[100, 105, 115, 97, 98, 105, 108, 105, 116, 121]⟩, .int .i64 2, .string ⟨#[115, 117, 114, 118, 105, 118, 111, 114]⟩, .int .i64 3, .string ⟨#[102, 97, 109, 105, 108, 121]⟩, .int .i64 4, .string ⟨#[115, 105, 99, 107, 110, 101, 115, 115]⟩, .int .i64 5];go_enter func49, ntmps49;go_wp2;go_ret;refine ⟨w.heap.size, rfl, ⟨B.lt, fun i p h => ?_⟩, rx0⟩;have hi : i < 5 := (List.getElem?_eq_some_iff.1 h).1
 rcases (show i = 0 \/ i = 1 \/ i = 2 \/ i = 3 \/ i = 4 by omega) with rfl | rfl | rfl | rfl | rfl <;> (cases h; exact ⟨B.c rfl, B.c rfl⟩)
theorem modes_any (w : World) : Calls prog 45 #[] w fun e w' => ∃ g, e = .returned (.slice (some ⟨g, 0, none⟩) 4 4) /\ TabAt w' g modL /\ Rel w w' := by
 have B := Blk.new w 144 #[.string ⟨#[100, 111, 119, 110]⟩, .int .i64 1, .string ⟨#[117, 112]⟩, .int .i64 2, .string ⟨#[104, 97, 108, 102]⟩, .int .i64 3, .string ⟨#[101, 118, 101, 110]⟩, .int .i64 4];go_enter func45, ntmps45;go_wp2;go_ret;refine ⟨w.heap.size, rfl, ⟨B.lt, fun i p h => ?_⟩, rx0⟩;have hi : i < 4 := (List.getElem?_eq_some_iff.1 h).1
 rcases (show i = 0 \/ i = 1 \/ i = 2 \/ i = 3 by omega) with rfl | rfl | rfl | rfl <;> (cases h; exact ⟨B.c rfl, B.c rfl⟩)
theorem byn1_any (s : ByteArray) (y z : Int) (B : Nat) (w : World) (hx : w.cell? ⟨B, 0, none⟩ = some (.int .i64 z)) :
  Calls prog 94 #[.agg #[.string s, .int .i64 y], .pointer (some ⟨B, 0, none⟩)] w (BRes (y == z) w) := by
 have hb : B < w.heap.size := World.block_lt_of_cell? _ _ hx;have hne : ¬ B = w.heap.size := by omega
 unfold BRes;go_enter func94, ntmps94;go_wp2;go_ret;exact ⟨rfl, rx0⟩
theorem bynI_any (l : List (List UInt8 × Int)) (g c : Nat) (z : Int) (B : Nat) (w : World) (hT : Hid (TabAt w g l)) (hl : l.length <= 100) (hx : Hid (w.cell? ⟨B, 0, none⟩ = some (.int .i64 z))) :
  Calls prog 93 #[.slice (some ⟨g, 0, none⟩) l.length c, .func (.func 94) #[] #[.pointer (some ⟨B, 0, none⟩)]] w fun e w' => ((∃ (j : Nat) (p : List UInt8 × Int), e = .returned (.int .i64 j) /\ j < l.length /\ l[j]? = some p /\ nmI l z = p.1) \/ (e = .returned (.int .i64 (-1)) /\ nmI l z = [])) /\ Rel w w' := by
 obtain ⟨n, hn⟩ : ∃ n, l.length = n := ⟨_, rfl⟩;have HN := Hj hn;rw [hn] at hl |-;clear hn;have hg := hT.out.1;go_enter func93, ntmps93;go_wp2_with fail
 go_loopw [8] (fun i wx => ∃ j : Nat, j <= n /\ i = .int .i64 j /\ Hid (∀ (q : Nat) p, q < j -> l[q]? = some p -> ¬ p.2 = z) /\ Hid (Rel w wx)) (fun i _ => n - (intOf i).toNat)
 case atStart => exact ⟨0, by omega, rfl, (fun q p hq => by omega), Rel.refl _⟩
 case round =>
  obtain ⟨j, hkn, rfl, hA, hR⟩ := hrel;by_cases hlt : j < n
  ·obtain ⟨p, hp⟩ : ∃ p, l[j]? = some p := ⟨_, List.getElem?_eq_getElem (by rw [HN.out]; exact hlt)⟩;obtain ⟨q0, q1⟩ := hT.out.2 j p hp;have c0 := hR.out.cell q0;have c1 := hR.out.cell q1;obtain ⟨s, y⟩ := p;simp only at c0 c1;have C := Hj (byn1_any ⟨s.toArray⟩ y z B wr (hR.out.cell hx.out));unfold BRes at C;have HP := Hj hp;clear hp q0 q1;by_cases hy : y = z
   ·have ey : (y == z) = true := by rw [beq_iff_eq]; exact hy
    have fin : Hid (nmI l z = s) := nmI_hit HP.out hy hA.out;rw [ey] at C;clear hy ey;go_wp2_with fail;refine C.out.mono ?_;rintro e w1 ⟨rfl, h1⟩;have H1 := Hj h1;clear h1;go_wp2;go_ret;exact ⟨.inl ⟨j, (s, y), rfl, hlt, HP.out, fin.out⟩, hR.out.trans H1.out⟩
   ·have ey : (y == z) = false := by rw [zn]; exact hy
    have fin : Hid (∀ (q : Nat) p, q < j + 1 -> l[q]? = some p -> ¬ p.2 = z) := fun q p hq hp => by
     rcases Nat.lt_or_ge q j with h | h
     ·exact hA.out q p h hp
     ·obtain rfl : q = j := by omega
      rw [HP.out] at hp; cases hp; exact hy
    rw [ey] at C;clear hy ey;go_wp2_with fail;refine C.out.mono ?_;rintro e w1 ⟨rfl, h1⟩;have H1 := Hj h1;clear h1;go_wp2
    go_roundw
    case rel => exact ⟨j + 1, by omega, by go_num, fin, hR.out.trans H1.out⟩
    case measure => simp [intOf]; omega
  ·obtain rfl : n = j := by omega
   have fin : Hid (nmI l z = []) := nmI_no (fun i p hp => hA.out i p (by rw [<- HN.out]; exact (List.getElem?_eq_some_iff.1 hp).1) hp);go_wp2;go_ret;exact ⟨.inr ⟨rfl, fin.out⟩, hR.out⟩
theorem byNumber_any (l : List (List UInt8 × Int)) (g c : Nat) (z : Int) (w : World) (hT : TabAt w g l) (hl : l.length <= 100) :
  Calls prog 44 #[.slice (some ⟨g, 0, none⟩) l.length c, .int .i64 z] w fun e w' => e = .returned (.string ⟨(nmI l z).toArray⟩) /\ Rel w w' := by
 have B := Blk.new w 3 #[.int .i64 z];have RB : Rel w (w.alloc (.cells #[.int .i64 z] 3)) := (Rel.refl w).alloc _;have I := Hj (bynI_any l g c z w.heap.size _ (Hj (hT.rel RB)) hl (Hj (B.c (j := 0) rfl)));have HT := Hj hT;have hg := hT.1;have HRB := Hj RB;obtain ⟨n, hn⟩ : ∃ n, l.length = n := ⟨_, rfl⟩;rw [hn] at I |-;clear B RB hT hl hn;go_enter func44, ntmps44;go_wp2_with fail;refine I.out.mono ?_;rintro e w1 ⟨⟨j, p, rfl, hj, hp, hf⟩ | ⟨rfl, hf⟩, h1⟩
 ·have c0 := (HRB.out.trans h1).cell (HT.out.2 j p hp).1;have R1 := Hj (HRB.out.trans h1);have HF := Hj hf;have ji : (j : Int) < (n : Int) := by omega
  have e0 : decide ((j : Int) < 0) = false := dF (by omega);have e0' : ¬ (j : Int) < 0 := by omega
  clear h1 hp hf I;go_wp2;go_ret;exact ⟨by rw [HF.out]; rfl, R1.out⟩
 ·have R1 := Hj (HRB.out.trans h1);have HF := Hj hf;clear h1 hf I;go_wp2;go_ret;exact ⟨by rw [HF.out]; rfl, R1.out⟩
end Go.Proofs.YthmlhheceihcbaaGreatDoor

/- Lemmas, each as it is printed; no conditions but those printed. -/
import Derived.Test.YthmlhheceihcbaaGreatDoorKB19
import Derived.Test.YthmlhheceihcbaaGreatDoorKB38
import Derived.Test.YthmlhheceihcbaaGreatDoorKB33
namespace Go.Proofs.YthmlhheceihcbaaGreatDoor
set_option maxHeartbeats 16000000
open Cal Str Tok Frac Txt Tree
set_option linter.unusedVariables false
noncomputable section
def kCredit : List UInt8 := [99, 114, 101, 100, 105, 116]
def kLimit : List UInt8 := [108, 105, 109, 105, 116]
def kIndex : List UInt8 := [105, 110, 100, 101, 120]
def kLet : List UInt8 := [108, 101, 116]
def kGrant : List UInt8 := [103, 114, 97, 110, 116]
def kReduce : List UInt8 := [114, 101, 100, 117, 99, 101]
def kBy : List UInt8 := [98, 121]
def kPay : List UInt8 := [112, 97, 121]
def kRound : List UInt8 := [114, 111, 117, 110, 100]
def kFrom : List UInt8 := [102, 114, 111, 109]
def kStatute : List UInt8 := [115, 116, 97, 116, 117, 116, 101]
def kCurrency : List UInt8 := [99, 117, 114, 114, 101, 110, 99, 121]
def kSemi : List UInt8 := [59]
def kL : List UInt8 := [123]
def kR : List UInt8 := [125]
def kEq : List UInt8 := [61]
def wrdO (tk : List Tk) (l : List (List UInt8 × Int)) (s : Pt) : Bool := pkK tk s == 1 && !(tabI l (pkT tk s) == 0)
def wrdT (tk : List Tk) (l : List (List UInt8 × Int)) (s : Pt) : Int := if wrdO tk l s = true then tabI l (pkT tk s) else 0
def wrdP (tk : List Tk) (l : List (List UInt8 × Int)) (s : Pt) : Pt := if wrdO tk l s = true then s.adv else s.no
def facO (tk : List Tk) (s : Pt) : Bool := pkK tk s == 2 && (decB (pkT tk s) && (decX (pkT tk s) == 2 && decide (1 <= decN (pkT tk s))))
def facT (tk : List Tk) (s : Pt) : Int × Int := if facO tk s = true then (decN (pkT tk s), decD (pkT tk s)) else (0, 0)
def facP (tk : List Tk) (s : Pt) : Pt := if facO tk s = true then s.adv else s.no
def datT (tk : List Tk) (s : Pt) : Int := if pkK tk s = 3 then prsN ((pkT tk s).extract 1 (pkT tk s).size) else 0
def datP (tk : List Tk) (s : Pt) : Pt := if pkK tk s = 3 then s.adv else s.no
def pq (tk : List Tk) (s : Pt) : Ex × Pt := pe tk (10 * tk.length + 8) 0 .no s
def Ver.cr1 (v : Ver) (x : Int × Int) : Ver := { v with cr := v.cr ++ [x] }
def Ver.se1 (v : Ver) (x : Int × Int × Int) : Ver := { v with se := v.se ++ [x] }
def Ver.le1 (v : Ver) (x : ByteArray × Ex) : Ver := { v with le := v.le ++ [x] }
def Ver.gr1 (v : Ver) (x : Int × Ex × Ex) : Ver := { v with gr := v.gr ++ [x] }
def Ver.re1 (v : Ver) (x : Int × Ex) : Ver := { v with re := v.re ++ [x] }
def limQ (tk : List Tk) (s : Pt) : Int × Pt := if accB tk kLimit s = true then (numT tk 1 73049 s.adv, numP tk 1 73049 s.adv) else (0, s)
def crQ (tk : List Tk) (v : Ver) (s : Pt) : Ver × Pt := (v.cr1 (wrdT tk kndL s, (limQ tk (wrdP tk kndL s)).1), (limQ tk (wrdP tk kndL s)).2)
def seQ (tk : List Tk) (v : Ver) (s : Pt) : Ver × Pt := (v.se1 (numT tk 1900 2099 s, facT tk (numP tk 1900 2099 s)), facP tk (numP tk 1900 2099 s))
def leQ (tk : List Tk) (v : Ver) (s : Pt) : Ver × Pt := (v.le1 (namT tk s, (pq tk (expP tk kEq (namP tk s))).1), (pq tk (expP tk kEq (namP tk s))).2)
def grQ (tk : List Tk) (v : Ver) (s : Pt) : Ver × Pt :=
 let a := pq tk (expP tk kIf (wrdP tk benL s))
 let b := pq tk (expP tk kPay a.2)
 (v.gr1 (wrdT tk benL s, a.1, b.1), b.2)
def reQ (tk : List Tk) (v : Ver) (s : Pt) : Ver × Pt := (v.re1 (wrdT tk benL s, (pq tk (expP tk kBy (wrdP tk benL s))).1), (pq tk (expP tk kBy (wrdP tk benL s))).2)
def claO (tk : List Tk) (s : Pt) : Bool := accB tk kCredit s || (accB tk kIndex s || (accB tk kLet s || (accB tk kGrant s || accB tk kReduce s)))
def claQ (tk : List Tk) (v : Ver) (s : Pt) : Ver × Pt :=
 if accB tk kCredit s = true then ((crQ tk v s.adv).1, expP tk kSemi (crQ tk v s.adv).2)
 else if accB tk kIndex s = true then ((seQ tk v s.adv).1, expP tk kSemi (seQ tk v s.adv).2)
 else if accB tk kLet s = true then ((leQ tk v s.adv).1, expP tk kSemi (leQ tk v s.adv).2)
 else if accB tk kGrant s = true then ((grQ tk v s.adv).1, expP tk kSemi (grQ tk v s.adv).2)
 else if accB tk kReduce s = true then ((reQ tk v s.adv).1, expP tk kSemi (reQ tk v s.adv).2)
 else (v, s)
def claL (tk : List Tk) : Nat -> Ver -> Pt -> Ver × Pt
 | 0, v, s => (v, s)
 | f + 1, v, s => if claO tk s = true then claL tk f (claQ tk v s).1 (claQ tk v s).2 else (v, s)
def verH (tk : List Tk) (s : Pt) : Ver × Pt :=
 let a := expP tk kRound (expP tk kL (datP tk s))
 let b := wrdP tk modL a
 (⟨datT tk s, wrdT tk modL a, numT tk 1 100000 b, [], [], [], [], []⟩, expP tk kSemi (numP tk 1 100000 b))
def verQ (tk : List Tk) (s : Pt) : Ver × Pt :=
 let c := claL tk (tk.length + 1) (verH tk s).1 (verH tk s).2
 (c.1, expP tk kR c.2)
def verL (tk : List Tk) : Nat -> List Ver -> Pt -> List Ver × Pt
 | 0, l, s => (l, s)
 | f + 1, l, s => if accB tk kFrom s = true then verL tk f (l ++ [(verQ tk s.adv).1]) (verQ tk s.adv).2 else (l, s)
def staQ (tk : List Tk) : Sta × Pt :=
 let a := expP tk kStatute ⟨0, true⟩
 let b := expP tk kCurrency (namP tk a)
 let c := expP tk kFrom (expP tk kL (numP tk 1 999 b))
 let d := verL tk (tk.length + 1) [(verQ tk c).1] (verQ tk c).2
 (⟨namT tk a, numT tk 1 999 b, d.1⟩, expP tk kR d.2)
def zeroSta : Sta := ⟨⟨#[]⟩, 0, []⟩
def staV (s : ByteArray) : Sta × Int × Int :=
  if (allR s).2.2 = 0 then
    (if finB (allR s).1 (staQ (allR s).1).2 = true then (if (staQ (allR s).1).1.valid = true then ((staQ (allR s).1).1, 0, 0) else (zeroSta, 0, 7))
     else (zeroSta, posI (allR s).1 s.size (staQ (allR s).1).2.i, 4))
  else (zeroSta, (allR s).2.1, (allR s).2.2)
end
end Go.Proofs.YthmlhheceihcbaaGreatDoor
namespace Go.Proofs.YthmlhheceihcbaaGreatDoor
set_option maxHeartbeats 16000000
open Go.RowKit Cal Str Tok Frac Txt Tree Go.Proofs.Tryz
attribute [local go_sem] calmUpon
set_option linter.unusedVariables false
set_option linter.unusedSimpArgs false
theorem tabI_hit {s : ByteArray} : ∀ {l : List (List UInt8 × Int)} {j : Nat} {q : List UInt8 × Int}, l[j]? = some q -> q.1 = s.data.toList -> (∀ (i : Nat) p, i < j -> l[i]? = some p -> ¬ p.1 = s.data.toList) -> tabI l s = q.2 := by
 intro l
 induction l with
 | nil => intro j q h; simp at h
 | cons a l ih =>
  intro j q h hq hno
  cases j with
  | zero => simp at h; subst h; simp only [tabI]; rw [if_pos (by rw [beq_iff_eq]; exact hq.symm)]
  | succ j =>
   have := hno 0 a (by omega) rfl;simp only [tabI];rw [if_neg (by rw [beq_iff_eq]; exact fun e => this e.symm)];exact ih (by simpa using h) hq (fun i p hi hp => hno (i + 1) p (by omega) (by simpa using hp))
theorem tabI_no {s : ByteArray} : ∀ {l : List (List UInt8 × Int)}, (∀ (i : Nat) p, l[i]? = some p -> ¬ p.1 = s.data.toList) -> tabI l s = 0 := by
 intro l
 induction l with
 | nil => intro _; rfl
 | cons a l ih =>
  intro hno;have := hno 0 a rfl;simp only [tabI];rw [if_neg (by rw [beq_iff_eq]; exact fun e => this e.symm)];exact ih (fun i p hp => hno (i + 1) p (by simpa using hp))
theorem bym1_any (s nm : ByteArray) (y : Int) (B : Nat) (w : World) (hx : w.cell? ⟨B, 0, none⟩ = some (.string nm)) :
  Calls prog 152 #[.agg #[.string s, .int .i64 y], .pointer (some ⟨B, 0, none⟩)] w (BRes (s.toList == nm.toList) w) := by
 have hb : B < w.heap.size := World.block_lt_of_cell? _ _ hx;have hne : ¬ B = w.heap.size := by omega
 unfold BRes;go_enter func152, ntmps152;go_wp2;go_ret;exact ⟨rfl, rx0⟩
theorem bymI_any (l : List (List UInt8 × Int)) (g c : Nat) (nm : ByteArray) (B : Nat) (w : World) (hT : Hid (TabAt w g l)) (hl : l.length <= 100) (hx : Hid (w.cell? ⟨B, 0, none⟩ = some (.string nm))) :
  Calls prog 93 #[.slice (some ⟨g, 0, none⟩) l.length c, .func (.func 152) #[] #[.pointer (some ⟨B, 0, none⟩)]] w fun e w' => ((∃ (j : Nat) (p : List UInt8 × Int), e = .returned (.int .i64 j) /\ j < l.length /\ l[j]? = some p /\ tabI l nm = p.2) \/ (e = .returned (.int .i64 (-1)) /\ tabI l nm = 0)) /\ Rel w w' := by
 obtain ⟨n, hn⟩ : ∃ n, l.length = n := ⟨_, rfl⟩;have HN := Hj hn;rw [hn] at hl |-;clear hn;have hg := hT.out.1;go_enter func93, ntmps93;go_wp2_with fail
 go_loopw [8] (fun i wx => ∃ j : Nat, j <= n /\ i = .int .i64 j /\ Hid (∀ (q : Nat) p, q < j -> l[q]? = some p -> ¬ p.1 = nm.data.toList) /\ Hid (Rel w wx)) (fun i _ => n - (intOf i).toNat)
 case atStart => exact ⟨0, by omega, rfl, (fun q p hq => by omega), Rel.refl _⟩
 case round =>
  obtain ⟨j, hkn, rfl, hA, hR⟩ := hrel;by_cases hlt : j < n
  ·obtain ⟨p, hp⟩ : ∃ p, l[j]? = some p := ⟨_, List.getElem?_eq_getElem (by rw [HN.out]; exact hlt)⟩;obtain ⟨q0, q1⟩ := hT.out.2 j p hp;have c0 := hR.out.cell q0;have c1 := hR.out.cell q1;obtain ⟨s, y⟩ := p;simp only at c0 c1;obtain ⟨S, hS⟩ : ∃ S : ByteArray, (⟨s.toArray⟩ : ByteArray) = S := ⟨_, rfl⟩;rw [hS] at c0;have hSd : Hid (S.data.toList = s) := by show _ = _; rw [<- hS]
   have C := Hj (bym1_any S nm y B wr (hR.out.cell hx.out));unfold BRes at C;have HP := Hj hp;obtain ⟨Z, hZ⟩ : ∃ Z, (S.toList == nm.toList) = Z := ⟨_, rfl⟩;have HZ : Hid ((s == nm.data.toList) = Z) := by show _ = _; rw [<- hZ, str_eqL, hSd.out]
   rw [hZ] at C;clear hp q0 q1 hS hZ;cases Z
   ·have fin : Hid (∀ (q : Nat) p, q < j + 1 -> l[q]? = some p -> ¬ p.1 = nm.data.toList) := fun q p hq hp => by
     rcases Nat.lt_or_ge q j with h | h
     ·exact hA.out q p h hp
     ·obtain rfl : q = j := by omega
      rw [HP.out] at hp; cases hp;have := HZ.out;rw [zn] at this; exact this
    go_wp2_with fail;refine C.out.mono ?_;rintro e w1 ⟨rfl, h1⟩;have H1 := Hj h1;clear h1;go_wp2
    go_roundw
    case rel => exact ⟨j + 1, by omega, by go_num, fin, hR.out.trans H1.out⟩
    case measure => simp [intOf]; omega
   ·have fin : Hid (tabI l nm = y) := tabI_hit HP.out (by have := HZ.out; rw [beq_iff_eq] at this; exact this) hA.out;go_wp2_with fail;refine C.out.mono ?_;rintro e w1 ⟨rfl, h1⟩;have H1 := Hj h1;clear h1;go_wp2;go_ret;exact ⟨.inl ⟨j, (s, y), rfl, hlt, HP.out, fin.out⟩, hR.out.trans H1.out⟩
  ·obtain rfl : n = j := by omega
   have fin : Hid (tabI l nm = 0) := tabI_no (fun i p hp => hA.out i p (by rw [<- HN.out]; exact (List.getElem?_eq_some_iff.1 hp).1) hp);go_wp2;go_ret;exact ⟨.inr ⟨rfl, fin.out⟩, hR.out⟩
def BynRes (l : List (List UInt8 × Int)) (nm : ByteArray) (w : World) (e : Ending) (w' : World) : Prop := e = .returned (.tuple #[.int .i64 (tabI l nm), .bool (!(tabI l nm == 0))]) /\ Rel w w'
theorem byName_any (l : List (List UInt8 × Int)) (g c : Nat) (nm : ByteArray) (w : World) (hT : TabAt w g l) (hl : l.length <= 100) (hz : ∀ p ∈ l, ¬ p.2 = 0) :
  Calls prog 116 #[.slice (some ⟨g, 0, none⟩) l.length c, .string nm] w (BynRes l nm w) := by
 have B := Blk.new w 9 #[.string nm];have RB : Rel w (w.alloc (.cells #[.string nm] 9)) := (Rel.refl w).alloc _;have I := Hj (bymI_any l g c nm w.heap.size _ (Hj (hT.rel RB)) hl (Hj (B.c (j := 0) rfl)));have HT := Hj hT;have hg := hT.1;have HRB := Hj RB;have HZ0 := Hj hz;unfold BynRes;obtain ⟨z, hzz⟩ : ∃ z, tabI l nm = z := ⟨_, rfl⟩;rw [hzz] at I |-;obtain ⟨n, hn⟩ : ∃ n, l.length = n := ⟨_, rfl⟩;rw [hn] at I |-;clear B RB hT hl hn hz hzz;go_enter func116, ntmps116;go_wp2_with fail;refine I.out.mono ?_;rintro e w1 ⟨⟨j, p, rfl, hj, hp, rfl⟩ | ⟨rfl, rfl⟩, h1⟩
 ·have c0 := (HRB.out.trans h1).cell (HT.out.2 j p hp).2;have R1 := Hj (HRB.out.trans h1);have HF : Hid ((p.2 == 0) = false) := by show _ = _; rw [zn]; exact HZ0.out p (List.mem_of_getElem? hp)
  have ji : (j : Int) < (n : Int) := by omega
  have e0 : decide ((j : Int) < 0) = false := dF (by omega);have e0' : ¬ (j : Int) < 0 := by omega
  clear h1 hp I;go_wp2
  go_ret2
  exact ⟨by rw [HF.out]; rfl, R1.out⟩
 ·have R1 := Hj (HRB.out.trans h1);clear h1 I;go_wp2
  go_ret2
  exact ⟨rfl, R1.out⟩
end Go.Proofs.YthmlhheceihcbaaGreatDoor

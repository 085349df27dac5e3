/- Bundle of texts: each says at its head what it proves; no conditions but those printed. -/
import Derived.Test.YtohdmpchbiabmaaDoorNB5
import Derived.Test.YtohdmpchbiabmaaDoorNB4
import Derived.Test.YtohdmpchbiabmaaDoorNB6
import Derived.Laws.Tables
/- Texts of trees, plain. No conditions but those printed. -/
namespace Go.Proofs.YtohdmpchbiabmaaDoor.Tree
open Str Frac Tok Txt
set_option linter.unusedVariables false
set_option linter.unusedSimpArgs false
def levI (op : Int) : Int := if op = 21 then 0 else if op = 18 then 1 else if op = 17 then 2 else if op = 5 then 3 else if 11 ≤ op ∧ op ≤ 16 then 4 else if op = 7 ∨ op = 8 then 5 else if op = 9 ∨ op = 10 then 6 else 7
theorem lev_bd (op : Int) : 0 ≤ levI op ∧ levI op ≤ 7 := by
 unfold levI
 repeat' split
 all_goals omega
def sgS (op : Int) : ByteArray := if op = 7 then ⟨#[43]⟩ else if op = 8 then ⟨#[45]⟩ else if op = 9 then ⟨#[42]⟩ else if op = 10 then ⟨#[47]⟩ else if op = 11 then ⟨#[60]⟩ else if op = 12 then ⟨#[60, 61]⟩ else if op = 13 then ⟨#[61]⟩ else if op = 14 then ⟨#[60, 62]⟩ else if op = 15 then ⟨#[62]⟩ else if op = 16 then ⟨#[62, 61]⟩ else if op = 17 then ⟨#[97, 110, 100]⟩ else ⟨#[111, 114]⟩
theorem sg_size (op : Int) : (sgS op).size ≤ 3 := by
 unfold sgS
 repeat' split
 all_goals decide
theorem szA (l : List UInt8) : (⟨l.toArray⟩ : ByteArray).size = l.length := by simp [ByteArray.size]
def parS (b : Bool) (s : ByteArray) : ByteArray := if b = true then (⟨#[40]⟩ ++ s) ++ ⟨#[41]⟩ else s
theorem par_size (b : Bool) (s : ByteArray) : (parS b s).size ≤ s.size + 2 := by
 unfold parS
 split
 ·simp only [ByteArray.size_append, szA, List.length]; omega
 ·omega
def ndS (op a b d : Int) (s : ByteArray) (p : Nat → Int → ByteArray) : ByteArray :=
 if op = 1 then fdT a b d else if op = 2 then s else if op = 3 then (⟨#[98, 101, 115, 116, 40]⟩ ++ numS a) ++ ⟨#[41]⟩
 else if op = 4 then ⟨#[45]⟩ ++ p 0 7 else if op = 5 then ⟨#[110, 111, 116, 32]⟩ ++ p 0 3
 else if op = 6 then (⟨#[102, 108, 111, 111, 114, 40]⟩ ++ p 0 0) ++ ⟨#[41]⟩
 else if op = 19 then (((⟨#[109, 105, 110, 40]⟩ ++ p 0 0) ++ ⟨#[44, 32]⟩) ++ p 1 0) ++ ⟨#[41]⟩
 else if op = 20 then (((⟨#[109, 97, 120, 40]⟩ ++ p 0 0) ++ ⟨#[44, 32]⟩) ++ p 1 0) ++ ⟨#[41]⟩
 else if op = 21 then ((((⟨#[105, 102, 32]⟩ ++ p 0 0) ++ ⟨#[32, 116, 104, 101, 110, 32]⟩) ++ p 1 0) ++ ⟨#[32, 101, 108, 115, 101, 32]⟩) ++ p 2 0
 else (((p 0 (if levI op = 4 then 5 else levI op) ++ ⟨#[32]⟩) ++ sgS op) ++ ⟨#[32]⟩) ++ p 1 (levI op + 1)
def Ex.bare : Ex → ByteArray
 | .no => ⟨#[]⟩
 | .mk op a b d s n kid => ndS op a b d s fun i l => parS (decide (levI (kid i).op < l)) (kid i).bare
def Ex.put (t : Ex) (l : Int) : ByteArray := parS (decide (levI t.op < l)) t.bare
theorem bare_mk (op a b d : Int) (s : ByteArray) (n : Nat) (kid : Nat → Ex) : (Ex.mk op a b d s n kid).bare = ndS op a b d s fun i l => (kid i).put l := rfl
theorem alK_all {f : Nat → Bool} {n : Nat} (h : alK f n = true) : ∀ i, i < n → f i = true := by
 induction n with
 | zero => intro i hi; omega
 | succ n ih =>
  simp only [alK, Bool.and_eq_true] at h
  intro i hi
  by_cases e : i = n
  ·rw [e]; exact h.2
  ·exact ih h.1 i (by omega)
theorem form_of {op a b d : Int} {s : ByteArray} {n : Nat} {kid : Nat → Ex} (h : (Ex.mk op a b d s n kid).form = true) : nodB op a b d s n = true ∧ ∀ i, i < n → (kid i).form = true := by
 rw [form_mk, Bool.and_eq_true] at h
 exact ⟨h.1, alK_all h.2⟩
theorem op_of {op a b d : Int} {s : ByteArray} {n : Nat} (h : nodB op a b d s n = true) : 1 ≤ op ∧ op ≤ 21 := by
 have := nod_ar h
 unfold arI at this
 split at this
 ·omega
 ·split at this
  ·omega
  ·split at this
   ·omega
   ·split at this <;> omega
theorem bare_size (t : Ex) : t.form = true → (t.bare.size : Int) + 2 ≤ 70 * t.size := by
 induction t with
 | no => intro h; simp [Ex.form] at h
 | mk op a b d s n kid ih =>
  intro h
  obtain ⟨h1, h2⟩ := form_of h
  obtain ⟨o1, o2⟩ := op_of h1
  have ha := nod_ar h1
  have P : ∀ i l, i < n → (((kid i).put l).size : Int) ≤ 70 * (kid i).size := fun i l hi => by
   have := ih i (h2 i hi)
   have q := par_size (decide (levI (kid i).op < l)) (kid i).bare
   show ((parS _ _).size : Int) ≤ _
   omega
  rw [bare_mk, size_mk]
  unfold ndS
  have f1 := fd_size a b d
  have f3 := numS_size a
  have f4 := sg_size op
  by_cases e1 : op = 1
  ·rw [if_pos e1]; subst e1
   obtain rfl : n = 0 := by simp [arI] at ha; omega
   simp only [smK]; omega
  rw [if_neg e1]
  by_cases e2 : op = 2
  ·rw [if_pos e2]; subst e2
   obtain rfl : n = 0 := by simp [arI] at ha; omega
   have hs : s.size ≤ 12 := by
    unfold nodB at h1
    simp [namB, wordB] at h1
    omega
   simp only [smK]; omega
  rw [if_neg e2]
  by_cases e3 : op = 3
  ·rw [if_pos e3]; subst e3
   obtain rfl : n = 0 := by simp [arI] at ha; omega
   simp only [smK, ByteArray.size_append, szA, List.length]; omega
  rw [if_neg e3]
  by_cases e4 : op = 4
  ·rw [if_pos e4]; subst e4
   obtain rfl : n = 1 := by simp [arI] at ha; omega
   have p0 := P 0 7 (by omega)
   simp only [smK, ByteArray.size_append, szA, List.length]; omega
  rw [if_neg e4]
  by_cases e5 : op = 5
  ·rw [if_pos e5]; subst e5
   obtain rfl : n = 1 := by simp [arI] at ha; omega
   have p0 := P 0 3 (by omega)
   simp only [smK, ByteArray.size_append, szA, List.length]; omega
  rw [if_neg e5]
  by_cases e6 : op = 6
  ·rw [if_pos e6]; subst e6
   obtain rfl : n = 1 := by simp [arI] at ha; omega
   have p0 := P 0 0 (by omega)
   simp only [smK, ByteArray.size_append, szA, List.length]; omega
  rw [if_neg e6]
  by_cases e19 : op = 19
  ·rw [if_pos e19]; subst e19
   obtain rfl : n = 2 := by simp [arI] at ha; omega
   have p0 := P 0 0 (by omega)
   have p1 := P 1 0 (by omega)
   simp only [smK, ByteArray.size_append, szA, List.length]; omega
  rw [if_neg e19]
  by_cases e20 : op = 20
  ·rw [if_pos e20]; subst e20
   obtain rfl : n = 2 := by simp [arI] at ha; omega
   have p0 := P 0 0 (by omega)
   have p1 := P 1 0 (by omega)
   simp only [smK, ByteArray.size_append, szA, List.length]; omega
  rw [if_neg e20]
  by_cases e21 : op = 21
  ·rw [if_pos e21]; subst e21
   obtain rfl : n = 3 := by simp [arI] at ha; omega
   have p0 := P 0 0 (by omega)
   have p1 := P 1 0 (by omega)
   have p2 := P 2 0 (by omega)
   simp only [smK, ByteArray.size_append, szA, List.length]; omega
  rw [if_neg e21]
  obtain rfl : n = 2 := by
   unfold arI at ha
   rw [if_neg (by omega), if_neg (by omega), if_pos (by omega)] at ha
   omega
  have p0 := P 0 (if levI op = 4 then 5 else levI op) (by omega)
  have p1 := P 1 (levI op + 1) (by omega)
  simp only [smK, ByteArray.size_append, szA, List.length]; omega
theorem put_size {t : Ex} (h : t.form = true) (hz : t.size ≤ 60) (l : Int) : (t.put l).size ≤ 4200 := by
 have := bare_size t h
 have q := par_size (decide (levI t.op < l)) t.bare
 show (parS _ _).size ≤ _
 omega
end Go.Proofs.YtohdmpchbiabmaaDoor.Tree

/- Contracts of the levels and the signs of operations. No conditions but those printed. -/
namespace Go.Proofs.YtohdmpchbiabmaaDoor
open Go.RowKit Cal Str Tok Frac Txt Tree
set_option linter.unusedVariables false
set_option linter.unusedSimpArgs false
set_option maxHeartbeats 4000000 in
theorem level_any (op : Int) (w : World) (h0 : 1 ≤ op) (h1 : op ≤ 21) : Calls Tryd.prog 61 #[.int .i64 op] w fun e w' => e = .returned (.int .i64 (levI op)) ∧ w = w' := by
 rcases (show op = 1 ∨ op = 2 ∨ op = 3 ∨ op = 4 ∨ op = 5 ∨ op = 6 ∨ op = 7 ∨ op = 8 ∨ op = 9 ∨ op = 10 ∨ op = 11 ∨ op = 12 ∨ op = 13 ∨ op = 14 ∨ op = 15 ∨ op = 16 ∨ op = 17 ∨ op = 18 ∨ op = 19 ∨ op = 20 ∨ op = 21 by omega) with rfl | rfl | rfl | rfl | rfl | rfl | rfl | rfl | rfl | rfl | rfl | rfl | rfl | rfl | rfl | rfl | rfl | rfl | rfl | rfl | rfl
 ·go_enter Tryd.func61, Tryd.ntmps61
  go_wp2
  go_ret
  exact ⟨rfl, rfl⟩
 ·go_enter Tryd.func61, Tryd.ntmps61
  go_wp2
  go_ret
  exact ⟨rfl, rfl⟩
 ·go_enter Tryd.func61, Tryd.ntmps61
  go_wp2
  go_ret
  exact ⟨rfl, rfl⟩
 ·go_enter Tryd.func61, Tryd.ntmps61
  go_wp2
  go_ret
  exact ⟨rfl, rfl⟩
 ·go_enter Tryd.func61, Tryd.ntmps61
  go_wp2
  go_ret
  exact ⟨rfl, rfl⟩
 ·go_enter Tryd.func61, Tryd.ntmps61
  go_wp2
  go_ret
  exact ⟨rfl, rfl⟩
 ·go_enter Tryd.func61, Tryd.ntmps61
  go_wp2
  go_ret
  exact ⟨rfl, rfl⟩
 ·go_enter Tryd.func61, Tryd.ntmps61
  go_wp2
  go_ret
  exact ⟨rfl, rfl⟩
 ·go_enter Tryd.func61, Tryd.ntmps61
  go_wp2
  go_ret
  exact ⟨rfl, rfl⟩
 ·go_enter Tryd.func61, Tryd.ntmps61
  go_wp2
  go_ret
  exact ⟨rfl, rfl⟩
 ·go_enter Tryd.func61, Tryd.ntmps61
  go_wp2
  go_ret
  exact ⟨rfl, rfl⟩
 ·go_enter Tryd.func61, Tryd.ntmps61
  go_wp2
  go_ret
  exact ⟨rfl, rfl⟩
 ·go_enter Tryd.func61, Tryd.ntmps61
  go_wp2
  go_ret
  exact ⟨rfl, rfl⟩
 ·go_enter Tryd.func61, Tryd.ntmps61
  go_wp2
  go_ret
  exact ⟨rfl, rfl⟩
 ·go_enter Tryd.func61, Tryd.ntmps61
  go_wp2
  go_ret
  exact ⟨rfl, rfl⟩
 ·go_enter Tryd.func61, Tryd.ntmps61
  go_wp2
  go_ret
  exact ⟨rfl, rfl⟩
 ·go_enter Tryd.func61, Tryd.ntmps61
  go_wp2
  go_ret
  exact ⟨rfl, rfl⟩
 ·go_enter Tryd.func61, Tryd.ntmps61
  go_wp2
  go_ret
  exact ⟨rfl, rfl⟩
 ·go_enter Tryd.func61, Tryd.ntmps61
  go_wp2
  go_ret
  exact ⟨rfl, rfl⟩
 ·go_enter Tryd.func61, Tryd.ntmps61
  go_wp2
  go_ret
  exact ⟨rfl, rfl⟩
 ·go_enter Tryd.func61, Tryd.ntmps61
  go_wp2
  go_ret
  exact ⟨rfl, rfl⟩
end Go.Proofs.YtohdmpchbiabmaaDoor

/- Contract of the sign of a binary operation. No conditions but those printed. -/
namespace Go.Proofs.YtohdmpchbiabmaaDoor
open Go.RowKit Cal Str Tok Frac Txt Tree
set_option linter.unusedVariables false
set_option linter.unusedSimpArgs false
def sgC : Array Value := #[.string ⟨#[]⟩, .string ⟨#[]⟩, .string ⟨#[]⟩, .string ⟨#[]⟩, .string ⟨#[]⟩, .string ⟨#[]⟩, .string ⟨#[]⟩, .string ⟨#[43]⟩, .string ⟨#[45]⟩, .string ⟨#[42]⟩, .string ⟨#[47]⟩, .string ⟨#[60]⟩, .string ⟨#[60, 61]⟩, .string ⟨#[61]⟩, .string ⟨#[60, 62]⟩, .string ⟨#[62]⟩, .string ⟨#[62, 61]⟩, .string ⟨#[97, 110, 100]⟩, .string ⟨#[111, 114]⟩]
theorem built_sg (a : Act) : (Tryd.prog.built 142 ((#[(7, Operand.const (.string ⟨#[43]⟩)), (8, Operand.const (.string ⟨#[45]⟩)), (9, Operand.const (.string ⟨#[42]⟩)), (10, Operand.const (.string ⟨#[47]⟩)), (11, Operand.const (.string ⟨#[60]⟩)), (12, Operand.const (.string ⟨#[60, 61]⟩)), (13, Operand.const (.string ⟨#[61]⟩)), (14, Operand.const (.string ⟨#[60, 62]⟩)), (15, Operand.const (.string ⟨#[62]⟩)), (16, Operand.const (.string ⟨#[62, 61]⟩)), (17, Operand.const (.string ⟨#[97, 110, 100]⟩)), (18, Operand.const (.string ⟨#[111, 114]⟩))] : Array (Nat × Operand)).map (fun (i, x) => (i, a.eval x))).toList) = some sgC := by kernel_rfl
theorem alloc_row (w : World) (old cs : Array Value) (t : TypeId) : (w.alloc (.cells old t)).setRow w.heap.size cs = w.alloc (.cells cs t) := by
 unfold World.setRow World.alloc
 congr 1
 apply Array.ext_getElem?
 intro i
 rw [Array.getElem?_modify, Array.getElem?_push, Array.getElem?_push]
 by_cases h : i = w.heap.size
 ·subst h; simp
 ·rw [if_neg (Ne.symm h)]; simp [h]
theorem heap_new (w : World) (o : Obj) : (w.alloc o).heap[w.heap.size]? = some o := by unfold World.alloc; exact Array.getElem?_push_size
theorem sgC_at {op : Int} (h0 : 7 ≤ op) (h1 : op ≤ 18) : sgC[op.toNat]? = some (.string (sgS op)) := by
 rcases (show op = 7 ∨ op = 8 ∨ op = 9 ∨ op = 10 ∨ op = 11 ∨ op = 12 ∨ op = 13 ∨ op = 14 ∨ op = 15 ∨ op = 16 ∨ op = 17 ∨ op = 18 by omega) with rfl | rfl | rfl | rfl | rfl | rfl | rfl | rfl | rfl | rfl | rfl | rfl <;> rfl
theorem sgC_one : sgC.size = 19 ∧ sgC.all (·.oneCell') = true := ⟨rfl, by kernel_rfl⟩
set_option maxRecDepth 20000 in
set_option maxHeartbeats 4000000 in
theorem fsign_any (op : Int) (w : World) (h0 : 7 ≤ op) (h1 : op ≤ 18) : Calls Tryd.prog 64 #[.int .i64 op] w fun e w' => e = .returned (.string (sgS op)) ∧ Rel w w' := by
 have hC := sgC_at h0 h1
 obtain ⟨S, hS⟩ : ∃ S, sgS op = S := ⟨_, rfl⟩
 rw [hS] at hC ⊢
 obtain ⟨k, rfl⟩ : ∃ k : Nat, op = k := ⟨op.toNat, by omega⟩
 rw [show (k : Int).toNat = k by omega] at hC
 have HC := Lib.hid hC
 have hk : k < 19 := by omega
 have hk' : (k : Int) < 19 := by omega
 clear hS hC h0 h1
 go_enter Tryd.func64, Tryd.ntmps64
 go_upto_region 1 with (fail)
 refine wp_region_lit ?_
 refine wpList_build rfl 142 _ rfl (by rw [built_sg]; rfl) ?_
 rw [built_sg]
 simp only [Option.getD_some, Act.put, List.setIfInBounds_toArray, List.set_cons_zero, List.set_cons_succ]
 refine wpList_plain rfl (fun K hK => ?_)
 go_simp
 refine hK _ _ ?_
 clear hK K
 refine wpList_store_row rfl 142 _ _ rfl w.heap.size sgC rfl rfl _ _ (heap_new _ _) (by kernel_rfl) (by rfl) sgC_one.2 ?_
 rw [alloc_row]
 refine wpList_nil ?_
 have c : (w.alloc (.cells sgC 142)).cell? ⟨w.heap.size, k, none⟩ = some (.string S) := by unfold World.cell?; rw [heap_new]; exact HC.out
 have R : Hid (Rel w (w.alloc (.cells sgC 142))) := (Rel.refl w).alloc _
 obtain ⟨X, hX⟩ : ∃ X, w.alloc (.cells sgC 142) = X := ⟨_, rfl⟩
 rw [hX] at c R ⊢
 clear hX HC
 go_wp2
 go_ret
 exact ⟨rfl, R.out⟩
end Go.Proofs.YtohdmpchbiabmaaDoor

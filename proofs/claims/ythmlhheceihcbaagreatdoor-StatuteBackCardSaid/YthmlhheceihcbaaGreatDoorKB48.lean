/- Lemmas, each as it is printed; no conditions but those printed. -/
import Derived.Laws.Tables
import Derived.Lib.Join
import Derived.Great.Walk
import Derived.Lib.AppendStr
import Derived.Test.YthmlhheceihcbaaGreatDoorKB44
namespace Go.Proofs.YthmlhheceihcbaaGreatDoor
set_option maxHeartbeats 16000000
open Go.RowKit Cal Str Go.Proofs.Tryz
theorem ext_list (s : ByteArray) (a b : Nat) : (s.extract a b).data.toList = (s.data.toList.drop a).take (b - a) := by
 simp
theorem byteAt_list (l : List UInt8) (k : Nat) (h : k < l.length) : byteAt ⟨l.toArray⟩ k = ((l[k]'h).toNat : Int) := by
 unfold byteAt;rw [dif_pos (show k < (⟨l.toArray⟩ : ByteArray).size by show k < l.toArray.size; simpa using h)];rfl
theorem fmtD_list {d : Int} (h : vdayB d = true) : fmtD d = ⟨(dl 40 (dY d).toNat 4 ++ ([45] ++ (dl 40 (dM d).toNat 2 ++ ([45] ++ dl 40 (dD d).toNat 2)))).toArray⟩ := by
 rw [fmtD_yes h];have e : (⟨#[45]⟩ : ByteArray) = ⟨[45].toArray⟩ := rfl;unfold dgt;rw [e, ByteArray.mk_append_mk, ByteArray.mk_append_mk, ByteArray.mk_append_mk, ByteArray.mk_append_mk];simp
theorem five_cut {A B C : List UInt8} (hA : A.length = 4) (hB : B.length = 2) (hC : C.length = 2) (s : ByteArray) (hs : s = ⟨(A ++ ([45] ++ (B ++ ([45] ++ C)))).toArray⟩) :
  s.size = 10 /\ byteAt s 4 = 45 /\ byteAt s 7 = 45 /\ (s.extract 0 4).data.toList = A /\ (s.extract 5 7).data.toList = B /\ (s.extract 8 s.size).data.toList = C := by
 obtain ⟨a, b, c, d, rfl⟩ : ∃ a b c d, A = [a, b, c, d] := by
  match A, hA with
  | [a, b, c, d], _ => exact ⟨a, b, c, d, rfl⟩
 obtain ⟨e, f, rfl⟩ : ∃ a b, B = [a, b] := by
  match B, hB with
  | [a, b], _ => exact ⟨a, b, rfl⟩
 obtain ⟨g, i, rfl⟩ : ∃ a b, C = [a, b] := by
  match C, hC with
  | [a, b], _ => exact ⟨a, b, rfl⟩
 have hz : s.size = 10 := by rw [hs]; rfl
 refine ⟨hz, ?_, ?_, ?_, ?_, ?_⟩
 ·rw [hs, byteAt_list _ _ (by simp)]; simp
 ·rw [hs, byteAt_list _ _ (by simp)]; simp
 ·rw [ext_list, hs]; simp
 ·rw [ext_list, hs]; simp
 ·rw [ext_list, hz, hs]; simp
theorem fmt_parse {d : Int} (h : vdayB d = true) : prsB (fmtD d) = true /\ prsN (fmtD d) = d /\ (fmtD d).size = 10 := by
 obtain ⟨y0, y1, m0, m1, d0, d1⟩ := date_bd h;have d2 := mlen_bd (dY d) (dM d);have f := day_date d h;obtain ⟨hz, b4, b7, eA, eB, eC⟩ := five_cut (length_dl 40 (dY d).toNat 4 (by omega) (by omega)) (length_dl 40 (dM d).toNat 2 (by omega) (by omega)) (length_dl 40 (dD d).toNat 2 (by omega) (by omega)) _ (fmtD_list h)
 have v1 : strV ((fmtD d).extract 0 4) = dY d /\ strB ((fmtD d).extract 0 4) = true := by
  unfold strV strB;rw [eA, numV_yes (allD_dl _ _ _), val_dl 40 _ _ (by omega) (by omega)]; exact ⟨by omega, allD_dl _ _ _⟩
 have v2 : strV ((fmtD d).extract 5 7) = dM d /\ strB ((fmtD d).extract 5 7) = true := by
  unfold strV strB;rw [eB, numV_yes (allD_dl _ _ _), val_dl 40 _ _ (by omega) (by omega)]; exact ⟨by omega, allD_dl _ _ _⟩
 have v3 : strV ((fmtD d).extract 8 (fmtD d).size) = dD d /\ strB ((fmtD d).extract 8 (fmtD d).size) = true := by
  unfold strV strB;rw [eC, numV_yes (allD_dl _ _ _), val_dl 40 _ _ (by omega) (by omega)]; exact ⟨by omega, allD_dl _ _ _⟩
 have hf : formB (fmtD d) = true := by unfold formB; rw [b4, b7]; simp [hz]
 have hd : digsB (fmtD d) = true := by unfold digsB; rw [v1.2, v2.2, v3.2]; rfl
 refine ⟨?_, ?_, hz⟩
 ·unfold prsB; rw [hf, hd, v1.1, v2.1, v3.1, f.1]; rfl
 ·unfold prsN; rw [if_pos ⟨hf, hd⟩, v1.1, v2.1, v3.1, f.2]
end Go.Proofs.YthmlhheceihcbaaGreatDoor
namespace Go.Proofs.YthmlhheceihcbaaGreatDoor
set_option maxHeartbeats 16000000
open Go.RowKit Cal Go.Proofs.Tryz
theorem yearLength_any (y : Int) (w : World) (h0 : 0 <= y) (h1 : y <= 10000) :
  Calls prog 132 #[.int .i64 y] w fun e w' => e = .returned (.int .i64 (ylen y)) /\ w = w' := by
 by_cases hl : leapB y = true
 ·go_enter func132, ntmps132
  go_wp2_with (go_at_call 170; refine (leap_any _ _ (by omega) (by omega)).mono ?_; rintro e w' ⟨rfl, rfl⟩)
  go_ret;exact ⟨ret_i (by rw [ylen, if_pos hl]), rfl⟩
 ·have hl' : leapB y = false := by simpa using hl
  go_enter func132, ntmps132
  go_wp2_with (go_at_call 170; refine (leap_any _ _ (by omega) (by omega)).mono ?_; rintro e w' ⟨rfl, rfl⟩)
  go_ret;exact ⟨ret_i (by rw [ylen, if_neg hl]), rfl⟩
theorem Valid_any (d : Int) (w : World) :
  Calls prog 118 #[.int .i64 d] w fun e w' => e = .returned (.bool (vdayB d)) /\ w = w' := by
 go_enter func118, ntmps118;go_wp2
 all_goals (go_ret; refine ⟨ret_b ?_, rfl⟩; rw [Bool.eq_iff_iff]; simp [vdayB]; try omega)
theorem ylen_bd (y : Int) : 365 <= ylen y /\ ylen y <= 366 := by unfold ylen; split <;> omega
theorem Date_any (d : Int) (w : World) :
  Calls prog 91 #[.int .i64 d] w fun e w' => e = .returned (.tuple #[.int .i64 (dY d), .int .i64 (dM d), .int .i64 (dD d), .bool (vdayB d)]) /\ Below w.heap.size w w' := by
 cases h : vdayB d
 ·go_enter func91, ntmps91
  go_wp2_with (go_at_call 118; refine (Valid_any _ _).mono ?_; rintro e w1 ⟨rfl, rfl⟩)
  refine bodyPost_ret (results_tmp4 rfl _ _ _) rfl ?_;exact ⟨ret_iiib (dY_no h).symm (dM_no h).symm (dD_no h).symm rfl, Below.refl _ _⟩
 ·have hd := (vdayB_iff d).1 h;obtain ⟨hd0, hd1⟩ := hd;have hg := ystart_guess d hd0 hd1;have hend : ystart 2100 = 73049 := by decide
  have hE := Hj hend;clear hend;go_enter func91, ntmps91
  go_wp2_with (go_at_call 118; refine (Valid_any _ _).mono ?_; rintro e w1 ⟨rfl, rfl⟩)
  go_loop [2] (fun t => ∃ y : Int, 1900 <= y /\ y <= 2099 /\ ystart y <= d /\ t = .int .i64 y) (fun t => (2099 - intOf t).toNat)
  case atStart => exact ⟨_, hg.1, hg.2.1, hg.2.2, rfl⟩
  case round =>
   obtain ⟨y, hy1, hy2, hy3, rfl⟩ := hrel;have hb := ystart_bd y hy1 (by omega);have hl := ylen_bd y;have hs := Hj (ystart_succ y hy1 hy2);clear hg;by_cases hc : ystart y + ylen y <= d
   ·have hy4 : y < 2099 := by
     by_cases h : y < 2099
     ·exact h
     ·have e := hs.out; rw [show y + 1 = 2100 by omega, hE.out] at e; omega
    go_wp2_with (first | (go_at_call 131; refine (yearStart_any _ _ (by omega) (by omega)).mono ?_; rintro e w' ⟨rfl, rfl⟩) | (go_at_call 132; refine (yearLength_any _ _ (by omega) (by omega)).mono ?_; rintro e w' ⟨rfl, rfl⟩))
    go_round
    case rel => exact ⟨y + 1, by omega, by omega, by rw [hs.out]; exact hc, rfl⟩
    case measure => simp [intOf]; omega
   ·go_wp2_with (first | (go_at_call 131; refine (yearStart_any _ _ (by omega) (by omega)).mono ?_; rintro e w' ⟨rfl, rfl⟩) | (go_at_call 132; refine (yearLength_any _ _ (by omega) (by omega)).mono ?_; rintro e w' ⟨rfl, rfl⟩))
    go_loopw [6, 3] (fun r k wr => ∃ j : Nat, j < 12 /\ k = .int .i64 (j + 1) /\ 0 <= d - ystart y - cum y j /\ r = .int .i64 (d - ystart y - cum y j) /\ Below w.heap.size w wr) (fun _ k _ => (12 - intOf k).toNat)
    case atStart => exact ⟨0, by omega, by simp, by simp [cum]; omega, by simp [cum], Below.refl _ _⟩
    case round =>
     obtain ⟨j, hj, rfl, hr, rfl, hbw⟩ := hrel;have cb := cum_bd y j;have ml := mlen_bd y (j + 1);by_cases hcc : mlen y (j + 1) <= d - ystart y - cum y j
     ·have hj2 : j + 1 < 12 := by
       rcases Nat.lt_or_ge (j + 1) 12 with h | h
       ·exact h
       ·have e := cum_12 y; rw [show 12 = j + 1 by omega, cum] at e; omega
      go_wp2_with (go_at_call 133; refine (monthLength_any _ _ _ (by omega) (by omega) (by omega) (by omega)).mono ?_; rintro e w1 ⟨rfl, hb1⟩)
      go_roundw
      case rel => exact ⟨j + 1, hj2, by go_num, by simp only [cum]; omega, by simp only [cum]; go_num, below_seq (below_seq hbw (by assumption)) hb1⟩
      case measure => simp [intOf]; omega
     ·have hfin := Hj (date_of d y j hy1 hy2 hj hr (by omega))
      go_wp2_with (go_at_call 133; refine (monthLength_any _ _ _ (by omega) (by omega) (by omega) (by omega)).mono ?_; rintro e w1 ⟨rfl, hb1⟩)
      refine bodyPost_ret (results_tmp4 rfl _ _ _) rfl ?_;obtain ⟨_, e1, e2, e3, _⟩ := hfin.out;exact ⟨ret_iiib e1.symm e2.symm e3.symm rfl, hbw.trans (hb1.mono hbw.size)⟩
open Go.RowKit Cal Str
theorem run_digits2 (a b : Int) (W : World) (g : Nat) (h0 : W.cell? ⟨g, 0, none⟩ = some (.int .u8 a)) (h1 : W.cell? ⟨g, 0 + 1, none⟩ = some (.int .u8 b)) :
  Sem.run prog (convert 96 9 (.slice (some ⟨g, 0, none⟩) 2 2)) W = .ok (.string (strOfNums [a, b])) W :=
 run_convert_bytes_arg W 96 5 underlying96 underlying5 g 0 2 2 [a, b] rfl (fun i hi => by
  have : i = 0 \/ i = 1 := by omega
  rcases this with rfl | rfl
  ·exact h0
  ·exact h1) 9 underlying9
theorem run_digits4 (a b c d : Int) (W : World) (g : Nat) (h0 : W.cell? ⟨g, 0, none⟩ = some (.int .u8 a)) (h1 : W.cell? ⟨g, 0 + 1, none⟩ = some (.int .u8 b)) (h2 : W.cell? ⟨g, 0 + 2, none⟩ = some (.int .u8 c)) (h3 : W.cell? ⟨g, 0 + 3, none⟩ = some (.int .u8 d)) :
  Sem.run prog (convert 96 9 (.slice (some ⟨g, 0, none⟩) 4 4)) W = .ok (.string (strOfNums [a, b, c, d])) W :=
 run_convert_bytes_arg W 96 5 underlying96 underlying5 g 0 4 4 [a, b, c, d] rfl (fun i hi => by
  have : i = 0 \/ i = 1 \/ i = 2 \/ i = 3 := by omega
  rcases this with rfl | rfl | rfl | rfl
  ·exact h0
  ·exact h1
  ·exact h2
  ·exact h3) 9 underlying9
theorem dl_2 (x : Int) (h0 : 0 <= x) (h1 : x <= 99) : strOfNums [48 + x / 10 % 10, 48 + x % 10] = ⟨(dl 40 x.toNat 2).toArray⟩ := by
 rw [dl_step 39 _ _ (by omega), dl_step 38 _ _ (by omega), show x.toNat / 10 / 10 = 0 by omega, show 2 - 1 - 1 = 0 by omega, dl_stop];simp only [strOfNums, List.map_cons, List.map_nil, List.nil_append, List.cons_append];rw [show (48 + x / 10 % 10).toNat = 48 + x.toNat / 10 % 10 by omega, show (48 + x % 10).toNat = 48 + x.toNat % 10 by omega]
theorem dl_4 (x : Int) (h0 : 0 <= x) (h1 : x <= 9999) : strOfNums [48 + x / 10 / 10 / 10 % 10, 48 + x / 10 / 10 % 10, 48 + x / 10 % 10, 48 + x % 10] = ⟨(dl 40 x.toNat 4).toArray⟩ := by
 rw [dl_step 39 _ _ (by omega), dl_step 38 _ _ (by omega), dl_step 37 _ _ (by omega), dl_step 36 _ _ (by omega), show x.toNat / 10 / 10 / 10 / 10 = 0 by omega, show 4 - 1 - 1 - 1 - 1 = 0 by omega, dl_stop];simp only [strOfNums, List.map_cons, List.map_nil, List.nil_append, List.cons_append];rw [show (48 + x / 10 / 10 / 10 % 10).toNat = 48 + x.toNat / 10 / 10 / 10 % 10 by omega, show (48 + x / 10 / 10 % 10).toNat = 48 + x.toNat / 10 / 10 % 10 by omega, show (48 + x / 10 % 10).toNat = 48 + x.toNat / 10 % 10 by omega, show (48 + x % 10).toNat = 48 + x.toNat % 10 by omega]
theorem digits2_any (x : Int) (w : World) (h0 : 0 <= x) (h1 : x <= 99) :
  Calls prog 92 #[.int .i64 x, .int .i64 2] w fun e w' => e = .returned (.string (dgt x 2)) /\ Below w.heap.size w w' := by
 have hfin := Hj (dl_2 x h0 h1);have hmk : ∀ w, (Instr.makeSlice 96 (.int .i64 2) (.int .i64 2)).run prog w = .ok (.slice (some ⟨w.heap.size, 0, none⟩) 2 2) (w.alloc (.cells #[.int .u8 0, .int .u8 0] 5)) := fun _ => by kernel_rfl
 have hconv := run_digits2 (48 + x / 10 % 10) (48 + x % 10) (w.alloc (.cells #[.int .u8 (48 + x / 10 % 10), .int .u8 (48 + x % 10)] 5)) w.heap.size (by simp) (by simp);go_enter func92, ntmps92;go_wp2
 go_rounds 3
 go_ret;exact ⟨ret_s hfin.out, (Below.refl _ _).alloc (Nat.le_refl _) _⟩
theorem digits4_any (x : Int) (w : World) (h0 : 0 <= x) (h1 : x <= 9999) :
  Calls prog 92 #[.int .i64 x, .int .i64 4] w fun e w' => e = .returned (.string (dgt x 4)) /\ Below w.heap.size w w' := by
 have hfin := Hj (dl_4 x h0 h1);have hmk : ∀ w, (Instr.makeSlice 96 (.int .i64 4) (.int .i64 4)).run prog w = .ok (.slice (some ⟨w.heap.size, 0, none⟩) 4 4) (w.alloc (.cells #[.int .u8 0, .int .u8 0, .int .u8 0, .int .u8 0] 5)) := fun _ => by kernel_rfl
 have hconv := run_digits4 (48 + x / 10 / 10 / 10 % 10) (48 + x / 10 / 10 % 10) (48 + x / 10 % 10) (48 + x % 10) (w.alloc (.cells #[.int .u8 (48 + x / 10 / 10 / 10 % 10), .int .u8 (48 + x / 10 / 10 % 10), .int .u8 (48 + x / 10 % 10), .int .u8 (48 + x % 10)] 5)) w.heap.size (by simp) (by simp) (by simp) (by simp);go_enter func92, ntmps92;go_wp2
 go_rounds 5
 go_ret;exact ⟨ret_s hfin.out, (Below.refl _ _).alloc (Nat.le_refl _) _⟩
theorem cFormat_any (d : Int) (w : World) :
  Calls prog 43 #[.int .i64 d] w fun e w' => e = .returned (.string (fmtD d)) /\ Below w.heap.size w w' := by
 cases h : vdayB d
 ·have hfin := Hj (fmtD_no h);go_enter func43, ntmps43
  go_wp2_with (go_at_call 91; refine (Date_any _ _).mono ?_; rintro e w1 ⟨rfl, hb1⟩)
  go_ret;exact ⟨ret_s hfin.out.symm, (by repeat (first | with_reducible exact Below.refl _ _ | with_reducible assumption | refine below_seq ?_ (by with_reducible assumption)))⟩
 ·have hfin := Hj (fmtD_yes h);obtain ⟨y0, y1, m0, m1, d0, d1⟩ := date_bd h;have d2 := mlen_bd (dY d) (dM d);have s1 := dgt_size (dY d) 4;have s2 := dgt_size (dM d) 2;have s3 := dgt_size (dD d) 2;go_enter func43, ntmps43
  go_wp2_with (first | (go_at_call 91; refine (Date_any _ _).mono ?_; rintro e w1 ⟨rfl, hb1⟩) | (go_at_call 92; (first | with_reducible refine (digits4_any _ _ (by omega) (by omega)).mono ?_ | with_reducible refine (digits2_any _ _ (by omega) (by omega)).mono ?_); rintro e w1 ⟨rfl, hb2⟩))
  go_ret;exact ⟨ret_s hfin.out.symm, (by repeat (first | with_reducible exact Below.refl _ _ | with_reducible assumption | refine below_seq ?_ (by with_reducible assumption)))⟩
end Go.Proofs.YthmlhheceihcbaaGreatDoor
namespace Go.Proofs.YthmlhheceihcbaaGreatDoor
set_option maxHeartbeats 16000000
open Go.RowKit Cal Str Tok Frac Txt Tree Go.Proofs.Tryz
set_option linter.unusedVariables false
set_option linter.unusedSimpArgs false
def sgC : Array Value := #[.string ⟨#[]⟩, .string ⟨#[]⟩, .string ⟨#[]⟩, .string ⟨#[]⟩, .string ⟨#[]⟩, .string ⟨#[]⟩, .string ⟨#[]⟩, .string ⟨#[43]⟩, .string ⟨#[45]⟩, .string ⟨#[42]⟩, .string ⟨#[47]⟩, .string ⟨#[60]⟩, .string ⟨#[60, 61]⟩, .string ⟨#[61]⟩, .string ⟨#[60, 62]⟩, .string ⟨#[62]⟩, .string ⟨#[62, 61]⟩, .string ⟨#[97, 110, 100]⟩, .string ⟨#[111, 114]⟩]
theorem built_sg (a : Act) : (prog.built 179 ((#[(7, Operand.const (.string ⟨#[43]⟩)), (8, Operand.const (.string ⟨#[45]⟩)), (9, Operand.const (.string ⟨#[42]⟩)), (10, Operand.const (.string ⟨#[47]⟩)), (11, Operand.const (.string ⟨#[60]⟩)), (12, Operand.const (.string ⟨#[60, 61]⟩)), (13, Operand.const (.string ⟨#[61]⟩)), (14, Operand.const (.string ⟨#[60, 62]⟩)), (15, Operand.const (.string ⟨#[62]⟩)), (16, Operand.const (.string ⟨#[62, 61]⟩)), (17, Operand.const (.string ⟨#[97, 110, 100]⟩)), (18, Operand.const (.string ⟨#[111, 114]⟩))] : Array (Nat × Operand)).map (fun (i, x) => (i, a.eval x))).toList) = some sgC := by kernel_rfl
theorem alloc_row (w : World) (old cs : Array Value) (t : TypeId) : (w.alloc (.cells old t)).setRow w.heap.size cs = w.alloc (.cells cs t) := by
 unfold World.setRow World.alloc
 congr 1
 apply Array.ext_getElem?;intro i;rw [Array.getElem?_modify, Array.getElem?_push, Array.getElem?_push];by_cases h : i = w.heap.size
 ·subst h; simp
 ·rw [if_neg (Ne.symm h)]; simp [h]
theorem heap_new (w : World) (o : Obj) : (w.alloc o).heap[w.heap.size]? = some o := by unfold World.alloc; exact Array.getElem?_push_size
theorem sgC_at {op : Int} (h0 : 7 <= op) (h1 : op <= 18) : sgC[op.toNat]? = some (.string (sgS op)) := by
 rcases (show op = 7 \/ op = 8 \/ op = 9 \/ op = 10 \/ op = 11 \/ op = 12 \/ op = 13 \/ op = 14 \/ op = 15 \/ op = 16 \/ op = 17 \/ op = 18 by omega) with rfl | rfl | rfl | rfl | rfl | rfl | rfl | rfl | rfl | rfl | rfl | rfl <;> rfl
theorem sgC_one : sgC.size = 19 /\ sgC.all (·.oneCell') = true := ⟨rfl, by kernel_rfl⟩
set_option maxRecDepth 20000 in
theorem fsign_any (op : Int) (w : World) (h0 : 7 <= op) (h1 : op <= 18) : Calls prog 97 #[.int .i64 op] w fun e w' => e = .returned (.string (sgS op)) /\ Rel w w' := by
 have hC := sgC_at h0 h1;obtain ⟨S, hS⟩ : ∃ S, sgS op = S := ⟨_, rfl⟩;rw [hS] at hC |-;obtain ⟨k, rfl⟩ : ∃ k : Nat, op = k := ⟨op.toNat, by omega⟩;rw [show (k : Int).toNat = k by omega] at hC;have HC := Hj hC;have hk : k < 19 := by omega
 have hk' : (k : Int) < 19 := by omega
 clear hS hC h0 h1;go_enter func97, ntmps97;go_upto_region 1 with (fail);refine wp_region_lit ?_;refine wpList_build rfl 179 _ rfl (by rw [built_sg]; rfl) ?_;rw [built_sg];simp only [Option.getD_some, Act.put, List.setIfInBounds_toArray, List.set_cons_zero, List.set_cons_succ];refine wpList_plain rfl (fun K hK => ?_);go_simp;refine hK _ _ ?_;clear hK K;refine wpList_store_row rfl 179 _ _ rfl w.heap.size sgC rfl rfl _ _ (heap_new _ _) (by kernel_rfl) (by rfl) sgC_one.2 ?_;rw [alloc_row];refine wpList_nil ?_;have c : (w.alloc (.cells sgC 179)).cell? ⟨w.heap.size, k, none⟩ = some (.string S) := by unfold World.cell?; rw [heap_new]; exact HC.out
 have R : Hid (Rel w (w.alloc (.cells sgC 179))) := (Rel.refl w).alloc _;obtain ⟨X, hX⟩ : ∃ X, w.alloc (.cells sgC 179) = X := ⟨_, rfl⟩;rw [hX] at c R |-;clear hX HC;go_wp2;go_ret;exact ⟨rfl, R.out⟩
end Go.Proofs.YthmlhheceihcbaaGreatDoor
namespace Go.Proofs.YthmlhheceihcbaaGreatDoor
set_option maxHeartbeats 16000000
open Go.RowKit Cal Str Tok Frac Txt Tree Go.Proofs.Tryz
attribute [local go_sem] calmUpon
set_option linter.unusedVariables false
set_option linter.unusedSimpArgs false
theorem str_ret {a b : ByteArray} (h : a = b) : Ending.returned (.string a) = .returned (.string b) := by rw [h]
def TxK (f : Nat) (w : World) (g off i : Nat) (p : Nat -> Int -> ByteArray) : Prop :=
 ∃ (o a b d : Int) (s : ByteArray) (x : Value), Six w g (off + i * 6) o a b d s x /\ (∀ l, (p i l).size <= 4200) /\
  ∀ w' l, Rel w w' -> 0 <= l -> l <= 7 -> Calls prog f #[.agg #[.int .i64 o, .int .i64 a, .int .i64 b, .int .i64 d, .string s, x], .int .i64 l] w' (StrRes (p i l) w')
set_option maxRecDepth 20000 in
theorem text_4 (a b d : Int) (s : ByteArray) (g off cap : Nat) (p : Nat -> Int -> ByteArray) (req : Int) (w : World) (hr : req <= 7) (hg : g < w.heap.size) (K0 : TxK 48 w g off 0 p) :
  Calls prog 48 #[.agg #[.int .i64 4, .int .i64 a, .int .i64 b, .int .i64 d, .string s, .slice (some ⟨g, off, none⟩) 1 cap], .int .i64 req] w (StrRes (ndS 4 a b d s p) w) := by
 obtain ⟨o0, a0, b0, d0, s0, x0, hs0, hz0, hC0⟩ := K0
 have key : Hid (((⟨#[45]⟩ : ByteArray) ++ p 0 (7)) = ndS 4 a b d s p) := by
  show _ = _
  simp [ndS]
 obtain ⟨P0, hP0⟩ : ∃ P, p 0 (7) = P := ⟨_, rfl⟩;have z0 := hz0 (7);have C0 := Hj fun w' (r : Rel w w') => hC0 w' (7) r (by omega) (by omega)
 rw [hP0] at key z0 C0;have y1 : (⟨#[45]⟩ : ByteArray).size <= 1 := by simp only [ByteArray.size_append, szA, List.length]; omega
 have w2 : ¬ 9223372036854775807 < 1 + P0.size := by omega
 have y2 : ((⟨#[45]⟩ : ByteArray) ++ P0).size <= 4201 := by simp only [ByteArray.size_append, szA, List.length]; omega
 obtain ⟨R, hR⟩ : ∃ R, ndS 4 a b d s p = R := ⟨_, rfl⟩;rw [hR] at key |-;have LV := Hj fun w => level_any 4 w (by omega) (by omega)
 rw [show levI 4 = 7 from rfl] at LV;have er : decide (7 < req) = false := dF (by omega);clear hR hP0 hz0 hC0;unfold StrRes at C0 |-;obtain ⟨X, hX⟩ : ∃ X, w.alloc (.cells #[.int .i64 4, .int .i64 a, .int .i64 b, .int .i64 d, .string s, .slice (some ⟨g, off, none⟩) 1 cap] 59) = X := ⟨_, rfl⟩;have RX : Rel w X := by rw [<- hX]; exact (Rel.refl _).alloc _
 have BT := Hj (BoxAt.new (w := w) (g := w.heap.size) rfl (.int .i64 4) (.int .i64 a) (.int .i64 b) (.int .i64 d) (.string s) (.slice (some ⟨g, off, none⟩) 1 cap) 59);rw [hX] at BT;have bt := BT.out;have b0_0 := bt.c0;have b0_1 := bt.c1;have b0_2 := bt.c2;have b0_3 := bt.c3;have b0_4 := bt.c4;have b0_5 := bt.c5;have t0 := six_rel hs0 RX hg;have k0_0 : X.cell? ⟨g, off, none⟩ = some (.int .i64 o0) := t0.c0;have k0_1 : X.cell? ⟨g, off + 1, none⟩ = some (.int .i64 a0) := t0.c1;have k0_2 : X.cell? ⟨g, off + 2, none⟩ = some (.int .i64 b0) := t0.c2;have k0_3 : X.cell? ⟨g, off + 3, none⟩ = some (.int .i64 d0) := t0.c3;have k0_4 : X.cell? ⟨g, off + 4, none⟩ = some (.string s0) := t0.c4;have k0_5 : X.cell? ⟨g, off + 5, none⟩ = some (x0) := t0.c5;have RXw := Hj RX;clear RX BT bt hs0 t0;go_enter func48, ntmps48;go_wp2_with fail;refine (LV.out _).mono ?_;rintro e w1 ⟨rfl, rfl⟩;go_wp2_with fail;refine (C0.out _ RXw.out).mono ?_;rintro e w1 ⟨rfl, h1⟩;have kz1 := h1.size;(try simp only [zsa, zsc, zsd] at kz1);have H1 := Hj h1;clear h1;go_wp2;go_ret;exact ⟨str_ret key.out, RXw.out.trans H1.out⟩
set_option maxRecDepth 20000 in
theorem text_5 (a b d : Int) (s : ByteArray) (g off cap : Nat) (p : Nat -> Int -> ByteArray) (req : Int) (w : World) (hr : req <= 3) (hg : g < w.heap.size) (K0 : TxK 48 w g off 0 p) :
  Calls prog 48 #[.agg #[.int .i64 5, .int .i64 a, .int .i64 b, .int .i64 d, .string s, .slice (some ⟨g, off, none⟩) 1 cap], .int .i64 req] w (StrRes (ndS 5 a b d s p) w) := by
 obtain ⟨o0, a0, b0, d0, s0, x0, hs0, hz0, hC0⟩ := K0
 have key : Hid (((⟨#[110, 111, 116, 32]⟩ : ByteArray) ++ p 0 (3)) = ndS 5 a b d s p) := by
  show _ = _
  simp [ndS]
 obtain ⟨P0, hP0⟩ : ∃ P, p 0 (3) = P := ⟨_, rfl⟩;have z0 := hz0 (3);have C0 := Hj fun w' (r : Rel w w') => hC0 w' (3) r (by omega) (by omega)
 rw [hP0] at key z0 C0;have y1 : (⟨#[110, 111, 116, 32]⟩ : ByteArray).size <= 4 := by simp only [ByteArray.size_append, szA, List.length]; omega
 have w2 : ¬ 9223372036854775807 < 4 + P0.size := by omega
 have y2 : ((⟨#[110, 111, 116, 32]⟩ : ByteArray) ++ P0).size <= 4204 := by simp only [ByteArray.size_append, szA, List.length]; omega
 obtain ⟨R, hR⟩ : ∃ R, ndS 5 a b d s p = R := ⟨_, rfl⟩;rw [hR] at key |-;have LV := Hj fun w => level_any 5 w (by omega) (by omega)
 rw [show levI 5 = 3 from rfl] at LV;have er : decide (3 < req) = false := dF (by omega);clear hR hP0 hz0 hC0;unfold StrRes at C0 |-;obtain ⟨X, hX⟩ : ∃ X, w.alloc (.cells #[.int .i64 5, .int .i64 a, .int .i64 b, .int .i64 d, .string s, .slice (some ⟨g, off, none⟩) 1 cap] 59) = X := ⟨_, rfl⟩;have RX : Rel w X := by rw [<- hX]; exact (Rel.refl _).alloc _
 have BT := Hj (BoxAt.new (w := w) (g := w.heap.size) rfl (.int .i64 5) (.int .i64 a) (.int .i64 b) (.int .i64 d) (.string s) (.slice (some ⟨g, off, none⟩) 1 cap) 59);rw [hX] at BT;have bt := BT.out;have b0_0 := bt.c0;have b0_1 := bt.c1;have b0_2 := bt.c2;have b0_3 := bt.c3;have b0_4 := bt.c4;have b0_5 := bt.c5;have t0 := six_rel hs0 RX hg;have k0_0 : X.cell? ⟨g, off, none⟩ = some (.int .i64 o0) := t0.c0;have k0_1 : X.cell? ⟨g, off + 1, none⟩ = some (.int .i64 a0) := t0.c1;have k0_2 : X.cell? ⟨g, off + 2, none⟩ = some (.int .i64 b0) := t0.c2;have k0_3 : X.cell? ⟨g, off + 3, none⟩ = some (.int .i64 d0) := t0.c3;have k0_4 : X.cell? ⟨g, off + 4, none⟩ = some (.string s0) := t0.c4;have k0_5 : X.cell? ⟨g, off + 5, none⟩ = some (x0) := t0.c5;have RXw := Hj RX;clear RX BT bt hs0 t0;go_enter func48, ntmps48;go_wp2_with fail;refine (LV.out _).mono ?_;rintro e w1 ⟨rfl, rfl⟩;go_wp2_with fail;refine (C0.out _ RXw.out).mono ?_;rintro e w1 ⟨rfl, h1⟩;have kz1 := h1.size;(try simp only [zsa, zsc, zsd] at kz1);have H1 := Hj h1;clear h1;go_wp2;go_ret;exact ⟨str_ret key.out, RXw.out.trans H1.out⟩
set_option maxRecDepth 20000 in
theorem text_6 (a b d : Int) (s : ByteArray) (g off cap : Nat) (p : Nat -> Int -> ByteArray) (req : Int) (w : World) (hr : req <= 7) (hg : g < w.heap.size) (K0 : TxK 48 w g off 0 p) :
  Calls prog 48 #[.agg #[.int .i64 6, .int .i64 a, .int .i64 b, .int .i64 d, .string s, .slice (some ⟨g, off, none⟩) 1 cap], .int .i64 req] w (StrRes (ndS 6 a b d s p) w) := by
 obtain ⟨o0, a0, b0, d0, s0, x0, hs0, hz0, hC0⟩ := K0
 have key : Hid ((((⟨#[102, 108, 111, 111, 114, 40]⟩ : ByteArray) ++ p 0 (0)) ++ ⟨#[41]⟩) = ndS 6 a b d s p) := by
  show _ = _
  simp [ndS]
 obtain ⟨P0, hP0⟩ : ∃ P, p 0 (0) = P := ⟨_, rfl⟩;have z0 := hz0 (0);have C0 := Hj fun w' (r : Rel w w') => hC0 w' (0) r (by omega) (by omega)
 rw [hP0] at key z0 C0;have y1 : (⟨#[102, 108, 111, 111, 114, 40]⟩ : ByteArray).size <= 6 := by simp only [ByteArray.size_append, szA, List.length]; omega
 have w2 : ¬ 9223372036854775807 < 6 + P0.size := by omega
 have y2 : ((⟨#[102, 108, 111, 111, 114, 40]⟩ : ByteArray) ++ P0).size <= 4206 := by simp only [ByteArray.size_append, szA, List.length]; omega
 have w3 : ¬ 9223372036854775807 < 6 + P0.size + 1 := by omega
 have y3 : (((⟨#[102, 108, 111, 111, 114, 40]⟩ : ByteArray) ++ P0) ++ ⟨#[41]⟩).size <= 4207 := by simp only [ByteArray.size_append, szA, List.length]; omega
 obtain ⟨R, hR⟩ : ∃ R, ndS 6 a b d s p = R := ⟨_, rfl⟩;rw [hR] at key |-;have LV := Hj fun w => level_any 6 w (by omega) (by omega)
 rw [show levI 6 = 7 from rfl] at LV;have er : decide (7 < req) = false := dF (by omega);clear hR hP0 hz0 hC0;unfold StrRes at C0 |-;obtain ⟨X, hX⟩ : ∃ X, w.alloc (.cells #[.int .i64 6, .int .i64 a, .int .i64 b, .int .i64 d, .string s, .slice (some ⟨g, off, none⟩) 1 cap] 59) = X := ⟨_, rfl⟩;have RX : Rel w X := by rw [<- hX]; exact (Rel.refl _).alloc _
 have BT := Hj (BoxAt.new (w := w) (g := w.heap.size) rfl (.int .i64 6) (.int .i64 a) (.int .i64 b) (.int .i64 d) (.string s) (.slice (some ⟨g, off, none⟩) 1 cap) 59);rw [hX] at BT;have bt := BT.out;have b0_0 := bt.c0;have b0_1 := bt.c1;have b0_2 := bt.c2;have b0_3 := bt.c3;have b0_4 := bt.c4;have b0_5 := bt.c5;have t0 := six_rel hs0 RX hg;have k0_0 : X.cell? ⟨g, off, none⟩ = some (.int .i64 o0) := t0.c0;have k0_1 : X.cell? ⟨g, off + 1, none⟩ = some (.int .i64 a0) := t0.c1;have k0_2 : X.cell? ⟨g, off + 2, none⟩ = some (.int .i64 b0) := t0.c2;have k0_3 : X.cell? ⟨g, off + 3, none⟩ = some (.int .i64 d0) := t0.c3;have k0_4 : X.cell? ⟨g, off + 4, none⟩ = some (.string s0) := t0.c4;have k0_5 : X.cell? ⟨g, off + 5, none⟩ = some (x0) := t0.c5;have RXw := Hj RX;clear RX BT bt hs0 t0;go_enter func48, ntmps48;go_wp2_with fail;refine (LV.out _).mono ?_;rintro e w1 ⟨rfl, rfl⟩;go_wp2_with fail;refine (C0.out _ RXw.out).mono ?_;rintro e w1 ⟨rfl, h1⟩;have kz1 := h1.size;(try simp only [zsa, zsc, zsd] at kz1);have H1 := Hj h1;clear h1;go_wp2;go_ret;exact ⟨str_ret key.out, RXw.out.trans H1.out⟩
set_option maxRecDepth 20000 in
theorem text_19 (a b d : Int) (s : ByteArray) (g off cap : Nat) (p : Nat -> Int -> ByteArray) (req : Int) (w : World) (hr : req <= 7) (hg : g < w.heap.size) (K0 : TxK 48 w g off 0 p) (K1 : TxK 48 w g off 1 p) :
  Calls prog 48 #[.agg #[.int .i64 19, .int .i64 a, .int .i64 b, .int .i64 d, .string s, .slice (some ⟨g, off, none⟩) 2 cap], .int .i64 req] w (StrRes (ndS 19 a b d s p) w) := by
 obtain ⟨o0, a0, b0, d0, s0, x0, hs0, hz0, hC0⟩ := K0;obtain ⟨o1, a1, b1, d1, s1, x1, hs1, hz1, hC1⟩ := K1
 have key : Hid ((((((⟨#[109, 105, 110, 40]⟩ : ByteArray) ++ p 0 (0)) ++ ⟨#[44, 32]⟩) ++ p 1 (0)) ++ ⟨#[41]⟩) = ndS 19 a b d s p) := by
  show _ = _
  simp [ndS]
 obtain ⟨P0, hP0⟩ : ∃ P, p 0 (0) = P := ⟨_, rfl⟩;have z0 := hz0 (0);have C0 := Hj fun w' (r : Rel w w') => hC0 w' (0) r (by omega) (by omega)
 rw [hP0] at key z0 C0;obtain ⟨P1, hP1⟩ : ∃ P, p 1 (0) = P := ⟨_, rfl⟩;have z1 := hz1 (0);have C1 := Hj fun w' (r : Rel w w') => hC1 w' (0) r (by omega) (by omega)
 rw [hP1] at key z1 C1;have y1 : (⟨#[109, 105, 110, 40]⟩ : ByteArray).size <= 4 := by simp only [ByteArray.size_append, szA, List.length]; omega
 have w2 : ¬ 9223372036854775807 < 4 + P0.size := by omega
 have y2 : ((⟨#[109, 105, 110, 40]⟩ : ByteArray) ++ P0).size <= 4204 := by simp only [ByteArray.size_append, szA, List.length]; omega
 have w3 : ¬ 9223372036854775807 < 4 + P0.size + 2 := by omega
 have y3 : (((⟨#[109, 105, 110, 40]⟩ : ByteArray) ++ P0) ++ ⟨#[44, 32]⟩).size <= 4206 := by simp only [ByteArray.size_append, szA, List.length]; omega
 have w4 : ¬ 9223372036854775807 < 4 + P0.size + 2 + P1.size := by omega
 have y4 : ((((⟨#[109, 105, 110, 40]⟩ : ByteArray) ++ P0) ++ ⟨#[44, 32]⟩) ++ P1).size <= 8406 := by simp only [ByteArray.size_append, szA, List.length]; omega
 have w5 : ¬ 9223372036854775807 < 4 + P0.size + 2 + P1.size + 1 := by omega
 have y5 : (((((⟨#[109, 105, 110, 40]⟩ : ByteArray) ++ P0) ++ ⟨#[44, 32]⟩) ++ P1) ++ ⟨#[41]⟩).size <= 8407 := by simp only [ByteArray.size_append, szA, List.length]; omega
 obtain ⟨R, hR⟩ : ∃ R, ndS 19 a b d s p = R := ⟨_, rfl⟩;rw [hR] at key |-;have LV := Hj fun w => level_any 19 w (by omega) (by omega)
 rw [show levI 19 = 7 from rfl] at LV;have er : decide (7 < req) = false := dF (by omega);clear hR hP0 hz0 hC0 hP1 hz1 hC1;unfold StrRes at C0 C1 |-;obtain ⟨X, hX⟩ : ∃ X, w.alloc (.cells #[.int .i64 19, .int .i64 a, .int .i64 b, .int .i64 d, .string s, .slice (some ⟨g, off, none⟩) 2 cap] 59) = X := ⟨_, rfl⟩;have RX : Rel w X := by rw [<- hX]; exact (Rel.refl _).alloc _
 have BT := Hj (BoxAt.new (w := w) (g := w.heap.size) rfl (.int .i64 19) (.int .i64 a) (.int .i64 b) (.int .i64 d) (.string s) (.slice (some ⟨g, off, none⟩) 2 cap) 59);rw [hX] at BT;have bt := BT.out;have b0_0 := bt.c0;have b0_1 := bt.c1;have b0_2 := bt.c2;have b0_3 := bt.c3;have b0_4 := bt.c4;have b0_5 := bt.c5;have t0 := six_rel hs0 RX hg;have k0_0 : X.cell? ⟨g, off, none⟩ = some (.int .i64 o0) := t0.c0;have k0_1 : X.cell? ⟨g, off + 1, none⟩ = some (.int .i64 a0) := t0.c1;have k0_2 : X.cell? ⟨g, off + 2, none⟩ = some (.int .i64 b0) := t0.c2;have k0_3 : X.cell? ⟨g, off + 3, none⟩ = some (.int .i64 d0) := t0.c3;have k0_4 : X.cell? ⟨g, off + 4, none⟩ = some (.string s0) := t0.c4;have k0_5 : X.cell? ⟨g, off + 5, none⟩ = some (x0) := t0.c5;have t1 := six_rel hs1 RX hg;have k1_0 : X.cell? ⟨g, off + 6, none⟩ = some (.int .i64 o1) := t1.c0;have k1_1 : X.cell? ⟨g, off + 6 + 1, none⟩ = some (.int .i64 a1) := t1.c1;have k1_2 : X.cell? ⟨g, off + 6 + 2, none⟩ = some (.int .i64 b1) := t1.c2;have k1_3 : X.cell? ⟨g, off + 6 + 3, none⟩ = some (.int .i64 d1) := t1.c3;have k1_4 : X.cell? ⟨g, off + 6 + 4, none⟩ = some (.string s1) := t1.c4;have k1_5 : X.cell? ⟨g, off + 6 + 5, none⟩ = some (x1) := t1.c5;have RXw := Hj RX;clear RX BT bt hs0 t0 hs1 t1;go_enter func48, ntmps48;go_wp2_with fail;refine (LV.out _).mono ?_;rintro e w1 ⟨rfl, rfl⟩;go_wp2_with fail;refine wp_region_calm (fun _ w' => Rel X w') (fun _ => false) [0, 1, 2, 3, 4, 5, 6, 7, 8, 9, 10, 11, 12, 13, 14] 0 (by kernel_rfl) (by kernel_rfl) ?hst ?hS0 (fun w0 h0 => ?_)
 case hst => exact fun _ _ _ h r => h.trans r
 case hS0 => exact Rel.refl _
 iterate 4
  refine wcg ?_;apply ei
  ·intro M w hM hS;have e0 := hS.cell b0_0;have e1 := hS.cell b0_1;have e2 := hS.cell b0_2;have e3 := hS.cell b0_3;have e4 := hS.cell b0_4;have e5 := hS.cell b0_5;have f0_0 := hS.cell k0_0;have f0_1 := hS.cell k0_1;have f0_2 := hS.cell k0_2;have f0_3 := hS.cell k0_3;have f0_4 := hS.cell k0_4;have f0_5 := hS.cell k0_5;have f1_0 := hS.cell k1_0;have f1_1 := hS.cell k1_1;have f1_2 := hS.cell k1_2;have f1_3 := hS.cell k1_3;have f1_4 := hS.cell k1_4;have f1_5 := hS.cell k1_5;unfold calmAt;go_simp;exact ⟨rfl, Rel.refl _⟩
 refine wcg ?_;apply ei
 ·intro M w hM hS;unfold calmAt;go_simp
  with_reducible refine (C0.out _ (RXw.out.trans hS)).mono ?_
  rintro e w1 ⟨rfl, hb⟩;exact ⟨rfl, hb⟩
 iterate 6
  refine wcg ?_;apply ei
  ·intro M w hM hS;have e0 := hS.cell b0_0;have e1 := hS.cell b0_1;have e2 := hS.cell b0_2;have e3 := hS.cell b0_3;have e4 := hS.cell b0_4;have e5 := hS.cell b0_5;have f0_0 := hS.cell k0_0;have f0_1 := hS.cell k0_1;have f0_2 := hS.cell k0_2;have f0_3 := hS.cell k0_3;have f0_4 := hS.cell k0_4;have f0_5 := hS.cell k0_5;have f1_0 := hS.cell k1_0;have f1_1 := hS.cell k1_1;have f1_2 := hS.cell k1_2;have f1_3 := hS.cell k1_3;have f1_4 := hS.cell k1_4;have f1_5 := hS.cell k1_5;unfold calmAt;go_simp;exact ⟨rfl, Rel.refl _⟩
 refine wcg ?_;apply ei
 ·intro M w hM hS;unfold calmAt;go_simp
  with_reducible refine (C1.out _ (RXw.out.trans hS)).mono ?_
  rintro e w1 ⟨rfl, hb⟩;exact ⟨rfl, hb⟩
 iterate 3
  refine wcg ?_;apply ei
  ·intro M w hM hS;have e0 := hS.cell b0_0;have e1 := hS.cell b0_1;have e2 := hS.cell b0_2;have e3 := hS.cell b0_3;have e4 := hS.cell b0_4;have e5 := hS.cell b0_5;have f0_0 := hS.cell k0_0;have f0_1 := hS.cell k0_1;have f0_2 := hS.cell k0_2;have f0_3 := hS.cell k0_3;have f0_4 := hS.cell k0_4;have f0_5 := hS.cell k0_5;have f1_0 := hS.cell k1_0;have f1_1 := hS.cell k1_1;have f1_2 := hS.cell k1_2;have f1_3 := hS.cell k1_3;have f1_4 := hS.cell k1_4;have f1_5 := hS.cell k1_5;unfold calmAt;go_simp;exact ⟨rfl, Rel.refl _⟩
 refine wpAnyR_end (by kernel_rfl) (fun w3 h3' => ?_);(try simp only [Act.put, zla, zlb, zlc]);have h3 := h0.trans h3';clear h0 h3';have kz3 := h3.size;(try simp only [zsa, zsc, zsd] at kz3);have H3 := Hj h3;clear h3;go_wp2;go_ret;exact ⟨str_ret key.out, RXw.out.trans H3.out⟩
set_option maxRecDepth 20000 in
theorem text_20 (a b d : Int) (s : ByteArray) (g off cap : Nat) (p : Nat -> Int -> ByteArray) (req : Int) (w : World) (hr : req <= 7) (hg : g < w.heap.size) (K0 : TxK 48 w g off 0 p) (K1 : TxK 48 w g off 1 p) :
  Calls prog 48 #[.agg #[.int .i64 20, .int .i64 a, .int .i64 b, .int .i64 d, .string s, .slice (some ⟨g, off, none⟩) 2 cap], .int .i64 req] w (StrRes (ndS 20 a b d s p) w) := by
 obtain ⟨o0, a0, b0, d0, s0, x0, hs0, hz0, hC0⟩ := K0;obtain ⟨o1, a1, b1, d1, s1, x1, hs1, hz1, hC1⟩ := K1
 have key : Hid ((((((⟨#[109, 97, 120, 40]⟩ : ByteArray) ++ p 0 (0)) ++ ⟨#[44, 32]⟩) ++ p 1 (0)) ++ ⟨#[41]⟩) = ndS 20 a b d s p) := by
  show _ = _
  simp [ndS]
 obtain ⟨P0, hP0⟩ : ∃ P, p 0 (0) = P := ⟨_, rfl⟩;have z0 := hz0 (0);have C0 := Hj fun w' (r : Rel w w') => hC0 w' (0) r (by omega) (by omega)
 rw [hP0] at key z0 C0;obtain ⟨P1, hP1⟩ : ∃ P, p 1 (0) = P := ⟨_, rfl⟩;have z1 := hz1 (0);have C1 := Hj fun w' (r : Rel w w') => hC1 w' (0) r (by omega) (by omega)
 rw [hP1] at key z1 C1;have y1 : (⟨#[109, 97, 120, 40]⟩ : ByteArray).size <= 4 := by simp only [ByteArray.size_append, szA, List.length]; omega
 have w2 : ¬ 9223372036854775807 < 4 + P0.size := by omega
 have y2 : ((⟨#[109, 97, 120, 40]⟩ : ByteArray) ++ P0).size <= 4204 := by simp only [ByteArray.size_append, szA, List.length]; omega
 have w3 : ¬ 9223372036854775807 < 4 + P0.size + 2 := by omega
 have y3 : (((⟨#[109, 97, 120, 40]⟩ : ByteArray) ++ P0) ++ ⟨#[44, 32]⟩).size <= 4206 := by simp only [ByteArray.size_append, szA, List.length]; omega
 have w4 : ¬ 9223372036854775807 < 4 + P0.size + 2 + P1.size := by omega
 have y4 : ((((⟨#[109, 97, 120, 40]⟩ : ByteArray) ++ P0) ++ ⟨#[44, 32]⟩) ++ P1).size <= 8406 := by simp only [ByteArray.size_append, szA, List.length]; omega
 have w5 : ¬ 9223372036854775807 < 4 + P0.size + 2 + P1.size + 1 := by omega
 have y5 : (((((⟨#[109, 97, 120, 40]⟩ : ByteArray) ++ P0) ++ ⟨#[44, 32]⟩) ++ P1) ++ ⟨#[41]⟩).size <= 8407 := by simp only [ByteArray.size_append, szA, List.length]; omega
 obtain ⟨R, hR⟩ : ∃ R, ndS 20 a b d s p = R := ⟨_, rfl⟩;rw [hR] at key |-;have LV := Hj fun w => level_any 20 w (by omega) (by omega)
 rw [show levI 20 = 7 from rfl] at LV;have er : decide (7 < req) = false := dF (by omega);clear hR hP0 hz0 hC0 hP1 hz1 hC1;unfold StrRes at C0 C1 |-;obtain ⟨X, hX⟩ : ∃ X, w.alloc (.cells #[.int .i64 20, .int .i64 a, .int .i64 b, .int .i64 d, .string s, .slice (some ⟨g, off, none⟩) 2 cap] 59) = X := ⟨_, rfl⟩;have RX : Rel w X := by rw [<- hX]; exact (Rel.refl _).alloc _
 have BT := Hj (BoxAt.new (w := w) (g := w.heap.size) rfl (.int .i64 20) (.int .i64 a) (.int .i64 b) (.int .i64 d) (.string s) (.slice (some ⟨g, off, none⟩) 2 cap) 59);rw [hX] at BT;have bt := BT.out;have b0_0 := bt.c0;have b0_1 := bt.c1;have b0_2 := bt.c2;have b0_3 := bt.c3;have b0_4 := bt.c4;have b0_5 := bt.c5;have t0 := six_rel hs0 RX hg;have k0_0 : X.cell? ⟨g, off, none⟩ = some (.int .i64 o0) := t0.c0;have k0_1 : X.cell? ⟨g, off + 1, none⟩ = some (.int .i64 a0) := t0.c1;have k0_2 : X.cell? ⟨g, off + 2, none⟩ = some (.int .i64 b0) := t0.c2;have k0_3 : X.cell? ⟨g, off + 3, none⟩ = some (.int .i64 d0) := t0.c3;have k0_4 : X.cell? ⟨g, off + 4, none⟩ = some (.string s0) := t0.c4;have k0_5 : X.cell? ⟨g, off + 5, none⟩ = some (x0) := t0.c5;have t1 := six_rel hs1 RX hg;have k1_0 : X.cell? ⟨g, off + 6, none⟩ = some (.int .i64 o1) := t1.c0;have k1_1 : X.cell? ⟨g, off + 6 + 1, none⟩ = some (.int .i64 a1) := t1.c1;have k1_2 : X.cell? ⟨g, off + 6 + 2, none⟩ = some (.int .i64 b1) := t1.c2;have k1_3 : X.cell? ⟨g, off + 6 + 3, none⟩ = some (.int .i64 d1) := t1.c3;have k1_4 : X.cell? ⟨g, off + 6 + 4, none⟩ = some (.string s1) := t1.c4;have k1_5 : X.cell? ⟨g, off + 6 + 5, none⟩ = some (x1) := t1.c5;have RXw := Hj RX;clear RX BT bt hs0 t0 hs1 t1;go_enter func48, ntmps48;go_wp2_with fail;refine (LV.out _).mono ?_;rintro e w1 ⟨rfl, rfl⟩;go_wp2_with fail;refine wp_region_calm (fun _ w' => Rel X w') (fun _ => false) [0, 1, 2, 3, 4, 5, 6, 7, 8, 9, 10, 11, 12, 13, 14] 0 (by kernel_rfl) (by kernel_rfl) ?hst ?hS0 (fun w0 h0 => ?_)
 case hst => exact fun _ _ _ h r => h.trans r
 case hS0 => exact Rel.refl _
 iterate 4
  refine wcg ?_;apply ei
  ·intro M w hM hS;have e0 := hS.cell b0_0;have e1 := hS.cell b0_1;have e2 := hS.cell b0_2;have e3 := hS.cell b0_3;have e4 := hS.cell b0_4;have e5 := hS.cell b0_5;have f0_0 := hS.cell k0_0;have f0_1 := hS.cell k0_1;have f0_2 := hS.cell k0_2;have f0_3 := hS.cell k0_3;have f0_4 := hS.cell k0_4;have f0_5 := hS.cell k0_5;have f1_0 := hS.cell k1_0;have f1_1 := hS.cell k1_1;have f1_2 := hS.cell k1_2;have f1_3 := hS.cell k1_3;have f1_4 := hS.cell k1_4;have f1_5 := hS.cell k1_5;unfold calmAt;go_simp;exact ⟨rfl, Rel.refl _⟩
 refine wcg ?_;apply ei
 ·intro M w hM hS;unfold calmAt;go_simp
  with_reducible refine (C0.out _ (RXw.out.trans hS)).mono ?_
  rintro e w1 ⟨rfl, hb⟩;exact ⟨rfl, hb⟩
 iterate 6
  refine wcg ?_;apply ei
  ·intro M w hM hS;have e0 := hS.cell b0_0;have e1 := hS.cell b0_1;have e2 := hS.cell b0_2;have e3 := hS.cell b0_3;have e4 := hS.cell b0_4;have e5 := hS.cell b0_5;have f0_0 := hS.cell k0_0;have f0_1 := hS.cell k0_1;have f0_2 := hS.cell k0_2;have f0_3 := hS.cell k0_3;have f0_4 := hS.cell k0_4;have f0_5 := hS.cell k0_5;have f1_0 := hS.cell k1_0;have f1_1 := hS.cell k1_1;have f1_2 := hS.cell k1_2;have f1_3 := hS.cell k1_3;have f1_4 := hS.cell k1_4;have f1_5 := hS.cell k1_5;unfold calmAt;go_simp;exact ⟨rfl, Rel.refl _⟩
 refine wcg ?_;apply ei
 ·intro M w hM hS;unfold calmAt;go_simp
  with_reducible refine (C1.out _ (RXw.out.trans hS)).mono ?_
  rintro e w1 ⟨rfl, hb⟩;exact ⟨rfl, hb⟩
 iterate 3
  refine wcg ?_;apply ei
  ·intro M w hM hS;have e0 := hS.cell b0_0;have e1 := hS.cell b0_1;have e2 := hS.cell b0_2;have e3 := hS.cell b0_3;have e4 := hS.cell b0_4;have e5 := hS.cell b0_5;have f0_0 := hS.cell k0_0;have f0_1 := hS.cell k0_1;have f0_2 := hS.cell k0_2;have f0_3 := hS.cell k0_3;have f0_4 := hS.cell k0_4;have f0_5 := hS.cell k0_5;have f1_0 := hS.cell k1_0;have f1_1 := hS.cell k1_1;have f1_2 := hS.cell k1_2;have f1_3 := hS.cell k1_3;have f1_4 := hS.cell k1_4;have f1_5 := hS.cell k1_5;unfold calmAt;go_simp;exact ⟨rfl, Rel.refl _⟩
 refine wpAnyR_end (by kernel_rfl) (fun w3 h3' => ?_);(try simp only [Act.put, zla, zlb, zlc]);have h3 := h0.trans h3';clear h0 h3';have kz3 := h3.size;(try simp only [zsa, zsc, zsd] at kz3);have H3 := Hj h3;clear h3;go_wp2;go_ret;exact ⟨str_ret key.out, RXw.out.trans H3.out⟩
set_option maxRecDepth 20000 in
theorem text_21 (a b d : Int) (s : ByteArray) (g off cap : Nat) (p : Nat -> Int -> ByteArray) (req : Int) (w : World) (hr : req <= 0) (hg : g < w.heap.size) (K0 : TxK 48 w g off 0 p) (K1 : TxK 48 w g off 1 p) (K2 : TxK 48 w g off 2 p) :
  Calls prog 48 #[.agg #[.int .i64 21, .int .i64 a, .int .i64 b, .int .i64 d, .string s, .slice (some ⟨g, off, none⟩) 3 cap], .int .i64 req] w (StrRes (ndS 21 a b d s p) w) := by
 obtain ⟨o0, a0, b0, d0, s0, x0, hs0, hz0, hC0⟩ := K0;obtain ⟨o1, a1, b1, d1, s1, x1, hs1, hz1, hC1⟩ := K1;obtain ⟨o2, a2, b2, d2, s2, x2, hs2, hz2, hC2⟩ := K2
 have key : Hid (((((((⟨#[105, 102, 32]⟩ : ByteArray) ++ p 0 (0)) ++ ⟨#[32, 116, 104, 101, 110, 32]⟩) ++ p 1 (0)) ++ ⟨#[32, 101, 108, 115, 101, 32]⟩) ++ p 2 (0)) = ndS 21 a b d s p) := by
  show _ = _
  simp [ndS]
 obtain ⟨P0, hP0⟩ : ∃ P, p 0 (0) = P := ⟨_, rfl⟩;have z0 := hz0 (0);have C0 := Hj fun w' (r : Rel w w') => hC0 w' (0) r (by omega) (by omega)
 rw [hP0] at key z0 C0;obtain ⟨P1, hP1⟩ : ∃ P, p 1 (0) = P := ⟨_, rfl⟩;have z1 := hz1 (0);have C1 := Hj fun w' (r : Rel w w') => hC1 w' (0) r (by omega) (by omega)
 rw [hP1] at key z1 C1;obtain ⟨P2, hP2⟩ : ∃ P, p 2 (0) = P := ⟨_, rfl⟩;have z2 := hz2 (0);have C2 := Hj fun w' (r : Rel w w') => hC2 w' (0) r (by omega) (by omega)
 rw [hP2] at key z2 C2;have y1 : (⟨#[105, 102, 32]⟩ : ByteArray).size <= 3 := by simp only [ByteArray.size_append, szA, List.length]; omega
 have w2 : ¬ 9223372036854775807 < 3 + P0.size := by omega
 have y2 : ((⟨#[105, 102, 32]⟩ : ByteArray) ++ P0).size <= 4203 := by simp only [ByteArray.size_append, szA, List.length]; omega
 have w3 : ¬ 9223372036854775807 < 3 + P0.size + 6 := by omega
 have y3 : (((⟨#[105, 102, 32]⟩ : ByteArray) ++ P0) ++ ⟨#[32, 116, 104, 101, 110, 32]⟩).size <= 4209 := by simp only [ByteArray.size_append, szA, List.length]; omega
 have w4 : ¬ 9223372036854775807 < 3 + P0.size + 6 + P1.size := by omega
 have y4 : ((((⟨#[105, 102, 32]⟩ : ByteArray) ++ P0) ++ ⟨#[32, 116, 104, 101, 110, 32]⟩) ++ P1).size <= 8409 := by simp only [ByteArray.size_append, szA, List.length]; omega
 have w5 : ¬ 9223372036854775807 < 3 + P0.size + 6 + P1.size + 6 := by omega
 have y5 : (((((⟨#[105, 102, 32]⟩ : ByteArray) ++ P0) ++ ⟨#[32, 116, 104, 101, 110, 32]⟩) ++ P1) ++ ⟨#[32, 101, 108, 115, 101, 32]⟩).size <= 8415 := by simp only [ByteArray.size_append, szA, List.length]; omega
 have w6 : ¬ 9223372036854775807 < 3 + P0.size + 6 + P1.size + 6 + P2.size := by omega
 have y6 : ((((((⟨#[105, 102, 32]⟩ : ByteArray) ++ P0) ++ ⟨#[32, 116, 104, 101, 110, 32]⟩) ++ P1) ++ ⟨#[32, 101, 108, 115, 101, 32]⟩) ++ P2).size <= 12615 := by simp only [ByteArray.size_append, szA, List.length]; omega
 obtain ⟨R, hR⟩ : ∃ R, ndS 21 a b d s p = R := ⟨_, rfl⟩;rw [hR] at key |-;have LV := Hj fun w => level_any 21 w (by omega) (by omega)
 rw [show levI 21 = 0 from rfl] at LV;have er : decide (0 < req) = false := dF (by omega);clear hR hP0 hz0 hC0 hP1 hz1 hC1 hP2 hz2 hC2;unfold StrRes at C0 C1 C2 |-;obtain ⟨X, hX⟩ : ∃ X, w.alloc (.cells #[.int .i64 21, .int .i64 a, .int .i64 b, .int .i64 d, .string s, .slice (some ⟨g, off, none⟩) 3 cap] 59) = X := ⟨_, rfl⟩;have RX : Rel w X := by rw [<- hX]; exact (Rel.refl _).alloc _
 have BT := Hj (BoxAt.new (w := w) (g := w.heap.size) rfl (.int .i64 21) (.int .i64 a) (.int .i64 b) (.int .i64 d) (.string s) (.slice (some ⟨g, off, none⟩) 3 cap) 59);rw [hX] at BT;have bt := BT.out;have b0_0 := bt.c0;have b0_1 := bt.c1;have b0_2 := bt.c2;have b0_3 := bt.c3;have b0_4 := bt.c4;have b0_5 := bt.c5;have t0 := six_rel hs0 RX hg;have k0_0 : X.cell? ⟨g, off, none⟩ = some (.int .i64 o0) := t0.c0;have k0_1 : X.cell? ⟨g, off + 1, none⟩ = some (.int .i64 a0) := t0.c1;have k0_2 : X.cell? ⟨g, off + 2, none⟩ = some (.int .i64 b0) := t0.c2;have k0_3 : X.cell? ⟨g, off + 3, none⟩ = some (.int .i64 d0) := t0.c3;have k0_4 : X.cell? ⟨g, off + 4, none⟩ = some (.string s0) := t0.c4;have k0_5 : X.cell? ⟨g, off + 5, none⟩ = some (x0) := t0.c5;have t1 := six_rel hs1 RX hg;have k1_0 : X.cell? ⟨g, off + 6, none⟩ = some (.int .i64 o1) := t1.c0;have k1_1 : X.cell? ⟨g, off + 6 + 1, none⟩ = some (.int .i64 a1) := t1.c1;have k1_2 : X.cell? ⟨g, off + 6 + 2, none⟩ = some (.int .i64 b1) := t1.c2;have k1_3 : X.cell? ⟨g, off + 6 + 3, none⟩ = some (.int .i64 d1) := t1.c3;have k1_4 : X.cell? ⟨g, off + 6 + 4, none⟩ = some (.string s1) := t1.c4;have k1_5 : X.cell? ⟨g, off + 6 + 5, none⟩ = some (x1) := t1.c5;have t2 := six_rel hs2 RX hg;have k2_0 : X.cell? ⟨g, off + 12, none⟩ = some (.int .i64 o2) := t2.c0;have k2_1 : X.cell? ⟨g, off + 12 + 1, none⟩ = some (.int .i64 a2) := t2.c1;have k2_2 : X.cell? ⟨g, off + 12 + 2, none⟩ = some (.int .i64 b2) := t2.c2;have k2_3 : X.cell? ⟨g, off + 12 + 3, none⟩ = some (.int .i64 d2) := t2.c3;have k2_4 : X.cell? ⟨g, off + 12 + 4, none⟩ = some (.string s2) := t2.c4;have k2_5 : X.cell? ⟨g, off + 12 + 5, none⟩ = some (x2) := t2.c5;have RXw := Hj RX;clear RX BT bt hs0 t0 hs1 t1 hs2 t2;go_enter func48, ntmps48;go_wp2_with fail;refine (LV.out _).mono ?_;rintro e w1 ⟨rfl, rfl⟩;go_wp2_with fail;refine wp_region_calm (fun _ w' => Rel X w') (fun _ => false) [0, 1, 2, 3, 4, 5, 6, 7, 8, 9, 10, 11, 12, 13, 14, 15, 16, 17, 18, 19, 20] 0 (by kernel_rfl) (by kernel_rfl) ?hst ?hS0 (fun w0 h0 => ?_)
 case hst => exact fun _ _ _ h r => h.trans r
 case hS0 => exact Rel.refl _
 iterate 4
  refine wcg ?_;apply ei
  ·intro M w hM hS;have e0 := hS.cell b0_0;have e1 := hS.cell b0_1;have e2 := hS.cell b0_2;have e3 := hS.cell b0_3;have e4 := hS.cell b0_4;have e5 := hS.cell b0_5;have f0_0 := hS.cell k0_0;have f0_1 := hS.cell k0_1;have f0_2 := hS.cell k0_2;have f0_3 := hS.cell k0_3;have f0_4 := hS.cell k0_4;have f0_5 := hS.cell k0_5;have f1_0 := hS.cell k1_0;have f1_1 := hS.cell k1_1;have f1_2 := hS.cell k1_2;have f1_3 := hS.cell k1_3;have f1_4 := hS.cell k1_4;have f1_5 := hS.cell k1_5;have f2_0 := hS.cell k2_0;have f2_1 := hS.cell k2_1;have f2_2 := hS.cell k2_2;have f2_3 := hS.cell k2_3;have f2_4 := hS.cell k2_4;have f2_5 := hS.cell k2_5;unfold calmAt;go_simp;exact ⟨rfl, Rel.refl _⟩
 refine wcg ?_;apply ei
 ·intro M w hM hS;unfold calmAt;go_simp
  with_reducible refine (C0.out _ (RXw.out.trans hS)).mono ?_
  rintro e w1 ⟨rfl, hb⟩;exact ⟨rfl, hb⟩
 iterate 6
  refine wcg ?_;apply ei
  ·intro M w hM hS;have e0 := hS.cell b0_0;have e1 := hS.cell b0_1;have e2 := hS.cell b0_2;have e3 := hS.cell b0_3;have e4 := hS.cell b0_4;have e5 := hS.cell b0_5;have f0_0 := hS.cell k0_0;have f0_1 := hS.cell k0_1;have f0_2 := hS.cell k0_2;have f0_3 := hS.cell k0_3;have f0_4 := hS.cell k0_4;have f0_5 := hS.cell k0_5;have f1_0 := hS.cell k1_0;have f1_1 := hS.cell k1_1;have f1_2 := hS.cell k1_2;have f1_3 := hS.cell k1_3;have f1_4 := hS.cell k1_4;have f1_5 := hS.cell k1_5;have f2_0 := hS.cell k2_0;have f2_1 := hS.cell k2_1;have f2_2 := hS.cell k2_2;have f2_3 := hS.cell k2_3;have f2_4 := hS.cell k2_4;have f2_5 := hS.cell k2_5;unfold calmAt;go_simp;exact ⟨rfl, Rel.refl _⟩
 refine wcg ?_;apply ei
 ·intro M w hM hS;unfold calmAt;go_simp
  with_reducible refine (C1.out _ (RXw.out.trans hS)).mono ?_
  rintro e w1 ⟨rfl, hb⟩;exact ⟨rfl, hb⟩
 iterate 6
  refine wcg ?_;apply ei
  ·intro M w hM hS;have e0 := hS.cell b0_0;have e1 := hS.cell b0_1;have e2 := hS.cell b0_2;have e3 := hS.cell b0_3;have e4 := hS.cell b0_4;have e5 := hS.cell b0_5;have f0_0 := hS.cell k0_0;have f0_1 := hS.cell k0_1;have f0_2 := hS.cell k0_2;have f0_3 := hS.cell k0_3;have f0_4 := hS.cell k0_4;have f0_5 := hS.cell k0_5;have f1_0 := hS.cell k1_0;have f1_1 := hS.cell k1_1;have f1_2 := hS.cell k1_2;have f1_3 := hS.cell k1_3;have f1_4 := hS.cell k1_4;have f1_5 := hS.cell k1_5;have f2_0 := hS.cell k2_0;have f2_1 := hS.cell k2_1;have f2_2 := hS.cell k2_2;have f2_3 := hS.cell k2_3;have f2_4 := hS.cell k2_4;have f2_5 := hS.cell k2_5;unfold calmAt;go_simp;exact ⟨rfl, Rel.refl _⟩
 refine wcg ?_;apply ei
 ·intro M w hM hS;unfold calmAt;go_simp
  with_reducible refine (C2.out _ (RXw.out.trans hS)).mono ?_
  rintro e w1 ⟨rfl, hb⟩;exact ⟨rfl, hb⟩
 iterate 2
  refine wcg ?_;apply ei
  ·intro M w hM hS;have e0 := hS.cell b0_0;have e1 := hS.cell b0_1;have e2 := hS.cell b0_2;have e3 := hS.cell b0_3;have e4 := hS.cell b0_4;have e5 := hS.cell b0_5;have f0_0 := hS.cell k0_0;have f0_1 := hS.cell k0_1;have f0_2 := hS.cell k0_2;have f0_3 := hS.cell k0_3;have f0_4 := hS.cell k0_4;have f0_5 := hS.cell k0_5;have f1_0 := hS.cell k1_0;have f1_1 := hS.cell k1_1;have f1_2 := hS.cell k1_2;have f1_3 := hS.cell k1_3;have f1_4 := hS.cell k1_4;have f1_5 := hS.cell k1_5;have f2_0 := hS.cell k2_0;have f2_1 := hS.cell k2_1;have f2_2 := hS.cell k2_2;have f2_3 := hS.cell k2_3;have f2_4 := hS.cell k2_4;have f2_5 := hS.cell k2_5;unfold calmAt;go_simp;exact ⟨rfl, Rel.refl _⟩
 refine wpAnyR_end (by kernel_rfl) (fun w3 h3' => ?_);(try simp only [Act.put, zla, zlb, zlc]);have h3 := h0.trans h3';clear h0 h3';have kz3 := h3.size;(try simp only [zsa, zsc, zsd] at kz3);have H3 := Hj h3;clear h3;go_wp2;go_ret;exact ⟨str_ret key.out, RXw.out.trans H3.out⟩
set_option maxRecDepth 20000 in
theorem text_binr (op L : Int) (a b d : Int) (s : ByteArray) (g off cap : Nat) (p : Nat -> Int -> ByteArray) (req : Int) (w : World) (h0 : 7 <= op) (h1 : op <= 18) (hl4 : L = 4) (hL : levI op = L) (hr : req <= 4) (hg : g < w.heap.size) (K0 : TxK 48 w g off 0 p) (K1 : TxK 48 w g off 1 p) :
  Calls prog 48 #[.agg #[.int .i64 op, .int .i64 a, .int .i64 b, .int .i64 d, .string s, .slice (some ⟨g, off, none⟩) 2 cap], .int .i64 req] w (StrRes (ndS op a b d s p) w) := by
 obtain ⟨o0, a0, b0, d0, s0, x0, hs0, hz0, hC0⟩ := K0;obtain ⟨o1, a1, b1, d1, s1, x1, hs1, hz1, hC1⟩ := K1
 have key : Hid (((((p 0 (5) ++ ⟨#[32]⟩) ++ sgS op) ++ ⟨#[32]⟩) ++ p 1 (5)) = ndS op a b d s p) := by
  show _ = _
  unfold ndS;rw [if_neg (show ¬ op = 1 by omega), if_neg (show ¬ op = 2 by omega), if_neg (show ¬ op = 3 by omega), if_neg (show ¬ op = 4 by omega), if_neg (show ¬ op = 5 by omega), if_neg (show ¬ op = 6 by omega), if_neg (show ¬ op = 19 by omega), if_neg (show ¬ op = 20 by omega), if_neg (show ¬ op = 21 by omega), hL, hl4, if_pos rfl]; rfl
 obtain ⟨P0, hP0⟩ : ∃ P, p 0 (5) = P := ⟨_, rfl⟩;have z0 := hz0 (5);have C0 := Hj fun w' (r : Rel w w') => hC0 w' (5) r (by omega) (by omega)
 rw [hP0] at key z0 C0;obtain ⟨P1, hP1⟩ : ∃ P, p 1 (5) = P := ⟨_, rfl⟩;have z1 := hz1 (5);have C1 := Hj fun w' (r : Rel w w') => hC1 w' (5) r (by omega) (by omega)
 rw [hP1] at key z1 C1;have wp : IntKind.i64.wrap (5) = 5 := IntWalk.i64_in _ ⟨by omega, by omega⟩;have SG := Hj fun w => fsign_any op w (by omega) (by omega)
 have zs := sg_size op;obtain ⟨SS, hSS⟩ : ∃ SS, sgS op = SS := ⟨_, rfl⟩;rw [hSS] at key SG zs;have w2 : ¬ 9223372036854775807 < P0.size + 1 := by omega
 have y2 : ((P0 : ByteArray) ++ ⟨#[32]⟩).size <= 4201 := by simp only [ByteArray.size_append, szA, List.length]; omega
 have w3 : ¬ 9223372036854775807 < P0.size + 1 + SS.size := by omega
 have y3 : (((P0 : ByteArray) ++ ⟨#[32]⟩) ++ SS).size <= 4204 := by simp only [ByteArray.size_append, szA, List.length]; omega
 have w4 : ¬ 9223372036854775807 < P0.size + 1 + SS.size + 1 := by omega
 have y4 : ((((P0 : ByteArray) ++ ⟨#[32]⟩) ++ SS) ++ ⟨#[32]⟩).size <= 4205 := by simp only [ByteArray.size_append, szA, List.length]; omega
 have w5 : ¬ 9223372036854775807 < P0.size + 1 + SS.size + 1 + P1.size := by omega
 have y5 : (((((P0 : ByteArray) ++ ⟨#[32]⟩) ++ SS) ++ ⟨#[32]⟩) ++ P1).size <= 8405 := by simp only [ByteArray.size_append, szA, List.length]; omega
 obtain ⟨R, hR⟩ : ∃ R, ndS op a b d s p = R := ⟨_, rfl⟩;rw [hR] at key |-;have LV := Hj fun w => level_any op w (by omega) (by omega)
 rw [hL] at LV;have er : decide (4 < req) = false := dF (by omega);subst hl4;have n1 : (op == 1) = false := by rw [zn]; omega
 have n2 : (op == 2) = false := by rw [zn]; omega
 have n3 : (op == 3) = false := by rw [zn]; omega
 have n4 : (op == 4) = false := by rw [zn]; omega
 have n5 : (op == 5) = false := by rw [zn]; omega
 have n6 : (op == 6) = false := by rw [zn]; omega
 have n19 : (op == 19) = false := by rw [zn]; omega
 have n20 : (op == 20) = false := by rw [zn]; omega
 have n21 : (op == 21) = false := by rw [zn]; omega
 clear hR hP0 hz0 hC0 hP1 hz1 hC1 hSS;unfold StrRes at C0 C1 |-;obtain ⟨X, hX⟩ : ∃ X, w.alloc (.cells #[.int .i64 op, .int .i64 a, .int .i64 b, .int .i64 d, .string s, .slice (some ⟨g, off, none⟩) 2 cap] 59) = X := ⟨_, rfl⟩;have RX : Rel w X := by rw [<- hX]; exact (Rel.refl _).alloc _
 have BT := Hj (BoxAt.new (w := w) (g := w.heap.size) rfl (.int .i64 op) (.int .i64 a) (.int .i64 b) (.int .i64 d) (.string s) (.slice (some ⟨g, off, none⟩) 2 cap) 59);rw [hX] at BT;have bt := BT.out;have b0_0 := bt.c0;have b0_1 := bt.c1;have b0_2 := bt.c2;have b0_3 := bt.c3;have b0_4 := bt.c4;have b0_5 := bt.c5;have t0 := six_rel hs0 RX hg;have k0_0 : X.cell? ⟨g, off, none⟩ = some (.int .i64 o0) := t0.c0;have k0_1 : X.cell? ⟨g, off + 1, none⟩ = some (.int .i64 a0) := t0.c1;have k0_2 : X.cell? ⟨g, off + 2, none⟩ = some (.int .i64 b0) := t0.c2;have k0_3 : X.cell? ⟨g, off + 3, none⟩ = some (.int .i64 d0) := t0.c3;have k0_4 : X.cell? ⟨g, off + 4, none⟩ = some (.string s0) := t0.c4;have k0_5 : X.cell? ⟨g, off + 5, none⟩ = some (x0) := t0.c5;have t1 := six_rel hs1 RX hg;have k1_0 : X.cell? ⟨g, off + 6, none⟩ = some (.int .i64 o1) := t1.c0;have k1_1 : X.cell? ⟨g, off + 6 + 1, none⟩ = some (.int .i64 a1) := t1.c1;have k1_2 : X.cell? ⟨g, off + 6 + 2, none⟩ = some (.int .i64 b1) := t1.c2;have k1_3 : X.cell? ⟨g, off + 6 + 3, none⟩ = some (.int .i64 d1) := t1.c3;have k1_4 : X.cell? ⟨g, off + 6 + 4, none⟩ = some (.string s1) := t1.c4;have k1_5 : X.cell? ⟨g, off + 6 + 5, none⟩ = some (x1) := t1.c5;have RXw := Hj RX;clear RX BT bt hs0 t0 hs1 t1;go_enter func48, ntmps48;go_wp2_with fail;refine (LV.out _).mono ?_;rintro e w1 ⟨rfl, rfl⟩;go_wp2_with fail;refine wp_region_calm (fun _ w' => Rel X w') (fun _ => false) [0, 1, 2, 3, 4, 5, 6, 7, 8, 9, 10, 11, 12, 13, 14, 15, 16, 17, 18, 19, 20] 0 (by kernel_rfl) (by kernel_rfl) ?hst ?hS0 (fun w0 h0 => ?_)
 case hst => exact fun _ _ _ h r => h.trans r
 case hS0 => exact Rel.refl _
 iterate 5
  refine wcg ?_;apply ei
  ·intro M w hM hS;have e0 := hS.cell b0_0;have e1 := hS.cell b0_1;have e2 := hS.cell b0_2;have e3 := hS.cell b0_3;have e4 := hS.cell b0_4;have e5 := hS.cell b0_5;have f0_0 := hS.cell k0_0;have f0_1 := hS.cell k0_1;have f0_2 := hS.cell k0_2;have f0_3 := hS.cell k0_3;have f0_4 := hS.cell k0_4;have f0_5 := hS.cell k0_5;have f1_0 := hS.cell k1_0;have f1_1 := hS.cell k1_1;have f1_2 := hS.cell k1_2;have f1_3 := hS.cell k1_3;have f1_4 := hS.cell k1_4;have f1_5 := hS.cell k1_5;unfold calmAt;go_simp;exact ⟨rfl, Rel.refl _⟩
 refine wcg ?_;apply ei
 ·intro M w hM hS;unfold calmAt;go_simp
  with_reducible refine (C0.out _ (RXw.out.trans hS)).mono ?_
  rintro e w1 ⟨rfl, hb⟩;exact ⟨rfl, hb⟩
 iterate 3
  refine wcg ?_;apply ei
  ·intro M w hM hS;have e0 := hS.cell b0_0;have e1 := hS.cell b0_1;have e2 := hS.cell b0_2;have e3 := hS.cell b0_3;have e4 := hS.cell b0_4;have e5 := hS.cell b0_5;have f0_0 := hS.cell k0_0;have f0_1 := hS.cell k0_1;have f0_2 := hS.cell k0_2;have f0_3 := hS.cell k0_3;have f0_4 := hS.cell k0_4;have f0_5 := hS.cell k0_5;have f1_0 := hS.cell k1_0;have f1_1 := hS.cell k1_1;have f1_2 := hS.cell k1_2;have f1_3 := hS.cell k1_3;have f1_4 := hS.cell k1_4;have f1_5 := hS.cell k1_5;unfold calmAt;go_simp;exact ⟨rfl, Rel.refl _⟩
 refine wcg ?_;apply ei
 ·intro M w hM hS;unfold calmAt;go_simp
  with_reducible refine (SG.out _).mono ?_
  rintro e w1 ⟨rfl, hb⟩;exact ⟨rfl, hb⟩
 iterate 8
  refine wcg ?_;apply ei
  ·intro M w hM hS;have e0 := hS.cell b0_0;have e1 := hS.cell b0_1;have e2 := hS.cell b0_2;have e3 := hS.cell b0_3;have e4 := hS.cell b0_4;have e5 := hS.cell b0_5;have f0_0 := hS.cell k0_0;have f0_1 := hS.cell k0_1;have f0_2 := hS.cell k0_2;have f0_3 := hS.cell k0_3;have f0_4 := hS.cell k0_4;have f0_5 := hS.cell k0_5;have f1_0 := hS.cell k1_0;have f1_1 := hS.cell k1_1;have f1_2 := hS.cell k1_2;have f1_3 := hS.cell k1_3;have f1_4 := hS.cell k1_4;have f1_5 := hS.cell k1_5;unfold calmAt;go_simp;exact ⟨rfl, Rel.refl _⟩
 refine wcg ?_;apply ei
 ·intro M w hM hS;unfold calmAt;go_simp
  with_reducible refine (C1.out _ (RXw.out.trans hS)).mono ?_
  rintro e w1 ⟨rfl, hb⟩;exact ⟨rfl, hb⟩
 iterate 2
  refine wcg ?_;apply ei
  ·intro M w hM hS;have e0 := hS.cell b0_0;have e1 := hS.cell b0_1;have e2 := hS.cell b0_2;have e3 := hS.cell b0_3;have e4 := hS.cell b0_4;have e5 := hS.cell b0_5;have f0_0 := hS.cell k0_0;have f0_1 := hS.cell k0_1;have f0_2 := hS.cell k0_2;have f0_3 := hS.cell k0_3;have f0_4 := hS.cell k0_4;have f0_5 := hS.cell k0_5;have f1_0 := hS.cell k1_0;have f1_1 := hS.cell k1_1;have f1_2 := hS.cell k1_2;have f1_3 := hS.cell k1_3;have f1_4 := hS.cell k1_4;have f1_5 := hS.cell k1_5;unfold calmAt;go_simp;exact ⟨rfl, Rel.refl _⟩
 refine wpAnyR_end (by kernel_rfl) (fun w3 h3' => ?_);(try simp only [Act.put, zla, zlb, zlc]);have h3 := h0.trans h3';clear h0 h3';have kz3 := h3.size;(try simp only [zsa, zsc, zsd] at kz3);have H3 := Hj h3;clear h3;go_wp2;go_ret;exact ⟨str_ret key.out, RXw.out.trans H3.out⟩
set_option maxRecDepth 20000 in
theorem text_bino (op L : Int) (a b d : Int) (s : ByteArray) (g off cap : Nat) (p : Nat -> Int -> ByteArray) (req : Int) (w : World) (h0 : 7 <= op) (h1 : op <= 18) (hL : levI op = L) (hL0 : 0 <= L) (hL6 : L <= 6) (h4 : ¬ L = 4) (hr : req <= L) (hg : g < w.heap.size) (K0 : TxK 48 w g off 0 p) (K1 : TxK 48 w g off 1 p) :
  Calls prog 48 #[.agg #[.int .i64 op, .int .i64 a, .int .i64 b, .int .i64 d, .string s, .slice (some ⟨g, off, none⟩) 2 cap], .int .i64 req] w (StrRes (ndS op a b d s p) w) := by
 obtain ⟨o0, a0, b0, d0, s0, x0, hs0, hz0, hC0⟩ := K0;obtain ⟨o1, a1, b1, d1, s1, x1, hs1, hz1, hC1⟩ := K1
 have key : Hid (((((p 0 (L) ++ ⟨#[32]⟩) ++ sgS op) ++ ⟨#[32]⟩) ++ p 1 (L + 1)) = ndS op a b d s p) := by
  show _ = _
  unfold ndS;rw [if_neg (show ¬ op = 1 by omega), if_neg (show ¬ op = 2 by omega), if_neg (show ¬ op = 3 by omega), if_neg (show ¬ op = 4 by omega), if_neg (show ¬ op = 5 by omega), if_neg (show ¬ op = 6 by omega), if_neg (show ¬ op = 19 by omega), if_neg (show ¬ op = 20 by omega), if_neg (show ¬ op = 21 by omega), hL, if_neg h4]
 obtain ⟨P0, hP0⟩ : ∃ P, p 0 (L) = P := ⟨_, rfl⟩;have z0 := hz0 (L);have C0 := Hj fun w' (r : Rel w w') => hC0 w' (L) r (by omega) (by omega)
 rw [hP0] at key z0 C0;obtain ⟨P1, hP1⟩ : ∃ P, p 1 (L + 1) = P := ⟨_, rfl⟩;have z1 := hz1 (L + 1);have C1 := Hj fun w' (r : Rel w w') => hC1 w' (L + 1) r (by omega) (by omega)
 rw [hP1] at key z1 C1;have wp : IntKind.i64.wrap (L + 1) = L + 1 := IntWalk.i64_in _ ⟨by omega, by omega⟩;have SG := Hj fun w => fsign_any op w (by omega) (by omega)
 have zs := sg_size op;obtain ⟨SS, hSS⟩ : ∃ SS, sgS op = SS := ⟨_, rfl⟩;rw [hSS] at key SG zs;have w2 : ¬ 9223372036854775807 < P0.size + 1 := by omega
 have y2 : ((P0 : ByteArray) ++ ⟨#[32]⟩).size <= 4201 := by simp only [ByteArray.size_append, szA, List.length]; omega
 have w3 : ¬ 9223372036854775807 < P0.size + 1 + SS.size := by omega
 have y3 : (((P0 : ByteArray) ++ ⟨#[32]⟩) ++ SS).size <= 4204 := by simp only [ByteArray.size_append, szA, List.length]; omega
 have w4 : ¬ 9223372036854775807 < P0.size + 1 + SS.size + 1 := by omega
 have y4 : ((((P0 : ByteArray) ++ ⟨#[32]⟩) ++ SS) ++ ⟨#[32]⟩).size <= 4205 := by simp only [ByteArray.size_append, szA, List.length]; omega
 have w5 : ¬ 9223372036854775807 < P0.size + 1 + SS.size + 1 + P1.size := by omega
 have y5 : (((((P0 : ByteArray) ++ ⟨#[32]⟩) ++ SS) ++ ⟨#[32]⟩) ++ P1).size <= 8405 := by simp only [ByteArray.size_append, szA, List.length]; omega
 obtain ⟨R, hR⟩ : ∃ R, ndS op a b d s p = R := ⟨_, rfl⟩;rw [hR] at key |-;have LV := Hj fun w => level_any op w (by omega) (by omega)
 rw [hL] at LV;have er : decide (L < req) = false := dF (by omega);have q4 : (L == 4) = false := by rw [zn]; exact h4
 have n1 : (op == 1) = false := by rw [zn]; omega
 have n2 : (op == 2) = false := by rw [zn]; omega
 have n3 : (op == 3) = false := by rw [zn]; omega
 have n4 : (op == 4) = false := by rw [zn]; omega
 have n5 : (op == 5) = false := by rw [zn]; omega
 have n6 : (op == 6) = false := by rw [zn]; omega
 have n19 : (op == 19) = false := by rw [zn]; omega
 have n20 : (op == 20) = false := by rw [zn]; omega
 have n21 : (op == 21) = false := by rw [zn]; omega
 clear hR hP0 hz0 hC0 hP1 hz1 hC1 hSS;unfold StrRes at C0 C1 |-;obtain ⟨X, hX⟩ : ∃ X, w.alloc (.cells #[.int .i64 op, .int .i64 a, .int .i64 b, .int .i64 d, .string s, .slice (some ⟨g, off, none⟩) 2 cap] 59) = X := ⟨_, rfl⟩;have RX : Rel w X := by rw [<- hX]; exact (Rel.refl _).alloc _
 have BT := Hj (BoxAt.new (w := w) (g := w.heap.size) rfl (.int .i64 op) (.int .i64 a) (.int .i64 b) (.int .i64 d) (.string s) (.slice (some ⟨g, off, none⟩) 2 cap) 59);rw [hX] at BT;have bt := BT.out;have b0_0 := bt.c0;have b0_1 := bt.c1;have b0_2 := bt.c2;have b0_3 := bt.c3;have b0_4 := bt.c4;have b0_5 := bt.c5;have t0 := six_rel hs0 RX hg;have k0_0 : X.cell? ⟨g, off, none⟩ = some (.int .i64 o0) := t0.c0;have k0_1 : X.cell? ⟨g, off + 1, none⟩ = some (.int .i64 a0) := t0.c1;have k0_2 : X.cell? ⟨g, off + 2, none⟩ = some (.int .i64 b0) := t0.c2;have k0_3 : X.cell? ⟨g, off + 3, none⟩ = some (.int .i64 d0) := t0.c3;have k0_4 : X.cell? ⟨g, off + 4, none⟩ = some (.string s0) := t0.c4;have k0_5 : X.cell? ⟨g, off + 5, none⟩ = some (x0) := t0.c5;have t1 := six_rel hs1 RX hg;have k1_0 : X.cell? ⟨g, off + 6, none⟩ = some (.int .i64 o1) := t1.c0;have k1_1 : X.cell? ⟨g, off + 6 + 1, none⟩ = some (.int .i64 a1) := t1.c1;have k1_2 : X.cell? ⟨g, off + 6 + 2, none⟩ = some (.int .i64 b1) := t1.c2;have k1_3 : X.cell? ⟨g, off + 6 + 3, none⟩ = some (.int .i64 d1) := t1.c3;have k1_4 : X.cell? ⟨g, off + 6 + 4, none⟩ = some (.string s1) := t1.c4;have k1_5 : X.cell? ⟨g, off + 6 + 5, none⟩ = some (x1) := t1.c5;have RXw := Hj RX;clear RX BT bt hs0 t0 hs1 t1;go_enter func48, ntmps48;go_wp2_with fail;refine (LV.out _).mono ?_;rintro e w1 ⟨rfl, rfl⟩;go_wp2_with fail;refine wp_region_calm (fun _ w' => Rel X w') (fun _ => false) [0, 1, 2, 3, 4, 5, 6, 7, 8, 9, 10, 11, 12, 13, 14, 15, 16, 17, 18, 19, 20] 0 (by kernel_rfl) (by kernel_rfl) ?hst ?hS0 (fun w0 h0 => ?_)
 case hst => exact fun _ _ _ h r => h.trans r
 case hS0 => exact Rel.refl _
 iterate 5
  refine wcg ?_;apply ei
  ·intro M w hM hS;have e0 := hS.cell b0_0;have e1 := hS.cell b0_1;have e2 := hS.cell b0_2;have e3 := hS.cell b0_3;have e4 := hS.cell b0_4;have e5 := hS.cell b0_5;have f0_0 := hS.cell k0_0;have f0_1 := hS.cell k0_1;have f0_2 := hS.cell k0_2;have f0_3 := hS.cell k0_3;have f0_4 := hS.cell k0_4;have f0_5 := hS.cell k0_5;have f1_0 := hS.cell k1_0;have f1_1 := hS.cell k1_1;have f1_2 := hS.cell k1_2;have f1_3 := hS.cell k1_3;have f1_4 := hS.cell k1_4;have f1_5 := hS.cell k1_5;unfold calmAt;go_simp;exact ⟨rfl, Rel.refl _⟩
 refine wcg ?_;apply ei
 ·intro M w hM hS;unfold calmAt;go_simp
  with_reducible refine (C0.out _ (RXw.out.trans hS)).mono ?_
  rintro e w1 ⟨rfl, hb⟩;exact ⟨rfl, hb⟩
 iterate 3
  refine wcg ?_;apply ei
  ·intro M w hM hS;have e0 := hS.cell b0_0;have e1 := hS.cell b0_1;have e2 := hS.cell b0_2;have e3 := hS.cell b0_3;have e4 := hS.cell b0_4;have e5 := hS.cell b0_5;have f0_0 := hS.cell k0_0;have f0_1 := hS.cell k0_1;have f0_2 := hS.cell k0_2;have f0_3 := hS.cell k0_3;have f0_4 := hS.cell k0_4;have f0_5 := hS.cell k0_5;have f1_0 := hS.cell k1_0;have f1_1 := hS.cell k1_1;have f1_2 := hS.cell k1_2;have f1_3 := hS.cell k1_3;have f1_4 := hS.cell k1_4;have f1_5 := hS.cell k1_5;unfold calmAt;go_simp;exact ⟨rfl, Rel.refl _⟩
 refine wcg ?_;apply ei
 ·intro M w hM hS;unfold calmAt;go_simp
  with_reducible refine (SG.out _).mono ?_
  rintro e w1 ⟨rfl, hb⟩;exact ⟨rfl, hb⟩
 iterate 8
  refine wcg ?_;apply ei
  ·intro M w hM hS;have e0 := hS.cell b0_0;have e1 := hS.cell b0_1;have e2 := hS.cell b0_2;have e3 := hS.cell b0_3;have e4 := hS.cell b0_4;have e5 := hS.cell b0_5;have f0_0 := hS.cell k0_0;have f0_1 := hS.cell k0_1;have f0_2 := hS.cell k0_2;have f0_3 := hS.cell k0_3;have f0_4 := hS.cell k0_4;have f0_5 := hS.cell k0_5;have f1_0 := hS.cell k1_0;have f1_1 := hS.cell k1_1;have f1_2 := hS.cell k1_2;have f1_3 := hS.cell k1_3;have f1_4 := hS.cell k1_4;have f1_5 := hS.cell k1_5;unfold calmAt;go_simp;exact ⟨rfl, Rel.refl _⟩
 refine wcg ?_;apply ei
 ·intro M w hM hS;unfold calmAt;go_simp
  with_reducible refine (C1.out _ (RXw.out.trans hS)).mono ?_
  rintro e w1 ⟨rfl, hb⟩;exact ⟨rfl, hb⟩
 iterate 2
  refine wcg ?_;apply ei
  ·intro M w hM hS;have e0 := hS.cell b0_0;have e1 := hS.cell b0_1;have e2 := hS.cell b0_2;have e3 := hS.cell b0_3;have e4 := hS.cell b0_4;have e5 := hS.cell b0_5;have f0_0 := hS.cell k0_0;have f0_1 := hS.cell k0_1;have f0_2 := hS.cell k0_2;have f0_3 := hS.cell k0_3;have f0_4 := hS.cell k0_4;have f0_5 := hS.cell k0_5;have f1_0 := hS.cell k1_0;have f1_1 := hS.cell k1_1;have f1_2 := hS.cell k1_2;have f1_3 := hS.cell k1_3;have f1_4 := hS.cell k1_4;have f1_5 := hS.cell k1_5;unfold calmAt;go_simp;exact ⟨rfl, Rel.refl _⟩
 refine wpAnyR_end (by kernel_rfl) (fun w3 h3' => ?_);(try simp only [Act.put, zla, zlb, zlc]);have h3 := h0.trans h3';clear h0 h3';have kz3 := h3.size;(try simp only [zsa, zsc, zsd] at kz3);have H3 := Hj h3;clear h3;go_wp2;go_ret;exact ⟨str_ret key.out, RXw.out.trans H3.out⟩
end Go.Proofs.YthmlhheceihcbaaGreatDoor
namespace Go.Proofs.YthmlhheceihcbaaGreatDoor
set_option maxHeartbeats 16000000
open Go.RowKit Go.Proofs.Tryz
set_option linter.unusedVariables false
set_option linter.unusedSimpArgs false
abbrev SbT : TypeId := 98
theorem tz_u8 : (prog.info? 5).map (fun i => (i.zero, i.size, i.bytes)) = some (some (.int .u8 0), 1, 1) := by kernel_rfl
theorem tz_sb : (prog.info? SbT).map (·.size) = some 2 := by kernel_rfl
def Nb (b : Nat) (W X : World) : Prop := W.heap.size <= X.heap.size /\ ∀ k, k < W.heap.size -> k ≠ b -> (∀ c f, W.heap[k]? ≠ some (.cells c 5 f)) -> X.heap[k]? = W.heap[k]?
theorem Nb.refl (b : Nat) (W : World) : Nb b W W := ⟨Nat.le_refl _, fun _ _ _ _ => rfl⟩
theorem Nb.trans {b : Nat} {W X Y : World} (h : Nb b W X) (g : Nb b X Y) : Nb b W Y := ⟨Nat.le_trans h.1 g.1, fun k hk hb hc => by
 have e := h.2 k hk hb hc
 exact (g.2 k (Nat.lt_of_lt_of_le hk h.1) hb (by rw [e]; exact hc)).trans e⟩
theorem Nb.of {b : Nat} {W X : World} (h : Rel W X) : Nb b W X := ⟨Below.size h, fun k hk _ _ => Below.block h k hk⟩
theorem Nb.set (b : Nat) (W : World) (i : Nat) (u : Value) : Nb b W (W.setCell ⟨b, i, none⟩ u) := ⟨by simp [World.setCell], fun k _ hb _ => Below.heap_setCell _ _ _ _ hb⟩
theorem Nb.grown {b B n : Nat} {W X : World} {v : Value} {xs : List Value} (g : W.grownBy X v.ownBlock) (own : W.ownsRow B 5 1 v n xs) : Nb b W X := ⟨g.size, fun k hk _ hc => g.block k hk fun e => by
 rcases own.2 with ⟨h, _⟩ | ⟨q, cap, cur, h, _, h2, _⟩
 ·rw [h] at e; cases e
 ·rw [h] at e
  injection e with e
  subst e
  exact hc _ _ h2⟩
set_option maxRecDepth 100000 in
theorem b_check (B b : Nat) (bs : List Value) (w : World) (h : Lib.IsBuilder SbT 5 B b bs w) : Calls prog 88 #[.pointer (some ⟨b, 0, none⟩)] w fun e w' => e = .returned (.tuple #[]) /\ Lib.BuilderAt SbT 5 B b (.pointer (some ⟨b, 0, none⟩)) bs w' /\ Below B w w' /\ Nb b w w' := by
 obtain ⟨j, hj, hjs⟩ := Option.map_eq_some_iff.1 tz_sb
 rcases h with h | h
 ·have h0 := h.cell0;have hsh := h.shape;have hfz := h.frozen0;have hU := h.used;have hB := h.1;clear h;go_enter func88, ntmps88;go_wp2;rw [Lib.run_to_unsafe w ⟨b, 0, none⟩ underlying95 underlying173 hj (by rw [hjs]; decide) hsh (Nat.zero_lt_succ 1)];simp only [Result.andThen];rw [Oper.upon_value];go_wp2;rw [run_callFunc_extern func128 (by kernel_rfl) (by kernel_rfl) (by kernel_rfl) (e := Extern.AbiNoEscape.same) (by kernel_rfl)];rw [Lib.run_noEscape];simp only [Result.andThen];rw [Oper.upon_value];go_wp2;rw [Lib.run_from_unsafe w ⟨b, 0, none⟩ underlying173 underlying95 hj hsh (by kernel_rfl)];simp only [Result.andThen];rw [Oper.upon_value];go_wp2
  go_end0
  exact ⟨rfl, hU _, (Below.refl B w).setCell (p := ⟨b, 0, none⟩) hB _, Nb.set b w 0 _⟩
 ·have h0 := h.cell0;have H := Hj h;clear h;go_enter func88, ntmps88;go_wp2;rw [Lib.run_neq_ptr_same w _ underlying95 hj];go_wp2
  go_end0
  exact ⟨rfl, H.out, Below.refl B _, Nb.refl b _⟩
set_option maxRecDepth 100000 in
theorem b_write (B b : Nat) (bs : List Value) (s : ByteArray) (w : World) (h : Lib.IsBuilder SbT 5 B b bs w) (hl : bs.length + s.size <= 140737488355328) (hBw : B <= w.heap.size) : Calls prog 40 #[.pointer (some ⟨b, 0, none⟩), .string s] w fun e w' => (∃ v, e = .returned v) /\ Lib.IsBuilder SbT 5 B b (bs ++ Lib.strCells s) w' /\ Below B w w' /\ Nb b w w' := by
 obtain ⟨i0, hi, hx⟩ := Option.map_eq_some_iff.1 tz_u8;simp only [Prod.mk.injEq] at hx;have C := Hj (b_check B b bs w h);clear h;go_enter func40, ntmps40;go_wp2_with fail;refine C.out.mono ?_;rintro e w1 ⟨rfl, h1, r1, m1⟩;obtain ⟨hB, v, hbk, hown, hne⟩ := h1;have c1 : w1.cell? ⟨b, 1, none⟩ = some v := by rw [Lib.cell_of_heap hbk]; rfl
 have hs1 := r1.size
 go_wp2_with (at_builtin; refine Lib.wpList_append_own_string _ rfl _ _ 96 9 rfl B 5 i0 underlying96 underlying9 hi hx.1 hx.2.1 hx.2.2 _ _ _ rfl hown s rfl ?c3 ?c4 ?c5 ?_)
 case c3 => unfold maxLen; omega
 case c4 => omega
 case c5 => omega
 intro v' w2 own grow _;have hlt : b < w1.heap.size := (Array.getElem?_eq_some_iff.1 hbk).1;have hb2 : w2.heap[b]? = some (.cells #[.pointer (some ⟨b, 0, none⟩), v] SbT (0, 0)) := (grow.block b hlt fun e => hne e.symm).trans hbk;have d1 : w2.cell? ⟨b, 1, none⟩ = some v := by rw [Lib.cell_of_heap hb2]; rfl
 have f1 : w2.frozen? ⟨b, 1, none⟩ = false := Lib.frozen_of_heap hb2 1
 obtain ⟨ao, n', cap, rfl⟩ : ∃ ao n' cap, v' = .slice ao n' cap := by rcases own.2 with ⟨h, _⟩ | ⟨g, c, cur, h, _⟩ <;> exact ⟨_, _, _, h⟩
 go_wp2
 go_ret2
 exact ⟨⟨_, rfl⟩, .inr (Lib.BuilderAt.put hB hb2 (bs' := bs ++ Lib.strCells s) (by simpa [Lib.strCells_length] using own) (by decide)), (r1.grown grow (by omega) (fun k hk => (hown.lt k hk).1)).setCell (p := ⟨b, 1, none⟩) hB _, (m1.trans (Nb.grown grow hown)).trans (Nb.set b w2 1 _)⟩
structure SB (w0 : World) (b : Nat) (l : ByteArray) (W : World) : Prop where
 I : Lib.IsBuilder SbT 5 w0.heap.size b (Lib.strCells l) W
 R : Rel w0 W
theorem sb_write {w0 w : World} {b : Nat} {l : ByteArray} (s : ByteArray) (h : SB w0 b l w) (hl : l.size + s.size <= 140737488355328) : Calls prog 40 #[.pointer (some ⟨b, 0, none⟩), .string s] w fun e w' => (∃ v, e = .returned v) /\ SB w0 b (l ++ s) w' /\ Nb b w w' := by
 refine (b_write w0.heap.size b _ s w h.I (by rw [Lib.strCells_length]; exact hl) (Below.size h.R)).mono ?_;rintro e w' ⟨h1, h2, h3, h4⟩;refine ⟨h1, ⟨?_, Below.trans h.R h3⟩, h4⟩;have : Lib.strCells (l ++ s) = Lib.strCells l ++ Lib.strCells s := by simp [Lib.strCells]
 rw [this]; exact h2
theorem sb_string {w0 w : World} {b : Nat} {l : ByteArray} (h : SB w0 b l w) : Calls prog 50 #[.pointer (some ⟨b, 0, none⟩)] w fun e w' => e = .returned (.string l) /\ Rel w0 w' := by
 refine (Tryz.Builder_String_any w0.heap.size b l.data.toList w (by have := h.I; rwa [Lib.strCells_eq] at this) (Below.size h.R)).mono ?_;rintro e w' ⟨rfl, h2⟩;exact ⟨by rw [Lib.mk_data], Below.trans h.R h2⟩
def jn (sep : ByteArray) : List ByteArray -> ByteArray
 | [] => ⟨#[]⟩
 | x :: l => l.foldl (fun a y => (a ++ sep) ++ y) x
theorem jn_take {sep : ByteArray} {xs : List ByteArray} {k : Nat} {y : ByteArray} (h : xs[k + 1]? = some y) : jn sep (xs.take (k + 2)) = (jn sep (xs.take (k + 1)) ++ sep) ++ y := by
 cases xs with
 | nil => simp at h
 | cons x l =>
  have h' : l[k]? = some y := by simpa using h
  obtain ⟨hk, rfl⟩ := List.getElem?_eq_some_iff.1 h';show (l.take (k + 1)).foldl _ x = ((l.take k).foldl _ x ++ sep) ++ l[k]
  rw [List.take_succ_eq_append_getElem hk, List.foldl_append]; rfl
theorem jn_size {sep : ByteArray} {M : Nat} (hs : sep.size <= 1) : ∀ {xs : List ByteArray}, (∀ x ∈ xs, x.size <= M) -> (jn sep xs).size <= xs.length * (M + 1)
 | [], _ => Nat.zero_le _
 | x :: l, h => by
  have key : ∀ (l : List ByteArray) (a : ByteArray) (m : Nat), (∀ x ∈ l, x.size <= M) -> a.size <= m -> (l.foldl (fun a y => (a ++ sep) ++ y) a).size <= m + l.length * (M + 1) := by
   intro l
   induction l with
   | nil => intro a m _ ha; simpa using ha
   | cons y l ih =>
    intro a m hl ha;have hy := hl y (by simp);have := ih ((a ++ sep) ++ y) (m + (M + 1)) (fun x hx => hl x (by simp [hx])) (by simp only [ByteArray.size_append]; omega);rw [List.foldl_cons, List.length_cons, Nat.add_mul]; omega
  have := key l x (M + 1) (fun x hx => h x (by simp [hx])) (by have := h x (by simp); omega);show (l.foldl _ x).size <= _
  rw [List.length_cons, Nat.add_mul]; omega
set_option maxRecDepth 100000 in
theorem join_any (G : Nat) (xs : List ByteArray) (sep : ByteArray) (w : World) (hc : ∀ j x, xs[j]? = some x -> w.cell? ⟨G, j, none⟩ = some (.string x)) (h1 : 1 <= xs.length) (h8 : xs.length <= 8) (hz : ∀ x ∈ xs, x.size <= 10000000) (hs : sep.size = 1) :
  Calls prog 41 #[.slice (some ⟨G, 0, none⟩) xs.length xs.length, .string sep] w fun e w' => e = .returned (.string (jn sep xs)) /\ Rel w w' := by
 have HC := Hj hc;have HZ := Hj hz
 obtain ⟨x0, r, hxs⟩ : ∃ x0 r, xs = x0 :: r := by
  cases xs with
  | nil => simp at h1
  | cons a t => exact ⟨a, t, rfl⟩
 have c0 : w.cell? ⟨G, 0, none⟩ = some (.string x0) := hc 0 x0 (by rw [hxs]; rfl);have hG : G < w.heap.size := World.block_lt_of_cell? _ _ c0;have z0 : x0.size <= 10000000 := hz x0 (by rw [hxs]; simp);have HX := Hj hxs;clear hc hz;obtain ⟨n, hn⟩ : ∃ n, xs.length = n := ⟨_, rfl⟩;rw [hn] at h1 h8 |-;by_cases e1 : n = 1
 ·have hr : jn sep xs = x0 := by
   rw [hxs, List.length_cons] at hn;obtain rfl : r = [] := List.eq_nil_of_length_eq_zero (by omega);rw [hxs]; rfl
  rw [hr];subst e1;clear hxs;go_enter func41, ntmps41;go_wp2;go_ret;exact ⟨rfl, Below.refl _ _⟩
 ·have n0 : ((n : Int) == 0) = false := by rw [zn]; omega
  have n1 : ((n : Int) == 1) = false := by rw [zn]; omega
  have hdv : ¬ (9223372036854775807 / ((n : Int) - 1) <= 1) := by
   rcases (show n = 2 \/ n = 3 \/ n = 4 \/ n = 5 \/ n = 6 \/ n = 7 \/ n = 8 by omega) with rfl | rfl | rfl | rfl | rfl | rfl | rfl <;> decide
  have hdv' : decide (9223372036854775807 / ((n : Int) - 1) <= 1) = false := decide_eq_false hdv;have hm : wrap64 (1 * ((n : Int) - 1)) = ((n - 1 : Nat) : Int) := by rw [IntWalk.wrap64_in _ ⟨by omega, by omega⟩]; omega
  have hsz : (sep.size : Int) = 1 := by omega
  have HN := Hj hn;clear hxs hn;go_enter func41, ntmps41;go_wp2_with fail
  all_goals (
   go_loop [5, 41] (fun v i => ∃ k z : Nat, k <= n /\ i = .int .i64 k /\ v = .int .i64 z /\ z <= 10 + k * 10000000) (fun _ i => n - (intOf i).toNat)
   case atStart => exact ⟨0, n - 1, Nat.zero_le _, rfl, by rw [show ((n - 1 : Nat) : Int) = (n : Int) - 1 by omega], by omega⟩
   case round =>
    obtain ⟨k, z, hk, rfl, rfl, hzz⟩ := hrel;by_cases hkn : k < n
    ·obtain ⟨x, hx⟩ : ∃ x, xs[k]? = some x := ⟨_, List.getElem?_eq_getElem (by rw [HN.out]; exact hkn)⟩;have cx := HC.out k x hx;have zx := HZ.out x (List.mem_of_getElem? hx);clear hx;go_wp2;exact ⟨⟨k + 1, z + x.size, by omega, by go_num, by go_num, by omega⟩, by simp [intOf]; omega⟩
    ·have hke : k = n := by omega
     subst hke;clear hdv hdv' hm n0 n1;go_wp2_with fail;refine (Tryz.Builder_Grow_fresh w.heap.size w.heap.size z _ (Nat.le_refl _) (heap_alloc_new w _) (by simp) (by omega)).mono ?_;rintro e w1 ⟨rfl, b1, r1⟩;have S1 : SB w w.heap.size ⟨#[]⟩ w1 := ⟨.inr b1, Below.trans ((Below.refl _ w).alloc (Nat.le_refl _) _) r1⟩;have c0 := S1.R.cell c0;clear b1 r1;go_wp2_with fail;refine (sb_write x0 S1 (by show 0 + x0.size <= _; omega)).mono ?_;rintro e w2 ⟨⟨v2, rfl⟩, S2, -⟩
     have S2 : SB w w.heap.size (jn sep (xs.take 1)) w2 := by
      have e : jn sep (xs.take 1) = ⟨#[]⟩ ++ x0 := by rw [HX.out]; show x0 = _; apply ByteArray.ext; simp
      rw [e]; exact S2
     have H2 := Hj S2;clear S1 S2 c0;go_wp2_with fail
     go_loopw [65] (fun i wr => ∃ j : Nat, j <= k - 1 /\ i = .int .i64 j /\ Hid (SB w w.heap.size (jn sep (xs.take (j + 1))) wr)) (fun i _ => k - 1 - (intOf i).toNat)
     case atStart => exact ⟨0, Nat.zero_le _, rfl, H2⟩
     case round =>
      obtain ⟨j, hj, rfl, HS⟩ := hrel;by_cases hjk : j < k - 1
      ·obtain ⟨y, hy⟩ : ∃ y, xs[j + 1]? = some y := ⟨_, List.getElem?_eq_getElem (by rw [HN.out]; omega)⟩;have cy : wr.cell? ⟨G, 1 + j, none⟩ = some (.string y) := HS.out.R.cell (by rw [Nat.add_comm]; exact HC.out _ _ hy);have zy := HZ.out y (List.mem_of_getElem? hy);have zt := jn_size (sep := sep) (M := 10000000) (xs := xs.take (j + 1)) (by omega) (fun x hx => HZ.out x (List.mem_of_mem_take hx));have zl : (xs.take (j + 1)).length <= 8 := by rw [List.length_take, HN.out]; omega
       have zm : (xs.take (j + 1)).length * (10000000 + 1) <= 8 * (10000000 + 1) := Nat.mul_le_mul_right _ zl;have HE := Hj (jn_take (sep := sep) hy);clear hy;go_wp2_with fail;refine (sb_write sep HS.out (by omega)).mono ?_;rintro e w3 ⟨⟨v3, rfl⟩, S3, -⟩;go_wp2_with fail;refine (sb_write y S3 (by simp only [ByteArray.size_append]; omega)).mono ?_;rintro e w4 ⟨⟨v4, rfl⟩, S4, -⟩;rw [<- HE.out] at S4;have H4 := Hj S4;clear S3 S4;go_wp2;exact ⟨⟨j + 1, by omega, by go_num, H4⟩, by simp [intOf]; omega⟩
      ·have hje : j + 1 = k := by omega
       have S := HS.out;rw [hje, List.take_of_length_le (by rw [HN.out]; exact Nat.le_refl _)] at S;go_wp2_with fail;refine (sb_string S).mono ?_;rintro e w5 ⟨rfl, r5⟩;have R5 := Hj r5;clear r5 S;go_wp2;go_ret
       exact ⟨rfl, R5.out⟩)
theorem SB.rel {w0 w w' : World} {b : Nat} {l : ByteArray} (h : SB w0 b l w) (r : Rel w w') : SB w0 b l w' := by
 have key : ∀ {p : Value}, Lib.BuilderAt SbT 5 w0.heap.size b p (Lib.strCells l) w -> Lib.BuilderAt SbT 5 w0.heap.size b p (Lib.strCells l) w' := by
  rintro p ⟨h1, v, h2, h3, h4⟩;exact ⟨h1, v, (Below.block r b (Array.getElem?_eq_some_iff.1 h2).1).trans h2, own_rel' h3 r, h4⟩
 exact ⟨h.I.imp key key, h.R.trans r⟩
theorem SB.al {w0 w : World} {b : Nat} {l : ByteArray} (h : SB w0 b l w) (o : Obj) : SB w0 b l (w.alloc o) := h.rel ((Rel.refl w).alloc o)
abbrev spB : ByteArray := ⟨#[32]⟩
def lnT (xs : List ByteArray) : ByteArray := jn spB xs ++ ⟨#[10]⟩
set_option maxRecDepth 20000 in
theorem line_any {w0 w : World} {b G n : Nat} {l : ByteArray} {T : TypeId} {ls : List Value} (xs : List ByteArray) (S : SB w0 b l w) (B : Blk w G T ls) (he : ls = xs.map .string := by rfl) (hn : n = xs.length := by rfl) (h1 : 1 <= xs.length := by decide) (h8 : xs.length <= 8 := by decide) (hz : ∀ x ∈ xs, x.size <= 10000000) (hl : l.size <= 100000000) :
  Calls prog 39 #[.slice (some ⟨G, 0, none⟩) n n, .pointer (some ⟨b, 0, none⟩)] w fun e w' => (∃ v, e = .returned v) /\ SB w0 b (l ++ lnT xs) w' /\ Nb b w w' := by
 subst he hn;have hj := jn_size (sep := spB) (M := 10000000) (by decide) hz;have hm : xs.length * (10000000 + 1) <= 8 * (10000000 + 1) := Nat.mul_le_mul_right _ h8;have J := Hj (join_any G xs spB w (fun j x hx => B.c (by rw [List.getElem?_map, hx]; rfl)) h1 h8 hz rfl);have HS := Hj S;clear S B hz;go_enter func39, ntmps39;go_wp2_with fail;refine J.out.mono ?_;rintro e w1 ⟨rfl, r1⟩;have S1 := HS.out.rel r1;go_wp2_with fail;refine (sb_write _ S1 (by simp only [ByteArray.size_append]; show _ + (_ + 1) <= _; omega)).mono ?_;rintro e w2 ⟨⟨v, rfl⟩, S2, m2⟩;have H2 := Hj S2;have M2 := Hj ((Nb.of r1).trans m2);clear S1 S2 m2;go_wp2
 go_end0
 exact ⟨⟨_, rfl⟩, H2.out, M2.out⟩
end Go.Proofs.YthmlhheceihcbaaGreatDoor
namespace Go.Proofs.YthmlhheceihcbaaGreatDoor
set_option maxHeartbeats 16000000
open Go.RowKit Cal Str Tok Frac Txt Tree Go.Proofs.Tryz
attribute [local go_sem] calmUpon
set_option linter.unusedVariables false
set_option linter.unusedSimpArgs false
theorem nd_1 (a b d : Int) (s : ByteArray) (p : Nat -> Int -> ByteArray) : ndS 1 a b d s p = fdT a b d := by simp [ndS]
theorem nd_2 (a b d : Int) (s : ByteArray) (p : Nat -> Int -> ByteArray) : ndS 2 a b d s p = s := by simp [ndS]
theorem nd_3 (a b d : Int) (s : ByteArray) (p : Nat -> Int -> ByteArray) : ndS 3 a b d s p = (⟨#[98, 101, 115, 116, 40]⟩ ++ numS a) ++ ⟨#[41]⟩ := by simp [ndS]
set_option maxRecDepth 20000 in
theorem text_1 (a b d : Int) (s : ByteArray) (ad : Option Addr) (n cap : Nat) (req : Int) (w : World) (ht : Hid (TabW w)) (hb : I64s 1 a b d s) (hr : req <= 7) :
  Calls prog 48 #[.agg #[.int .i64 1, .int .i64 a, .int .i64 b, .int .i64 d, .string s, .slice ad n cap], .int .i64 req] w (StrRes (fdT a b d) w) := by
 obtain ⟨o0, o1, a0, a1, b0, b1, d0, d1, s1⟩ := hb;have F := Hj fun w ht => FormatDecimal_any a b d w ht a0 a1 b0 b1 d0 d1
 unfold FdRes at F;obtain ⟨T, hT⟩ : ∃ T, fdT a b d = T := ⟨_, rfl⟩;obtain ⟨B, hB⟩ : ∃ B, fdB a b d = B := ⟨_, rfl⟩;rw [hT, hB] at F;rw [hT];clear hT hB;have LV := Hj fun w => level_any 1 w (by omega) (by omega)
 rw [show levI 1 = 7 from rfl] at LV;have er : decide (7 < req) = false := dF (by omega);unfold StrRes;go_enter func48, ntmps48;go_wp2_with fail;refine (LV.out _).mono ?_;rintro e w1 ⟨rfl, rfl⟩;go_wp2_with fail;refine (F.out _ (ht.out.rel (rx0))).mono ?_;rintro e w4 ⟨rfl, h4⟩;have kq0 := keep6 h4 (b := w.heap.size) (by first | (simp; done) | (simp; omega) | omega);have kz4 := h4.size;(try simp only [zsa, zsc, zsd] at kz4);have H4 := Hj h4;clear h4;go_wp2;go_ret;exact ⟨rfl, rx43210⟩
set_option maxRecDepth 20000 in
theorem text_2 (a b d : Int) (s : ByteArray) (ad : Option Addr) (n cap : Nat) (req : Int) (w : World) (hr : req <= 7) :
  Calls prog 48 #[.agg #[.int .i64 2, .int .i64 a, .int .i64 b, .int .i64 d, .string s, .slice ad n cap], .int .i64 req] w (StrRes s w) := by
 have LV := Hj fun w => level_any 2 w (by omega) (by omega)
 rw [show levI 2 = 7 from rfl] at LV;have er : decide (7 < req) = false := dF (by omega);unfold StrRes;go_enter func48, ntmps48;go_wp2_with fail;refine (LV.out _).mono ?_;rintro e w1 ⟨rfl, rfl⟩;go_wp2;go_ret;exact ⟨rfl, rx0⟩
set_option maxRecDepth 20000 in
theorem text_3 (a b d : Int) (s : ByteArray) (ad : Option Addr) (n cap : Nat) (req : Int) (w : World) (ht : Hid (TabW w)) (h0 : 1 <= a) (h1 : a <= 45) (hr : req <= 7) :
  Calls prog 48 #[.agg #[.int .i64 3, .int .i64 a, .int .i64 b, .int .i64 d, .string s, .slice ad n cap], .int .i64 req] w (StrRes ((⟨#[98, 101, 115, 116, 40]⟩ ++ numS a) ++ ⟨#[41]⟩) w) := by
 have F := Hj fun w ht => itoa_any a w ht (by omega) (by omega)
 have z := numS_size a;obtain ⟨T, hT⟩ : ∃ T, numS a = T := ⟨_, rfl⟩;rw [hT] at F z;rw [hT];clear hT;have y1 : (⟨#[98, 101, 115, 116, 40]⟩ : ByteArray).size <= 5 := by simp only [szA, List.length]; omega
 have w2 : ¬ 9223372036854775807 < 5 + T.size := by omega
 have y2 : ((⟨#[98, 101, 115, 116, 40]⟩ : ByteArray) ++ T).size <= 46 := by simp only [ByteArray.size_append, szA, List.length]; omega
 have w3 : ¬ 9223372036854775807 < 5 + T.size + 1 := by omega
 have LV := Hj fun w => level_any 3 w (by omega) (by omega)
 rw [show levI 3 = 7 from rfl] at LV;have er : decide (7 < req) = false := dF (by omega);unfold StrRes;go_enter func48, ntmps48;go_wp2_with fail;refine (LV.out _).mono ?_;rintro e w1 ⟨rfl, rfl⟩;go_wp2_with fail;refine (F.out _ (ht.out.rel (rx0))).mono ?_;rintro e w4 ⟨rfl, h4⟩;have kq0 := keep6 h4 (b := w.heap.size) (by first | (simp; done) | (simp; omega) | omega);have kz4 := h4.size;(try simp only [zsa, zsc, zsd] at kz4);have H4 := Hj h4;clear h4;go_wp2;go_ret;exact ⟨rfl, rx43210⟩
set_option maxRecDepth 20000 in
theorem text_par (op a b d : Int) (s : ByteArray) (ad : Option Addr) (n cap : Nat) (req : Int) (T : ByteArray) (w : World) (h0 : 1 <= op) (h1 : op <= 21) (hr : levI op < req) (hz : T.size <= 4200)
  (C : Hid (∀ w', Rel w w' -> Calls prog 48 #[.agg #[.int .i64 op, .int .i64 a, .int .i64 b, .int .i64 d, .string s, .slice ad n cap], .int .i64 0] w' (StrRes T w'))) :
  Calls prog 48 #[.agg #[.int .i64 op, .int .i64 a, .int .i64 b, .int .i64 d, .string s, .slice ad n cap], .int .i64 req] w (StrRes ((⟨#[40]⟩ ++ T) ++ ⟨#[41]⟩) w) := by
 have y1 : (⟨#[40]⟩ : ByteArray).size <= 1 := by simp only [szA, List.length]; omega
 have w2 : ¬ 9223372036854775807 < 1 + T.size := by omega
 have y2 : ((⟨#[40]⟩ : ByteArray) ++ T).size <= 4201 := by simp only [ByteArray.size_append, szA, List.length]; omega
 have w3 : ¬ 9223372036854775807 < 1 + T.size + 1 := by omega
 obtain ⟨L, hL⟩ : ∃ L, levI op = L := ⟨_, rfl⟩;have LV := Hj fun w => level_any op w (by omega) (by omega)
 rw [hL] at LV hr;have er : decide (L < req) = true := dT (by omega);clear hL;unfold StrRes at C |-;obtain ⟨X, hX⟩ : ∃ X, w.alloc (.cells #[.int .i64 op, .int .i64 a, .int .i64 b, .int .i64 d, .string s, .slice ad n cap] 59) = X := ⟨_, rfl⟩;have RX : Rel w X := by rw [<- hX]; exact (Rel.refl _).alloc _
 have BT := Hj (BoxAt.new (w := w) (g := w.heap.size) rfl (.int .i64 op) (.int .i64 a) (.int .i64 b) (.int .i64 d) (.string s) (.slice ad n cap) 59);rw [hX] at BT;have bt := BT.out;have c0 := bt.c0;have c1 := bt.c1;have c2 := bt.c2;have c3 := bt.c3;have c4 := bt.c4;have c5 := bt.c5;have RXw := Hj RX;clear RX BT bt;go_enter func48, ntmps48;go_wp2_with fail;refine (LV.out _).mono ?_;rintro e w1 ⟨rfl, rfl⟩;go_wp2_with fail;refine (C.out _ RXw.out).mono ?_;rintro e w1 ⟨rfl, h1⟩;have kz1 := h1.size;(try simp only [zsa, zsc, zsd] at kz1);have H1 := Hj h1;clear h1;go_wp2;go_ret;exact ⟨rfl, RXw.out.trans H1.out⟩
def TextOk (t : Ex) : Prop := ∀ (x : Value) (w : World) (L : Int), Hid (TabW w) -> ExKids t w x -> 0 <= L -> L <= 7 -> Calls prog 48 #[.agg #[.int .i64 t.op, .int .i64 t.va, .int .i64 t.vb, .int .i64 t.dm, .string t.nm, x], .int .i64 L] w (StrRes (t.put L) w)
theorem put_low {t : Ex} {L : Int} (h : ¬ levI t.op < L) : t.put L = t.bare := by unfold Ex.put parS; rw [if_neg (by simpa using h)]
theorem put_high {t : Ex} {L : Int} (h : levI t.op < L) : t.put L = (⟨#[40]⟩ ++ t.bare) ++ ⟨#[41]⟩ := by unfold Ex.put parS; rw [if_pos (by simpa using h)]
theorem text_all (t : Ex) : t.form = true -> t.size <= 60 -> TextOk t := by
  induction t with
  | no => intro h; simp [Ex.form] at h
  | mk op a b d s n kid ih =>
    intro hF hz;obtain ⟨h1, h2⟩ := form_of hF;obtain ⟨o1, o2⟩ := op_of h1;have hn := nod_ar h1
    have low : ∀ (x : Value) (w : World) (L : Int), Hid (TabW w) -> ExKids (.mk op a b d s n kid) w x -> 0 <= L -> ¬ levI op < L -> Calls prog 48 #[.agg #[.int .i64 op, .int .i64 a, .int .i64 b, .int .i64 d, .string s, x], .int .i64 L] w (StrRes (ndS op a b d s fun i l => (kid i).put l) w) := by
      intro x w L ht hK h0 hl;obtain ⟨hb, hn', ad, cap, rfl, hk⟩ := hK;have lv := lev_bd op
      have K : ∀ g off, (∀ i, i < n -> ∃ xi, Six w g (off + i * 6) (kid i).op (kid i).va (kid i).vb (kid i).dm (kid i).nm xi /\ ExKids (kid i) w xi) -> ∀ i, i < n -> TxK 48 w g off i (fun i l => (kid i).put l) := fun g off hc i hi => by
        obtain ⟨xi, q1, q2⟩ := hc i hi;have hzi : (kid i).size <= 60 := by have := (kid_size (op := op) (a := a) (b := b) (d := d) (s := s) (kid := kid) hi).1; omega
        exact ⟨_, _, _, _, _, xi, q1, fun l => put_size (h2 i hi) hzi l, fun w' l r l0 l7 => ih i (h2 i hi) hzi xi w' l (Hj (ht.out.rel r)) (kids_rel q2 r) l0 l7⟩
      by_cases h4 : 4 <= op
      · obtain ⟨g, off, rfl, hg, hc⟩ := hk (by unfold arI at hn; repeat' split at hn
                                               all_goals omega)
        have K' := K g off hc;by_cases hbin : 7 <= op /\ op <= 18
        · obtain rfl : n = 2 := by
            unfold arI at hn;rw [if_neg (by omega), if_neg (by omega), if_pos (by omega)] at hn;omega
          by_cases hl4 : levI op = 4
          · exact text_binr op 4 a b d s g off cap _ L w hbin.1 hbin.2 rfl hl4 (by omega) hg (K' 0 (by decide)) (K' 1 (by decide))
          · have hv := lev_bin hbin.1 hbin.2;exact text_bino op (levI op) a b d s g off cap _ L w hbin.1 hbin.2 rfl (by omega) (by omega) hl4 (by omega) hg (K' 0 (by decide)) (K' 1 (by decide))
        rcases (show op = 4 \/ op = 5 \/ op = 6 \/ op = 19 \/ op = 20 \/ op = 21 by omega) with rfl | rfl | rfl | rfl | rfl | rfl
        · obtain rfl : n = 1 := by simp [arI] at hn; omega
          exact text_4 a b d s g off cap _ L w (by have : levI 4 = 7 := rfl; omega) hg (K' 0 (by decide))
        · obtain rfl : n = 1 := by simp [arI] at hn; omega
          exact text_5 a b d s g off cap _ L w (by have : levI 5 = 3 := rfl; omega) hg (K' 0 (by decide))
        · obtain rfl : n = 1 := by simp [arI] at hn; omega
          exact text_6 a b d s g off cap _ L w (by have : levI 6 = 7 := rfl; omega) hg (K' 0 (by decide))
        · obtain rfl : n = 2 := by simp [arI] at hn; omega
          exact text_19 a b d s g off cap _ L w (by have : levI 19 = 7 := rfl; omega) hg (K' 0 (by decide)) (K' 1 (by decide))
        · obtain rfl : n = 2 := by simp [arI] at hn; omega
          exact text_20 a b d s g off cap _ L w (by have : levI 20 = 7 := rfl; omega) hg (K' 0 (by decide)) (K' 1 (by decide))
        · obtain rfl : n = 3 := by simp [arI] at hn; omega
          exact text_21 a b d s g off cap _ L w (by have : levI 21 = 0 := rfl; omega) hg (K' 0 (by decide)) (K' 1 (by decide)) (K' 2 (by decide))
      · rcases (show op = 1 \/ op = 2 \/ op = 3 by omega) with rfl | rfl | rfl
        · rw [nd_1]; exact text_1 a b d s ad n cap L w ht hb (by have : levI 1 = 7 := rfl; omega)
        · rw [nd_2]; exact text_2 a b d s ad n cap L w (by have : levI 2 = 7 := rfl; omega)
        · rw [nd_3]
          have ha : 1 <= a /\ a <= 45 := by
            unfold nodB at h1;simp at h1;omega
          exact text_3 a b d s ad n cap L w ht ha.1 ha.2 (by have : levI 3 = 7 := rfl; omega)
    intro x w L ht hK h0 h7;by_cases hl : levI op < L
    · rw [put_high (t := .mk op a b d s n kid) hl, bare_mk];have hlb := lev_bd op;obtain ⟨xa, xc, rfl⟩ := kids_slice hK;refine text_par op a b d s xa n xc L _ w o1 o2 hl ?_ (Hj fun w' r => low _ w' 0 (Hj (ht.out.rel r)) (kids_rel hK r) (Int.le_refl _) (by omega));have := put_size hF hz 0
      rwa [put_low (t := .mk op a b d s n kid) (by show ¬ levI op < 0; omega), bare_mk] at this
    · rw [put_low (t := .mk op a b d s n kid) hl, bare_mk];exact low x w L ht hK h0 hl
end Go.Proofs.YthmlhheceihcbaaGreatDoor

/- Lemmas, each as it is printed; no conditions but those printed. -/
import Derived.Test.YthmlhheceihcbaaGreatDoorKB6
namespace Go.Proofs.YthmlhheceihcbaaGreatDoor
set_option maxHeartbeats 16000000
open Go.RowKit Cal Str Tok Frac Txt Tree Tryz
attribute [local go_sem] calmUpon
set_option linter.unusedVariables false
set_option linter.unusedSimpArgs false
def zerB (a b d : Int) (s : ByteArray) : Bool := (a == 0 && b == 0) && (d == 0 && emS s)
theorem em_no {s : ByteArray} (h : ¬ s = ⟨#[]⟩) : s.toList.isEmpty = false := by
 cases hx : s.toList.isEmpty
 ·rfl
 ·have : s.toList = [] := List.isEmpty_iff.1 hx;exact absurd (by apply ba_ext; rw [<- Lib.toList_data, this]) h
def FormedOk (t : Ex) : Prop := ∀ (x : Value) (w : World), ExKids t w x -> Calls prog 140 #[.agg #[.int .i64 t.op, .int .i64 t.va, .int .i64 t.vb, .int .i64 t.dm, .string t.nm, x]] w (BRes t.form w)
set_option maxRecDepth 20000 in
theorem formed_all (t : Ex) : FormedOk t := by
 induction t with
 | no => intro x w h; exact h.elim
 | mk op a b d s n kid ih =>
  intro x w h;obtain ⟨hb, hn, ad, cap, rfl, hk⟩ := h;have HK : Hid (KidsAt w n kid ad) := hk;have IH := Hj ih;rw [form_mk];simp only [Ex.op, Ex.va, Ex.vb, Ex.dm, Ex.nm];clear hk ih;have AR := Hj fun w => Args_any op w
  obtain ⟨V, hV'⟩ : ∃ V, (nodB op a b d s n && alK (fun i => (kid i).form) n) = V := ⟨_, rfl⟩;have hV := Hj hV';rw [hV'];clear hV';obtain ⟨o0, o1, a0, a1, b0, b1, d0, d1, s1⟩ := hb;unfold BRes;by_cases har : (n : Int) = arI op
  ·have HAR := Hj har;rw [<- har] at AR;by_cases h1 : op = 1
   ·subst h1
    have hn0 : n = 0 := by
     have : arI 1 = 0 := rfl;omega
    subst hn0;rw [nod_1 HAR.out, show alK (fun i => (kid i).form) 0 = true from rfl, Bool.and_true] at hV;clear har;have F := Hj fun w => rFormatDecimal_any a b d w a0 a1 b0 b1 d0 d1
    unfold FdRes at F;obtain ⟨T, hT⟩ : ∃ T, fdT a b d = T := ⟨_, rfl⟩;obtain ⟨B, hB⟩ : ∃ B, fdB a b d = B := ⟨_, rfl⟩;rw [hT, hB] at F;rw [hB] at hV;clear hT hB;go_enter func140, ntmps140;go_wp2_with fail;refine wp_region_calm (fun _ w' => w'.cell? { block := w.heap.size, off := 5 } = some (.slice ad 0 cap) /\ w'.cell? { block := w.heap.size, off := 0 } = some (.int .i64 1)) (fun _ => false) [0, 1, 2, 3, 4, 5, 6] 0 (by kernel_rfl) (by kernel_rfl) ?hst ?hS0 (fun w0 h0 => ?_)
    case hst => exact fun _ _ _ h r => ⟨r.cell h.1, r.cell h.2⟩
    case hS0 => exact ⟨by go_simp, by go_simp⟩
    iterate 5
     refine wcg ?_;apply ei
     ·intro M w hM hS;have hc := hS.1;have hc' := hS.2;unfold calmAt;go_simp;exact ⟨rfl, Rel.refl _⟩
    refine wcg ?_;apply ei
    ·intro M w hM hS;unfold calmAt;go_simp
     with_reducible refine (AR.out _).mono ?_
     rintro e w1 ⟨rfl, rfl⟩;exact ⟨rfl, Rel.refl _⟩
    iterate 1
     refine wcg ?_;apply ei
     ·intro M w hM hS;unfold calmAt;go_simp;exact ⟨rfl, Rel.refl _⟩
    refine wpAnyR_end (by kernel_rfl) (fun w3 h3' => ?_);(try simp only [Act.put, zla, zlb, zlc]);have h3 := h0.trans h3';clear h0 h3';have kq0 := keep6 h3 (b := w.heap.size) (by first | (simp; done) | (simp; omega) | omega);have kz3 := h3.size;(try simp only [zsa, zsc, zsd] at kz3);have H3 := Hj h3;clear h3;go_upto_region 3 with (fail)
    go_cut [3] (fun s3 wx => s3 = .bool (zerB a b d s) /\ w3 = wx)
    case first =>
     by_cases t0 : a = 0
     ·subst t0;by_cases t1 : b = 0
      ·subst t1;by_cases t2 : d = 0
       ·subst t2
        have fin : Hid (s.toList.isEmpty = zerB 0 0 0 s) := by
         show _ = _
         unfold zerB; rw [em_eq]; rfl
        go_wp2
        go_meet
        case rel => exact ⟨by rw [fin.out], rfl⟩
       ·have f2 : (d == 0) = false := by rw [zn]; exact t2
        have fin : Hid (false = zerB 0 0 d s) := by
         show _ = _
         unfold zerB; simp [f2]
        clear t2;go_wp2
        go_meet
        case rel => exact ⟨by rw [<- fin.out], rfl⟩
      ·have f1 : (b == 0) = false := by rw [zn]; exact t1
       have fin : Hid (false = zerB 0 b d s) := by
        show _ = _
        unfold zerB; simp [f1]
       clear t1;go_wp2
       go_meet
       case rel => exact ⟨by rw [<- fin.out], rfl⟩
     ·have f0 : (a == 0) = false := by rw [zn]; exact t0
      have fin : Hid (false = zerB a b d s) := by
       show _ = _
       unfold zerB; simp [f0]
      clear t0;go_wp2
      go_meet
      case rel => exact ⟨by rw [<- fin.out], rfl⟩
    case rest =>
     obtain ⟨rfl, rfl⟩ := hcut;go_wp2_with fail;refine (F.out _).mono ?_;rintro e w4 ⟨rfl, h4⟩;have kq1 := keep6 h4 (b := w.heap.size) (by first | (simp; done) | (simp; omega) | omega);have kz4 := h4.size;(try simp only [zsa, zsc, zsd] at kz4);have H4 := Hj h4;clear h4;cases B
     ·have fin : Hid (false = V) := hV.out;go_wp2;go_ret;exact ⟨ret_b2 fin.out, rx43210⟩
     ·have fin : Hid (s.toList.isEmpty = V) := by
       show _ = _
       rw [<- hV.out, em_eq]; rfl
      go_wp2;go_ret;exact ⟨ret_b2 fin.out, rx43210⟩
   ·have e1 : (op == 1) = false := by rw [zn]; exact h1
    by_cases h2 : op = 2
    ·subst h2
     have hn0 : n = 0 := by
      have : arI 2 = 0 := rfl;omega
     subst hn0;rw [nod_2 HAR.out, show alK (fun i => (kid i).form) 0 = true from rfl, Bool.and_true] at hV;clear har;have N := Hj fun w => rIsName_any s w s1
     obtain ⟨B, hB⟩ : ∃ B, namB s = B := ⟨_, rfl⟩;rw [hB] at N hV;clear hB;go_enter func140, ntmps140;go_wp2_with fail;refine wp_region_calm (fun _ w' => w'.cell? { block := w.heap.size, off := 5 } = some (.slice ad 0 cap) /\ w'.cell? { block := w.heap.size, off := 0 } = some (.int .i64 2)) (fun _ => false) [0, 1, 2, 3, 4, 5, 6] 0 (by kernel_rfl) (by kernel_rfl) ?hst ?hS0 (fun w0 h0 => ?_)
     case hst => exact fun _ _ _ h r => ⟨r.cell h.1, r.cell h.2⟩
     case hS0 => exact ⟨by go_simp, by go_simp⟩
     iterate 5
      refine wcg ?_;apply ei
      ·intro M w hM hS;have hc := hS.1;have hc' := hS.2;unfold calmAt;go_simp;exact ⟨rfl, Rel.refl _⟩
     refine wcg ?_;apply ei
     ·intro M w hM hS;unfold calmAt;go_simp
      with_reducible refine (AR.out _).mono ?_
      rintro e w1 ⟨rfl, rfl⟩;exact ⟨rfl, Rel.refl _⟩
     iterate 1
      refine wcg ?_;apply ei
      ·intro M w hM hS;unfold calmAt;go_simp;exact ⟨rfl, Rel.refl _⟩
     refine wpAnyR_end (by kernel_rfl) (fun w3 h3' => ?_);(try simp only [Act.put, zla, zlb, zlc]);have h3 := h0.trans h3';clear h0 h3';have kq2 := keep6 h3 (b := w.heap.size) (by first | (simp; done) | (simp; omega) | omega);have kz3 := h3.size;(try simp only [zsa, zsc, zsd] at kz3);have H3 := Hj h3;clear h3;go_upto_region 3 with (fail)
     go_cut [3] (fun s3 wx => s3 = .bool (zerB a b d s) /\ w3 = wx)
     case first =>
      by_cases t0 : a = 0
      ·subst t0;by_cases t1 : b = 0
       ·subst t1;by_cases t2 : d = 0
        ·subst t2
         have fin : Hid (s.toList.isEmpty = zerB 0 0 0 s) := by
          show _ = _
          unfold zerB; rw [em_eq]; rfl
         go_wp2
         go_meet
         case rel => exact ⟨by rw [fin.out], rfl⟩
        ·have f2 : (d == 0) = false := by rw [zn]; exact t2
         have fin : Hid (false = zerB 0 0 d s) := by
          show _ = _
          unfold zerB; simp [f2]
         clear t2;go_wp2
         go_meet
         case rel => exact ⟨by rw [<- fin.out], rfl⟩
       ·have f1 : (b == 0) = false := by rw [zn]; exact t1
        have fin : Hid (false = zerB 0 b d s) := by
         show _ = _
         unfold zerB; simp [f1]
        clear t1;go_wp2
        go_meet
        case rel => exact ⟨by rw [<- fin.out], rfl⟩
      ·have f0 : (a == 0) = false := by rw [zn]; exact t0
       have fin : Hid (false = zerB a b d s) := by
        show _ = _
        unfold zerB; simp [f0]
       clear t0;go_wp2
       go_meet
       case rel => exact ⟨by rw [<- fin.out], rfl⟩
     case rest =>
      obtain ⟨rfl, rfl⟩ := hcut;by_cases t0 : a = 0
      ·subst t0;by_cases t1 : b = 0
       ·subst t1;by_cases t2 : d = 0
        ·subst t2
         skip
         have fin : Hid (B = V) := by
          show _ = _
          rw [<- hV.out]; simp
         go_wp2_with fail;refine (N.out _).mono ?_;rintro e w4 ⟨rfl, rfl⟩;go_wp2;go_ret;exact ⟨ret_b2 fin.out, rx3210⟩
        ·have f2 : (d == 0) = false := by rw [zn]; exact t2
         have fin : Hid (false = V) := by
          show _ = _
          rw [<- hV.out]; simp [f2]
         clear t2;go_wp2;go_ret;exact ⟨ret_b2 fin.out, rx3210⟩
       ·have f1 : (b == 0) = false := by rw [zn]; exact t1
        have fin : Hid (false = V) := by
         show _ = _
         rw [<- hV.out]; simp [f1]
        clear t1;go_wp2;go_ret;exact ⟨ret_b2 fin.out, rx3210⟩
      ·have f0 : (a == 0) = false := by rw [zn]; exact t0
       have fin : Hid (false = V) := by
        show _ = _
        rw [<- hV.out]; simp [f0]
       clear t0;go_wp2;go_ret;exact ⟨ret_b2 fin.out, rx3210⟩
    ·have e2 : (op == 2) = false := by rw [zn]; exact h2
     by_cases h3 : op = 3
     ·subst h3
      have hn0 : n = 0 := by
       have : arI 3 = 0 := rfl;omega
      subst hn0;rw [nod_3 HAR.out, show alK (fun i => (kid i).form) 0 = true from rfl, Bool.and_true] at hV;clear har;go_enter func140, ntmps140;go_wp2_with fail;refine wp_region_calm (fun _ w' => w'.cell? { block := w.heap.size, off := 5 } = some (.slice ad 0 cap) /\ w'.cell? { block := w.heap.size, off := 0 } = some (.int .i64 3)) (fun _ => false) [0, 1, 2, 3, 4, 5, 6] 0 (by kernel_rfl) (by kernel_rfl) ?hst ?hS0 (fun w0 h0 => ?_)
      case hst => exact fun _ _ _ h r => ⟨r.cell h.1, r.cell h.2⟩
      case hS0 => exact ⟨by go_simp, by go_simp⟩
      iterate 5
       refine wcg ?_;apply ei
       ·intro M w hM hS;have hc := hS.1;have hc' := hS.2;unfold calmAt;go_simp;exact ⟨rfl, Rel.refl _⟩
      refine wcg ?_;apply ei
      ·intro M w hM hS;unfold calmAt;go_simp
       with_reducible refine (AR.out _).mono ?_
       rintro e w1 ⟨rfl, rfl⟩;exact ⟨rfl, Rel.refl _⟩
      iterate 1
       refine wcg ?_;apply ei
       ·intro M w hM hS;unfold calmAt;go_simp;exact ⟨rfl, Rel.refl _⟩
      refine wpAnyR_end (by kernel_rfl) (fun w3 h3' => ?_);(try simp only [Act.put, zla, zlb, zlc]);have h3 := h0.trans h3';clear h0 h3';have kq3 := keep6 h3 (b := w.heap.size) (by first | (simp; done) | (simp; omega) | omega);have kz3 := h3.size;(try simp only [zsa, zsc, zsd] at kz3);have H3 := Hj h3;clear h3;go_upto_region 3 with (fail)
      go_cut [3] (fun s3 wx => s3 = .bool (zerB a b d s) /\ w3 = wx)
      case first =>
       by_cases t0 : a = 0
       ·subst t0;by_cases t1 : b = 0
        ·subst t1;by_cases t2 : d = 0
         ·subst t2
          have fin : Hid (s.toList.isEmpty = zerB 0 0 0 s) := by
           show _ = _
           unfold zerB; rw [em_eq]; rfl
          go_wp2
          go_meet
          case rel => exact ⟨by rw [fin.out], rfl⟩
         ·have f2 : (d == 0) = false := by rw [zn]; exact t2
          have fin : Hid (false = zerB 0 0 d s) := by
           show _ = _
           unfold zerB; simp [f2]
          clear t2;go_wp2
          go_meet
          case rel => exact ⟨by rw [<- fin.out], rfl⟩
        ·have f1 : (b == 0) = false := by rw [zn]; exact t1
         have fin : Hid (false = zerB 0 b d s) := by
          show _ = _
          unfold zerB; simp [f1]
         clear t1;go_wp2
         go_meet
         case rel => exact ⟨by rw [<- fin.out], rfl⟩
       ·have f0 : (a == 0) = false := by rw [zn]; exact t0
        have fin : Hid (false = zerB a b d s) := by
         show _ = _
         unfold zerB; simp [f0]
        clear t0;go_wp2
        go_meet
        case rel => exact ⟨by rw [<- fin.out], rfl⟩
      case rest =>
       obtain ⟨rfl, rfl⟩ := hcut;by_cases t0 : d = 0
       ·subst t0;by_cases t1 : s = ⟨#[]⟩
        ·subst t1;by_cases t2 : b = 1
         ·subst t2;by_cases t3 : 1 <= a
          ·have g3 : decide (1 <= a) = true := decide_eq_true t3
           skip
           have fin : Hid (decide (a <= 45) = V) := by
            show _ = _
            rw [<- hV.out]; simp [t3, emS]
           go_wp2;go_ret;exact ⟨ret_b2 fin.out, rx3210⟩
          ·have f3 : decide (1 <= a) = false := decide_eq_false t3
           have fin : Hid (false = V) := by
            show _ = _
            rw [<- hV.out]; simp [t3]
           go_wp2;go_ret;exact ⟨ret_b2 fin.out, rx3210⟩
         ·have f2 : (b == 1) = false := by rw [zn]; exact t2
          have fin : Hid (false = V) := by
           show _ = _
           rw [<- hV.out]; simp [f2]
          clear t2;go_wp2;go_ret;exact ⟨ret_b2 fin.out, rx3210⟩
        ·have f1 : s.toList.isEmpty = false := em_no t1;have q1 : emS s = false := by rw [<- em_eq]; exact f1
         have fin : Hid (false = V) := by
          show _ = _
          rw [<- hV.out]; simp [q1]
         clear t1;go_wp2;go_ret;exact ⟨ret_b2 fin.out, rx3210⟩
       ·have f0 : (d == 0) = false := by rw [zn]; exact t0
        have fin : Hid (false = V) := by
         show _ = _
         rw [<- hV.out]; simp [f0]
        clear t0;go_wp2;go_ret;exact ⟨ret_b2 fin.out, rx3210⟩
     ·have e3 : (op == 3) = false := by rw [zn]; exact h3
      rw [nod_o HAR.out h1 h2 h3] at hV;clear h1 h2 h3 har;go_enter func140, ntmps140;go_wp2_with fail;refine wp_region_calm (fun _ w' => w'.cell? { block := w.heap.size, off := 5 } = some (.slice ad n cap) /\ w'.cell? { block := w.heap.size, off := 0 } = some (.int .i64 op)) (fun _ => false) [0, 1, 2, 3, 4, 5, 6] 0 (by kernel_rfl) (by kernel_rfl) ?hst ?hS0 (fun w0 h0 => ?_)
      case hst => exact fun _ _ _ h r => ⟨r.cell h.1, r.cell h.2⟩
      case hS0 => exact ⟨by go_simp, by go_simp⟩
      iterate 5
       refine wcg ?_;apply ei
       ·intro M w hM hS;have hc := hS.1;have hc' := hS.2;unfold calmAt;go_simp;exact ⟨rfl, Rel.refl _⟩
      refine wcg ?_;apply ei
      ·intro M w hM hS;unfold calmAt;go_simp
       with_reducible refine (AR.out _).mono ?_
       rintro e w1 ⟨rfl, rfl⟩;exact ⟨rfl, Rel.refl _⟩
      iterate 1
       refine wcg ?_;apply ei
       ·intro M w hM hS;unfold calmAt;go_simp;exact ⟨rfl, Rel.refl _⟩
      refine wpAnyR_end (by kernel_rfl) (fun w3 h3' => ?_);(try simp only [Act.put, zla, zlb, zlc]);have h3 := h0.trans h3';clear h0 h3';have kq4 := keep6 h3 (b := w.heap.size) (by first | (simp; done) | (simp; omega) | omega);have kz3 := h3.size;(try simp only [zsa, zsc, zsd] at kz3);have H3 := Hj h3;clear h3;go_upto_region 3 with (fail)
      go_cut [3] (fun s3 wx => s3 = .bool (zerB a b d s) /\ w3 = wx)
      case first =>
       by_cases t0 : a = 0
       ·subst t0;by_cases t1 : b = 0
        ·subst t1;by_cases t2 : d = 0
         ·subst t2
          have fin : Hid (s.toList.isEmpty = zerB 0 0 0 s) := by
           show _ = _
           unfold zerB; rw [em_eq]; rfl
          go_wp2
          go_meet
          case rel => exact ⟨by rw [fin.out], rfl⟩
         ·have f2 : (d == 0) = false := by rw [zn]; exact t2
          have fin : Hid (false = zerB 0 0 d s) := by
           show _ = _
           unfold zerB; simp [f2]
          clear t2;go_wp2
          go_meet
          case rel => exact ⟨by rw [<- fin.out], rfl⟩
        ·have f1 : (b == 0) = false := by rw [zn]; exact t1
         have fin : Hid (false = zerB 0 b d s) := by
          show _ = _
          unfold zerB; simp [f1]
         clear t1;go_wp2
         go_meet
         case rel => exact ⟨by rw [<- fin.out], rfl⟩
       ·have f0 : (a == 0) = false := by rw [zn]; exact t0
        have fin : Hid (false = zerB a b d s) := by
         show _ = _
         unfold zerB; simp [f0]
        clear t0;go_wp2
        go_meet
        case rel => exact ⟨by rw [<- fin.out], rfl⟩
      case rest =>
       obtain ⟨rfl, rfl⟩ := hcut;obtain ⟨Z, hZ⟩ : ∃ Z, zerB a b d s = Z := ⟨_, rfl⟩
       have hV2 : Hid ((Z && alK (fun i => (kid i).form) n) = V) := by
        show _ = _
        rw [<- hV.out, <- hZ]; rfl
       rw [hZ];clear hV hZ;have R3 : Hid (Rel (w.alloc (.cells #[.int .i64 op, .int .i64 a, .int .i64 b, .int .i64 d, .string s, .slice ad n cap] 59)) w3) := H3.out;go_wp2_with fail
       go_loopw [6] (fun i wx => ∃ k : Nat, k <= n /\ i = .int .i64 k /\ Hid (alK (fun i => (kid i).form) k = true) /\ Hid (Rel (w.alloc (.cells #[.int .i64 op, .int .i64 a, .int .i64 b, .int .i64 d, .string s, .slice ad n cap] 59)) wx)) (fun i _ => n - (intOf i).toNat)
       case atStart => exact ⟨0, by omega, rfl, rfl, rx3210⟩
       case round =>
        obtain ⟨k, hkn, rfl, hA, hR⟩ := hrel;have hR5 := hR.out;have kq5 := keep6 hR5 (b := w.heap.size) (by first | (simp; done) | (simp; omega) | omega);have kz5 := hR5.size;(try simp only [zsa, zsc, zsd] at kz5);have H5 := Hj hR5;clear hR5
        have RW : Hid (Rel w wr) := by
         show Rel _ _
         exact rx543210
        by_cases hlt : k < n
        ·obtain ⟨g, off, rfl, hg, hc⟩ := HK.out (by omega);obtain ⟨xi, hs, hx⟩ := hc k hlt;obtain ⟨xa, xc, rfl⟩ := kids_slice hx;obtain ⟨c0, c1, c2, c3, c4, c5⟩ := six_rel hs RW.out hg;have C := Hj fun w' (r : Rel w w') => IH.out k _ w' (kids_rel hx r)
         unfold BRes at C;clear hs hc hx;go_wp2_with fail;refine (C.out _ RW.out).mono ?_;rintro e w6 ⟨rfl, h6⟩;have kq6 := keep6 h6 (b := w.heap.size) (by first | (simp; done) | (simp; omega) | omega);have kz6 := h6.size;(try simp only [zsa, zsc, zsd] at kz6);have H6 := Hj h6;clear h6
         cases hf : (kid k).form
         ·have fin : Hid (false = V) := by
           show _ = _
           rw [<- hV2.out, alK_no hlt hf]; simp
          go_wp2;go_ret;exact ⟨ret_b2 fin.out, RW.out.trans H6.out⟩
         ·have fin : Hid (alK (fun i => (kid i).form) (k + 1) = true) := by
           show _ = _
           simp only [alK]; rw [hA.out, hf]; rfl
          go_wp2
          go_roundw
          case rel => exact ⟨k + 1, by omega, by go_num, fin, hR.out.trans H6.out⟩
          case measure => simp [intOf]; omega
        ·have : k = n := by omega
         subst this
         have fin : Hid (Z = V) := by
          show _ = _
          rw [<- hV2.out, hA.out]; simp
         go_wp2;go_ret;exact ⟨ret_b2 fin.out, RW.out⟩
  ·have hA : ((n : Int) != arI op) = true := by rw [bne_iff_ne]; exact har
   have fin : Hid (false = V) := by
    show _ = _
    rw [<- hV.out, nod_mis har]; rfl
   obtain ⟨A, hAA⟩ : ∃ A, arI op = A := ⟨_, rfl⟩;rw [hAA] at hA AR;clear har hAA;go_enter func140, ntmps140;go_wp2_with fail;refine wp_region_calm (fun _ w' => w'.cell? { block := w.heap.size, off := 5 } = some (.slice ad n cap) /\ w'.cell? { block := w.heap.size, off := 0 } = some (.int .i64 op)) (fun _ => false) [0, 1, 2, 3, 4, 5, 6] 0 (by kernel_rfl) (by kernel_rfl) ?hst ?hS0 (fun w0 h0 => ?_)
   case hst => exact fun _ _ _ h r => ⟨r.cell h.1, r.cell h.2⟩
   case hS0 => exact ⟨by go_simp, by go_simp⟩
   iterate 5
    refine wcg ?_;apply ei
    ·intro M w hM hS;have hc := hS.1;have hc' := hS.2;unfold calmAt;go_simp;exact ⟨rfl, Rel.refl _⟩
   refine wcg ?_;apply ei
   ·intro M w hM hS;unfold calmAt;go_simp
    with_reducible refine (AR.out _).mono ?_
    rintro e w1 ⟨rfl, rfl⟩;exact ⟨rfl, Rel.refl _⟩
   iterate 1
    refine wcg ?_;apply ei
    ·intro M w hM hS;unfold calmAt;go_simp;exact ⟨rfl, Rel.refl _⟩
   refine wpAnyR_end (by kernel_rfl) (fun w3 h3' => ?_);(try simp only [Act.put, zla, zlb, zlc]);have h3 := h0.trans h3';clear h0 h3';have kq7 := keep6 h3 (b := w.heap.size) (by first | (simp; done) | (simp; omega) | omega);have kz3 := h3.size;(try simp only [zsa, zsc, zsd] at kz3);have H3 := Hj h3;clear h3;go_wp2;go_ret;exact ⟨ret_b2 fin.out, rx3210⟩
theorem rValidExpr_any (t : Ex) (x : Value) (w : World) (h : ExKids t w x) (hz : t.size <= 1000000000000) :
  Calls prog 102 #[.agg #[.int .i64 t.op, .int .i64 t.va, .int .i64 t.vb, .int .i64 t.dm, .string t.nm, x]] w (BRes t.valid w) := by
 obtain ⟨xa, xc, rfl⟩ := kids_slice h;have D := Hj fun w' (r : Rel w w') => rDepth_any t _ w' (kids_rel h r) hz
 have S := Hj fun w' (r : Rel w w') => rSize_any t _ w' (kids_rel h r) hz
 have F := Hj fun w' (r : Rel w w') => formed_all t _ w' (kids_rel h r)
 have hv : t.valid = (decide (t.depth <= 10) && (decide (t.size <= 60) && t.form)) := rfl;have hd := depth_bd t;rw [hv];unfold IntRes at D S;unfold BRes at F |-;obtain ⟨dp, hdp⟩ : ∃ dp, t.depth = dp := ⟨_, rfl⟩;obtain ⟨sz, hsz⟩ : ∃ sz, t.size = sz := ⟨_, rfl⟩;obtain ⟨fo, hfo⟩ : ∃ fo, t.form = fo := ⟨_, rfl⟩;rw [hdp] at D hd |-;rw [hsz] at S hd hz |-;rw [hfo] at F |-;clear h hv hdp hsz hfo;by_cases h1 : dp <= 10
 ·have b1 : decide (dp <= 10) = true := decide_eq_true h1;rw [b1];by_cases h2 : sz <= 60
  ·have b2 : decide (sz <= 60) = true := decide_eq_true h2;rw [b2];go_enter func102, ntmps102;go_wp2_with fail;refine (D.out _ (rx0)).mono ?_;rintro e w1 ⟨rfl, h1⟩;have kq0 := keep6 h1 (b := w.heap.size) (by first | (simp; done) | (simp; omega) | omega);have kz1 := h1.size;(try simp only [zsa, zsc, zsd] at kz1);have H1 := Hj h1;clear h1;go_wp2_with fail;refine (S.out _ (rx10)).mono ?_;rintro e w2 ⟨rfl, h2⟩;have kq1 := keep6 h2 (b := w.heap.size) (by first | (simp; done) | (simp; omega) | omega);have kz2 := h2.size;(try simp only [zsa, zsc, zsd] at kz2);have H2 := Hj h2;clear h2;go_wp2_with fail;refine (F.out _ (rx210)).mono ?_;rintro e w3 ⟨rfl, h3⟩;have kq2 := keep6 h3 (b := w.heap.size) (by first | (simp; done) | (simp; omega) | omega);have kz3 := h3.size;(try simp only [zsa, zsc, zsd] at kz3);have H3 := Hj h3;clear h3;go_wp2;go_ret;exact ⟨rfl, rx3210⟩
  ·have b2 : decide (sz <= 60) = false := decide_eq_false h2;rw [b2];go_enter func102, ntmps102;go_wp2_with fail;refine (D.out _ (rx0)).mono ?_;rintro e w1 ⟨rfl, h1⟩;have kq3 := keep6 h1 (b := w.heap.size) (by first | (simp; done) | (simp; omega) | omega);have kz1 := h1.size;(try simp only [zsa, zsc, zsd] at kz1);have H1 := Hj h1;clear h1;go_wp2_with fail;refine (S.out _ (rx10)).mono ?_;rintro e w2 ⟨rfl, h2⟩;have kq4 := keep6 h2 (b := w.heap.size) (by first | (simp; done) | (simp; omega) | omega);have kz2 := h2.size;(try simp only [zsa, zsc, zsd] at kz2);have H2 := Hj h2;clear h2;go_wp2;go_ret;exact ⟨rfl, rx210⟩
 ·have b1 : decide (dp <= 10) = false := decide_eq_false h1;rw [b1];go_enter func102, ntmps102;go_wp2_with fail;refine (D.out _ (rx0)).mono ?_;rintro e w1 ⟨rfl, h1⟩;have kq5 := keep6 h1 (b := w.heap.size) (by first | (simp; done) | (simp; omega) | omega);have kz1 := h1.size;(try simp only [zsa, zsc, zsd] at kz1);have H1 := Hj h1;clear h1;go_wp2;go_ret;exact ⟨rfl, rx10⟩
end Go.Proofs.YthmlhheceihcbaaGreatDoor

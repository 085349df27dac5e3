/- Lemmas, each as it is printed; no conditions but those printed. -/
import Derived.Test.YtojghojlapgbiaaGreatDoorWB35
import Derived.Test.YtojghojlapgbiaaGreatDoorWB36
namespace Go.Proofs.YtojghojlapgbiaaGreatDoor
set_option maxHeartbeats 16000000
open Go.RowKit Cal Str Tok Frac Txt Tree
attribute [local go_sem] calmUpon
set_option linter.unusedVariables false
set_option linter.unusedSimpArgs false
theorem encL_get {t : Tk} : ∀ {l : List Tk} {i : Nat}, l[i]? = some t → (encL l)[i * 3]? = some (.int .i64 t.K) ∧ (encL l)[i * 3 + 1]? = some (.string t.T) ∧ (encL l)[i * 3 + 2]? = some (.int .i64 t.A) := by
 intro l
 induction l with
 | nil => intro i h; simp at h
 | cons q l ih =>
  intro i h;have e : encL (q :: l) = .int .i64 q.K :: .string q.T :: .int .i64 q.A :: encL l := by unfold encL; simp [encT]
  rw [e]
  cases i with
  | zero => simp at h; subst h; exact ⟨rfl, rfl, rfl⟩
  | succ i =>
   simp only [List.getElem?_cons_succ] at h;obtain ⟨h1, h2, h3⟩ := ih h;rw [show (i + 1) * 3 = i * 3 + 1 + 1 + 1 by omega, show i * 3 + 1 + 1 + 1 + 1 = (i * 3 + 1) + 1 + 1 + 1 by omega, show i * 3 + 1 + 1 + 1 + 2 = (i * 3 + 2) + 1 + 1 + 1 by omega];simp only [List.getElem?_cons_succ];exact ⟨h1, h2, h3⟩
theorem prs_new {w : World} {base : Nat} {T U : TypeId} {v : Value} {l : List Tk} {E : Int} (hO : w.ownsRow base T 3 v l.length (encL l)) {b : Nat} (hb : b = w.heap.size) : ∃ (G : Nat) (ad : Option Addr) (n cap : Nat), v = .slice ad n cap ∧ (l = [] ∨ base ≤ G) ∧ Prs (w.alloc (.cells #[v, .int .i64 E, .bool false, .int .i64 0] U)) b G l E ⟨0, true⟩ := by
 subst hb
 rcases hO.2 with ⟨e, h0⟩ | ⟨g, cap, cur, e, hg, hgl, hc, -⟩
 ·have hl : l = [] := List.eq_nil_of_length_eq_zero h0;subst hl;refine ⟨0, none, 0, 0, e, .inl rfl, ⟨by simp, Nat.zero_le _, ⟨none, 0, by rw [e]; simp, Nat.le_refl _, fun h => by simp at h⟩, .inl rfl, by simp, by simp, by simp, by simp, by simp, by simp⟩⟩
 ·have hlt : g < w.heap.size := by
   rcases Nat.lt_or_ge g w.heap.size with hlt | hge
   ·exact hlt
   ·rw [Array.getElem?_eq_none hge] at hgl; cases hgl
  have r : Rel w (w.alloc (.cells #[v, .int .i64 E, .bool false, .int .i64 0] U)) := (Rel.refl _).alloc _
  have hadd : ∀ m, (⟨g, 0, none⟩ : Addr).add m = ⟨g, m, none⟩ := fun m => by unfold Addr.add; split <;> simp_all
  refine ⟨g, some ⟨g, 0, none⟩, l.length, cap, e, .inr hg, ⟨by simp, Nat.zero_le _, ⟨some ⟨g, 0, none⟩, cap, by rw [e]; simp, by simpa using hc, fun _ => by simp⟩, .inr ⟨by simp; omega, by omega, fun i t ht => ?_⟩, by simp, by simp, by simp, by simp, by simp, by simp⟩⟩;obtain ⟨h1, h2, h3⟩ := encL_get ht;have c1 := hO.cells (g := g) (by rw [e]; rfl) _ _ h1;have c2 := hO.cells (g := g) (by rw [e]; rfl) _ _ h2;have c3 := hO.cells (g := g) (by rw [e]; rfl) _ _ h3;rw [hadd] at c1 c2 c3;exact ⟨r.cell c1, r.cell c2, r.cell c3⟩
def StartRes (s : ByteArray) (w : World) (e : Ending) (w' : World) : Prop := ∃ b G, e = .returned (.tuple #[.pointer (some ⟨b, 0, none⟩), .int .i64 (allR s).2.1, .int .i64 (allR s).2.2]) ∧ w.heap.size ≤ b ∧ ((allR s).1 = [] ∨ w.heap.size ≤ G) ∧ Prs w' b G (allR s).1 s.size ⟨0, true⟩ ∧ Rel w w'
theorem pstart_any (s : ByteArray) (w : World) (hs : s.size ≤ 140737488355328) : Calls Tryz.prog 33 #[.string s] w (StartRes s w) := by
 have A := Hj fun w => All_any s w hs
 unfold AllRes at A;unfold StartRes;obtain ⟨l, hl⟩ : ∃ l, (allR s).1 = l := ⟨_, rfl⟩;obtain ⟨x, hx⟩ : ∃ l, (allR s).2.1 = l := ⟨_, rfl⟩;obtain ⟨c, hc⟩ : ∃ l, (allR s).2.2 = l := ⟨_, rfl⟩;rw [hl, hx, hc] at A ⊢;clear hl hx hc;go_enter Tryz.func33, Tryz.ntmps33;go_wp2_with fail;refine (A.out _).mono ?_;rintro e w1 ⟨v, rfl, h1, hO⟩;obtain ⟨G, ad, n, cap, rfl, hG, hP⟩ := prs_new (U := 143) (E := s.size) hO rfl;have P1 := Hj hP;have R1 := Hj h1;clear hO hP h1;((try simp only []); (repeat (first | go_values | go_skip | go_guarded | go_step | go_upon | go_in)));refine bodyPost_ret (v := .tuple #[.pointer (some ⟨w1.heap.size, 0, none⟩), .int .i64 x, .int .i64 c]) ?_ rfl ⟨w1.heap.size, G, rfl, R1.out.size, hG, P1.out, R1.out.alloc _⟩;simp [results, Tryz.results33, go_sem]
theorem Toks.set {w : World} {b G : Nat} {tk : List Tk} (h : Toks w b G tk) {g i : Nat} {v : Value} (hne : tk = [] ∨ G ≠ g) : Toks (w.setCell ⟨g, i, none⟩ v) b G tk := by
 rcases h with h | ⟨h1, h2, h3⟩
 ·exact .inl h
 ·rcases hne with hne | hne
  ·exact .inl hne
  ·have oc : ∀ j, (w.setCell ⟨g, i, none⟩ v).cell? ⟨G, j, none⟩ = w.cell? ⟨G, j, none⟩ := fun j => World.cell?_setCell_other _ _ _ _ (by intro e; injection e; omega)
   exact .inr ⟨by simpa [World.setCell] using h1, h2, fun i t ht => ⟨(oc _).trans (h3 i t ht).1, (oc _).trans (h3 i t ht).2.1, (oc _).trans (h3 i t ht).2.2⟩⟩
theorem Prs.put {w : World} {b G : Nat} {tk : List Tk} {E : Int} {s : Pt} (h : Prs w b G tk E s) {g i : Nat} {v : Value} (hb : g ≠ b) (hne : tk = [] ∨ G ≠ g) : Prs (w.setCell ⟨g, i, none⟩ v) b G tk E s := h.other hb (h.toks.set hne)
def finB (tk : List Tk) (s : Pt) : Bool := s.ok && (s.i == tk.length)
def finA (tk : List Tk) (E : Int) (s : Pt) : Int := if finB tk s = true then 0 else posI tk E s.i
def FinRes (b : Nat) (tk : List Tk) (E : Int) (s : Pt) (w : World) (e : Ending) (w' : World) : Prop := e = .returned (.tuple #[.int .i64 (finA tk E s), .bool (finB tk s)]) ∧ Ro b w w'
theorem finish_any (b G : Nat) (tk : List Tk) (E : Int) (s : Pt) (w : World) (h : Prs w b G tk E s) : Calls Tryz.prog 39 #[.pointer (some ⟨b, 0, none⟩)] w (FinRes b tk E s w) := by
 have HP := Hj h;obtain ⟨ad, cap, t0, hcap, hT⟩ := h.tok;have hlt := h.lt;have hle := h.le;have c2 := h.c2;have c3 := h.c3;unfold FinRes;obtain ⟨n, hn⟩ : ∃ n, tk.length - s.i = n := ⟨_, rfl⟩;rw [hn] at t0;clear h hcap hT;by_cases hz : 0 < n
 ·have e1 : decide ((0 : Int) < (n : Int)) = true := dT (by omega)
  have hB : finB tk s = false := by
   unfold finB;rw [show (s.i == tk.length) = false by rw [zn]; omega]; simp
  have hA : finA tk E s = posI tk E s.i := by unfold finA; rw [if_neg (by rw [hB]; simp)]
  rw [hA, hB];obtain ⟨A, hA'⟩ : ∃ A, posI tk E s.i = A := ⟨_, rfl⟩;rw [hA'];have HA := Hj hA';clear hn hA hB hA' c2 c3;go_enter Tryz.func39, Tryz.ntmps39;go_wp2_with fail;refine (fail_any b G tk E s _ HP.out).mono ?_;unfold UnRes;rintro e w1 ⟨⟨v, rfl⟩, hP, h1⟩;have d2 : w1.cell? ⟨b, 2, none⟩ = some (.bool true) := hP.c2;have d3 : w1.cell? ⟨b, 3, none⟩ = some (.int .i64 A) := by have := hP.c3; rw [show (s.no).ok = false from rfl, if_neg (by simp), show (s.no).i = s.i from rfl, HA.out] at this; exact this
  have R1 := Hj h1;clear hP h1 t0;go_wp2_with fail;refine wp_region_calm (fun _ w' => w'.cell? ⟨b, 2, none⟩ = some (.bool true) ∧ w'.cell? ⟨b, 3, none⟩ = some (.int .i64 A)) (fun _ => false) [0, 1, 2, 3, 4, 5, 6, 7, 8, 9, 10] 0 (by kernel_rfl) (by kernel_rfl) ?hst ?hS0 (fun w0 h0 => ?_)
  case hst => exact fun _ _ _ h r => ⟨r.cell h.1, r.cell h.2⟩
  case hS0 => exact ⟨d2, d3⟩
  iterate 11
   refine wpCalm_go rfl (by kernel_rfl) (fun K hK => ?_);apply Exists.intro;refine ⟨fun M w hM hS => ?_, hK _ ?_⟩
   ·have q1 := hS.1;have q2 := hS.2;unfold calmAt;go_simp;exact ⟨rfl, Rel.refl _⟩
   clear hK K
  refine wpAnyR_end (by kernel_rfl) (fun w3 h3' => ?_);(try simp only [Act.put, zla, zlb, zlc]);have h3 := h0.trans h3';clear h0 h3';have kz3 := h3.size;(try simp only [zsa, zsc, zsd] at kz3);have H3 := Hj h3;clear h3;go_wp2;refine bodyPost_ret (v := .tuple #[.int .i64 A, .bool false]) ?_ rfl ⟨rfl, R1.out.trans (Ro.of H3.out)⟩;simp [results, Tryz.results39, go_sem]
 ·have e1 : decide ((0 : Int) < (n : Int)) = false := dF (by omega)
  have hB : finB tk s = s.ok := by
   unfold finB;rw [show (s.i == tk.length) = true by rw [beq_iff_eq]; omega]; simp
  have hA : finA tk E s = if s.ok = true then 0 else posI tk E s.i := by unfold finA; rw [hB]
  rw [hA, hB];obtain ⟨A, hA'⟩ : ∃ A, (if s.ok = true then 0 else posI tk E s.i) = A := ⟨_, rfl⟩;rw [hA'] at c3 ⊢;obtain ⟨k, hk⟩ : ∃ k, s.ok = k := ⟨_, rfl⟩;rw [hk] at c2 ⊢;clear hn hA hB hA' hk;go_enter Tryz.func39, Tryz.ntmps39;go_wp2_with fail;refine wp_region_calm (fun _ w' => w'.cell? ⟨b, 2, none⟩ = some (.bool (!k)) ∧ w'.cell? ⟨b, 3, none⟩ = some (.int .i64 A)) (fun _ => false) [0, 1, 2, 3, 4, 5, 6, 7, 8, 9, 10] 0 (by kernel_rfl) (by kernel_rfl) ?hst ?hS0 (fun w0 h0 => ?_)
  case hst => exact fun _ _ _ h r => ⟨r.cell h.1, r.cell h.2⟩
  case hS0 => exact ⟨c2, c3⟩
  iterate 11
   refine wpCalm_go rfl (by kernel_rfl) (fun K hK => ?_);apply Exists.intro;refine ⟨fun M w hM hS => ?_, hK _ ?_⟩
   ·have q1 := hS.1;have q2 := hS.2;unfold calmAt;go_simp;exact ⟨rfl, Rel.refl _⟩
   clear hK K
  refine wpAnyR_end (by kernel_rfl) (fun w3 h3' => ?_);(try simp only [Act.put, zla, zlb, zlc]);have h3 := h0.trans h3';clear h0 h3';have kz3 := h3.size;(try simp only [zsa, zsc, zsd] at kz3);have H3 := Hj h3;clear h3;go_wp2;refine bodyPost_ret (v := .tuple #[.int .i64 A, .bool k]) ?_ rfl ⟨rfl, Ro.of H3.out⟩;simp [results, Tryz.results39, go_sem]
def PxRes (r : Ex × Int × Int) (w : World) (e : Ending) (w' : World) : Prop :=
 ∃ x, e = .returned (.tuple #[.agg #[.int .i64 r.1.op, .int .i64 r.1.va, .int .i64 r.1.vb, .int .i64 r.1.dm, .string r.1.nm, x], .int .i64 r.2.1, .int .i64 r.2.2]) ∧ ExKids r.1 w' x ∧ Rel w w'
def PxResB (r : Ex × Int × Int) (w : World) (e : Ending) (w' : World) : Prop :=
 ∃ x, e = .returned (.tuple #[.agg #[.int .i64 r.1.op, .int .i64 r.1.va, .int .i64 r.1.vb, .int .i64 r.1.dm, .string r.1.nm, x], .int .i64 r.2.1, .int .i64 r.2.2]) ∧ ExKidsB (fun g => w.heap.size ≤ g) r.1 w' x ∧ Rel w w'
/-! The example of chapter 6 -/
def awS : ByteArray := ⟨#[97, 32, 45, 32, 98, 32, 45, 32, 99]⟩
def awT : Ex := trB 8 (trB 8 (trN ⟨#[97]⟩) (trN ⟨#[98]⟩)) (trN ⟨#[99]⟩)
end Go.Proofs.YtojghojlapgbiaaGreatDoor

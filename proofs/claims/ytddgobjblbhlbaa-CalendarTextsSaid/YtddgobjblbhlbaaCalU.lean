/- Plain facts: the text of a day is read back, and what is read is the text of a day. -/
import Derived.Test.YtddgobjblbhlbaaCalT
namespace Go.Proofs.Ytddgobjblbhlbaa
open Go.RowKit Cal Str

theorem ext_list (s : ByteArray) (a b : Nat) : (s.extract a b).data.toList = (s.data.toList.drop a).take (b - a) := by
  simp

theorem byteAt_list (l : List UInt8) (k : Nat) (h : k < l.length) : byteAt ⟨l.toArray⟩ k = ((l[k]'h).toNat : Int) := by
  unfold byteAt
  rw [dif_pos (show k < (⟨l.toArray⟩ : ByteArray).size by show k < l.toArray.size; simpa using h)]
  rfl

theorem fmtD_list {d : Int} (h : vdayB d = true) : fmtD d = ⟨(dl 40 (dY d).toNat 4 ++ ([45] ++ (dl 40 (dM d).toNat 2 ++ ([45] ++ dl 40 (dD d).toNat 2)))).toArray⟩ := by
  rw [fmtD_yes h]
  have e : (⟨#[45]⟩ : ByteArray) = ⟨[45].toArray⟩ := rfl
  unfold dgt
  rw [e, ByteArray.mk_append_mk, ByteArray.mk_append_mk, ByteArray.mk_append_mk, ByteArray.mk_append_mk]
  simp

theorem five_cut {A B C : List UInt8} (hA : A.length = 4) (hB : B.length = 2) (hC : C.length = 2) (s : ByteArray) (hs : s = ⟨(A ++ ([45] ++ (B ++ ([45] ++ C)))).toArray⟩) :
    s.size = 10 ∧ byteAt s 4 = 45 ∧ byteAt s 7 = 45 ∧ (s.extract 0 4).data.toList = A ∧ (s.extract 5 7).data.toList = B ∧ (s.extract 8 s.size).data.toList = C := by
  obtain ⟨a, b, c, d, rfl⟩ : ∃ a b c d, A = [a, b, c, d] := by
    match A, hA with
    | [a, b, c, d], _ => exact ⟨a, b, c, d, rfl⟩
  obtain ⟨e, f, rfl⟩ : ∃ a b, B = [a, b] := by
    match B, hB with
    | [a, b], _ => exact ⟨a, b, rfl⟩
  obtain ⟨g, i, rfl⟩ : ∃ a b, C = [a, b] := by
    match C, hC with
    | [a, b], _ => exact ⟨a, b, rfl⟩
  have hz : s.size = 10 := by rw [hs]; rfl
  refine ⟨hz, ?_, ?_, ?_, ?_, ?_⟩
  · rw [hs, byteAt_list _ _ (by simp)]; simp
  · rw [hs, byteAt_list _ _ (by simp)]; simp
  · rw [ext_list, hs]; simp
  · rw [ext_list, hs]; simp
  · rw [ext_list, hz, hs]; simp

theorem fmt_parse {d : Int} (h : vdayB d = true) : prsB (fmtD d) = true ∧ prsN (fmtD d) = d ∧ (fmtD d).size = 10 := by
  obtain ⟨y0, y1, m0, m1, d0, d1⟩ := date_bd h
  have d2 := mlen_bd (dY d) (dM d)
  have f := day_date d h
  obtain ⟨hz, b4, b7, eA, eB, eC⟩ := five_cut (length_dl 40 (dY d).toNat 4 (by omega) (by omega)) (length_dl 40 (dM d).toNat 2 (by omega) (by omega)) (length_dl 40 (dD d).toNat 2 (by omega) (by omega)) _ (fmtD_list h)
  have v1 : strV ((fmtD d).extract 0 4) = dY d ∧ strB ((fmtD d).extract 0 4) = true := by
    unfold strV strB
    rw [eA, numV_yes (allD_dl _ _ _), val_dl 40 _ _ (by omega) (by omega)]; exact ⟨by omega, allD_dl _ _ _⟩
  have v2 : strV ((fmtD d).extract 5 7) = dM d ∧ strB ((fmtD d).extract 5 7) = true := by
    unfold strV strB
    rw [eB, numV_yes (allD_dl _ _ _), val_dl 40 _ _ (by omega) (by omega)]; exact ⟨by omega, allD_dl _ _ _⟩
  have v3 : strV ((fmtD d).extract 8 (fmtD d).size) = dD d ∧ strB ((fmtD d).extract 8 (fmtD d).size) = true := by
    unfold strV strB
    rw [eC, numV_yes (allD_dl _ _ _), val_dl 40 _ _ (by omega) (by omega)]; exact ⟨by omega, allD_dl _ _ _⟩
  have hf : formB (fmtD d) = true := by unfold formB; rw [b4, b7]; simp [hz]
  have hd : digsB (fmtD d) = true := by unfold digsB; rw [v1.2, v2.2, v3.2]; rfl
  refine ⟨?_, ?_, hz⟩
  · unfold prsB; rw [hf, hd, v1.1, v2.1, v3.1, f.1]; rfl
  · unfold prsN; rw [if_pos ⟨hf, hd⟩, v1.1, v2.1, v3.1, f.2]

theorem ten_list (l : List UInt8) (hl : l.length = 10) (g4 : l[4]? = some 45) (g7 : l[7]? = some 45) :
    l = (l.drop 0).take (4 - 0) ++ ([45] ++ ((l.drop 5).take (7 - 5) ++ ([45] ++ (l.drop 8).take (10 - 8)))) := by
  match l, hl with
  | [a, b, c, d, e, f, g, i, j, k], _ =>
    simp at g4 g7
    subst g4 g7
    rfl

theorem five_of {s : ByteArray} (h : formB s = true) : s = ⟨((s.extract 0 4).data.toList ++ ([45] ++ ((s.extract 5 7).data.toList ++ ([45] ++ (s.extract 8 s.size).data.toList)))).toArray⟩ := by
  obtain ⟨h4, h7, h9, h10, e4, e7⟩ := form_yes h
  have hl : s.data.toList.length = 10 := by show s.data.toList.length = 10; have : s.data.size = s.size := rfl; simp; omega
  have hz : s.size = 10 := by omega
  have g4 : s.data.toList[4]? = some 45 := by
    rw [List.getElem?_eq_getElem (by omega)]
    have : (s[4]) = s.data.toList[4]'(by omega) := rfl
    rw [← this]
    congr 1
    apply UInt8.toNat_inj.1
    show s[4].toNat = 45
    omega
  have g7 : s.data.toList[7]? = some 45 := by
    rw [List.getElem?_eq_getElem (by omega)]
    have : (s[7]) = s.data.toList[7]'(by omega) := rfl
    rw [← this]
    congr 1
    apply UInt8.toNat_inj.1
    show s[7].toNat = 45
    omega
  rw [ext_list, ext_list, ext_list, hz]
  have e := ten_list s.data.toList hl g4 g7
  have hs : s = ⟨s.data.toList.toArray⟩ := (mk_toList s).symm
  exact hs.trans (congrArg (fun l : List UInt8 => (⟨l.toArray⟩ : ByteArray)) e)

theorem parse_fmt {s : ByteArray} (h : prsB s = true) : fmtD (prsN s) = s ∧ vdayB (prsN s) = true := by
  unfold prsB at h
  simp at h
  obtain ⟨hf, hd, hdate⟩ := h
  have hN : prsN s = dayN (strV (s.extract 0 4)) (strV (s.extract 5 7)) (strV (s.extract 8 s.size)) := by unfold prsN; rw [if_pos ⟨hf, hd⟩]
  obtain ⟨hv, hY, hM, hD⟩ := date_day _ _ _ hdate
  rw [← hN] at hv hY hM hD
  refine ⟨?_, hv⟩
  obtain ⟨_, _, h9, h10, _, _⟩ := form_yes hf
  unfold digsB at hd
  simp at hd
  obtain ⟨k1, k2, k3⟩ := hd
  rw [fmtD_list hv, hY, hM, hD]
  have hz : s.size = 10 := by omega
  have w1 : (s.extract 0 4).data.toList.length = 4 := by rw [ext_list]; simp [hz]
  have w2 : (s.extract 5 7).data.toList.length = 2 := by rw [ext_list]; simp [hz]
  have w3 : (s.extract 8 s.size).data.toList.length = 2 := by rw [ext_list]; simp [hz]
  have u1 : dl 40 (strV (s.extract 0 4)).toNat 4 = (s.extract 0 4).data.toList := by
    have := dl_val 40 _ k1 (by omega)
    rw [w1] at this; rw [strV, numV_yes k1]; exact this
  have u2 : dl 40 (strV (s.extract 5 7)).toNat 2 = (s.extract 5 7).data.toList := by
    have := dl_val 40 _ k2 (by omega)
    rw [w2] at this; rw [strV, numV_yes k2]; exact this
  have u3 : dl 40 (strV (s.extract 8 s.size)).toNat 2 = (s.extract 8 s.size).data.toList := by
    have := dl_val 40 _ k3 (by omega)
    rw [w3] at this; rw [strV, numV_yes k3]; exact this
  rw [u1, u2, u3]
  exact (five_of hf).symm

end Go.Proofs.Ytddgobjblbhlbaa

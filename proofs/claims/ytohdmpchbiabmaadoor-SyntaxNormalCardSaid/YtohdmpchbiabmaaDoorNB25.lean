/- Bundle of texts: each says at its head what it proves; no conditions but those printed. -/
import Derived.Test.YtohdmpchbiabmaaDoorNB22
import Derived.Test.YtohdmpchbiabmaaDoorNB14
/- The text of a valid tree is parsed to the same tree, with parentheses around it, too. No program in sight; no conditions but those printed. -/
namespace Go.Proofs.YtohdmpchbiabmaaDoor
open Go.RowKit Cal Str Tok Frac Txt Tree
set_option linter.unusedVariables false
theorem valid_of {t : Ex} (h : t.valid = true) : t.form = true ∧ t.size ≤ 60 := by
 unfold Ex.valid at h
 simp only [Bool.and_eq_true, decide_eq_true_eq] at h
 exact ⟨h.2.2, h.2.1⟩
theorem back_of {s : ByteArray} {l : List Tk} {t e : Ex} (hv : t.valid = true) (ha : allR s = (l, 0, 0)) (hs : t.same e = true) (hp : pe l (10 * l.length + 8) 0 .no ⟨0, true⟩ = (e, ⟨l.length, true⟩)) : prV s = (e, 0, 0) := by
 unfold prV prQ
 rw [ha]
 simp only []
 rw [hp, if_pos trivial]
 simp only []
 rw [if_pos (by unfold finB; simp), if_pos (by rw [← same_valid hs]; exact hv)]
theorem prV_par {t : Ex} (hv : t.valid = true) : ∃ e, t.same e = true ∧ prV ((⟨#[40, 32]⟩ ++ t.put 0) ++ ⟨#[32, 41]⟩) = (e, 0, 0) := by
 obtain ⟨hF, hz⟩ := valid_of hv
 have hsz := put_size hF hz 0
 have hl : Lx ((⟨#[40, 32]⟩ ++ t.put 0) ++ ⟨#[32, 41]⟩ : ByteArray).data.toList ((4, [40]) :: (t.tp 0 ++ [(4, [41])])) := by
  rw [app_list, app_list, List.append_assoc]
  exact lx_open (lx_sp (put_lx hF 0 (aft_32 _) (lx_sp (lx_shut Lx.nil))))
 obtain ⟨l, ha, hm⟩ := lx_allR (by simp only [ByteArray.size_append, szA, List.length]; omega) hl
 obtain ⟨e, hs, hp⟩ := parse_par l hF hm
 exact ⟨e, hs, back_of hv ha hs hp⟩
theorem back_again {t e : Ex} (hv : t.valid = true) (hs : t.same e = true) : e.valid = true ∧ e.put 0 = t.put 0 := ⟨by rw [← same_valid hs]; exact hv, (same_put (valid_of hv).1 hs 0).symm⟩
end Go.Proofs.YtohdmpchbiabmaaDoor

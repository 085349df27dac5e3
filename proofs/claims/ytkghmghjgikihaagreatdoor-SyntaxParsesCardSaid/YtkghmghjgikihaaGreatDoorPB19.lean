/- Bundle of texts: each says at its head what it proves; no conditions but those printed. -/
import Derived.Test.YtkghmghjgikihaaGreatDoorPB5
import Derived.Test.YtkghmghjgikihaaGreatDoorPB4
import Derived.Test.YtkghmghjgikihaaGreatDoorPB6
/- Texts of trees, plain. No conditions but those printed. -/
namespace Go.Proofs.YtkghmghjgikihaaGreatDoor.Tree
open Str Frac Tok Txt
set_option linter.unusedVariables false
set_option linter.unusedSimpArgs false
def levI (op : Int) : Int := if op = 21 then 0 else if op = 18 then 1 else if op = 17 then 2 else if op = 5 then 3 else if 11 ≤ op ∧ op ≤ 16 then 4 else if op = 7 ∨ op = 8 then 5 else if op = 9 ∨ op = 10 then 6 else 7
def sgS (op : Int) : ByteArray := if op = 7 then ⟨#[43]⟩ else if op = 8 then ⟨#[45]⟩ else if op = 9 then ⟨#[42]⟩ else if op = 10 then ⟨#[47]⟩ else if op = 11 then ⟨#[60]⟩ else if op = 12 then ⟨#[60, 61]⟩ else if op = 13 then ⟨#[61]⟩ else if op = 14 then ⟨#[60, 62]⟩ else if op = 15 then ⟨#[62]⟩ else if op = 16 then ⟨#[62, 61]⟩ else if op = 17 then ⟨#[97, 110, 100]⟩ else ⟨#[111, 114]⟩
def parS (b : Bool) (s : ByteArray) : ByteArray := if b = true then (⟨#[40]⟩ ++ s) ++ ⟨#[41]⟩ else s
def ndS (op a b d : Int) (s : ByteArray) (p : Nat → Int → ByteArray) : ByteArray :=
 if op = 1 then fdT a b d else if op = 2 then s else if op = 3 then (⟨#[98, 101, 115, 116, 40]⟩ ++ numS a) ++ ⟨#[41]⟩
 else if op = 4 then ⟨#[45]⟩ ++ p 0 7 else if op = 5 then ⟨#[110, 111, 116, 32]⟩ ++ p 0 3
 else if op = 6 then (⟨#[102, 108, 111, 111, 114, 40]⟩ ++ p 0 0) ++ ⟨#[41]⟩
 else if op = 19 then (((⟨#[109, 105, 110, 40]⟩ ++ p 0 0) ++ ⟨#[44, 32]⟩) ++ p 1 0) ++ ⟨#[41]⟩
 else if op = 20 then (((⟨#[109, 97, 120, 40]⟩ ++ p 0 0) ++ ⟨#[44, 32]⟩) ++ p 1 0) ++ ⟨#[41]⟩
 else if op = 21 then ((((⟨#[105, 102, 32]⟩ ++ p 0 0) ++ ⟨#[32, 116, 104, 101, 110, 32]⟩) ++ p 1 0) ++ ⟨#[32, 101, 108, 115, 101, 32]⟩) ++ p 2 0
 else (((p 0 (if levI op = 4 then 5 else levI op) ++ ⟨#[32]⟩) ++ sgS op) ++ ⟨#[32]⟩) ++ p 1 (levI op + 1)
def Ex.bare : Ex → ByteArray
 | .no => ⟨#[]⟩
 | .mk op a b d s n kid => ndS op a b d s fun i l => parS (decide (levI (kid i).op < l)) (kid i).bare
def Ex.put (t : Ex) (l : Int) : ByteArray := parS (decide (levI t.op < l)) t.bare
end Go.Proofs.YtkghmghjgikihaaGreatDoor.Tree

/- Contracts of the levels and the signs of operations. No conditions but those printed. -/
namespace Go.Proofs.YtkghmghjgikihaaGreatDoor
open Go.RowKit Cal Str Tok Frac Txt Tree
set_option linter.unusedVariables false
set_option linter.unusedSimpArgs false
set_option maxHeartbeats 4000000 in
theorem rlevel_any (op : Int) (w : World) (h0 : 1 ≤ op) (h1 : op ≤ 21) : Calls Tryz.prog 94 #[.int .i64 op] w fun e w' => e = .returned (.int .i64 (levI op)) ∧ w = w' := by
 rcases (show op = 1 ∨ op = 2 ∨ op = 3 ∨ op = 4 ∨ op = 5 ∨ op = 6 ∨ op = 7 ∨ op = 8 ∨ op = 9 ∨ op = 10 ∨ op = 11 ∨ op = 12 ∨ op = 13 ∨ op = 14 ∨ op = 15 ∨ op = 16 ∨ op = 17 ∨ op = 18 ∨ op = 19 ∨ op = 20 ∨ op = 21 by omega) with rfl | rfl | rfl | rfl | rfl | rfl | rfl | rfl | rfl | rfl | rfl | rfl | rfl | rfl | rfl | rfl | rfl | rfl | rfl | rfl | rfl
 ·go_enter Tryz.func94, Tryz.ntmps94
  go_wp2
  go_ret
  exact ⟨rfl, rfl⟩
 ·go_enter Tryz.func94, Tryz.ntmps94
  go_wp2
  go_ret
  exact ⟨rfl, rfl⟩
 ·go_enter Tryz.func94, Tryz.ntmps94
  go_wp2
  go_ret
  exact ⟨rfl, rfl⟩
 ·go_enter Tryz.func94, Tryz.ntmps94
  go_wp2
  go_ret
  exact ⟨rfl, rfl⟩
 ·go_enter Tryz.func94, Tryz.ntmps94
  go_wp2
  go_ret
  exact ⟨rfl, rfl⟩
 ·go_enter Tryz.func94, Tryz.ntmps94
  go_wp2
  go_ret
  exact ⟨rfl, rfl⟩
 ·go_enter Tryz.func94, Tryz.ntmps94
  go_wp2
  go_ret
  exact ⟨rfl, rfl⟩
 ·go_enter Tryz.func94, Tryz.ntmps94
  go_wp2
  go_ret
  exact ⟨rfl, rfl⟩
 ·go_enter Tryz.func94, Tryz.ntmps94
  go_wp2
  go_ret
  exact ⟨rfl, rfl⟩
 ·go_enter Tryz.func94, Tryz.ntmps94
  go_wp2
  go_ret
  exact ⟨rfl, rfl⟩
 ·go_enter Tryz.func94, Tryz.ntmps94
  go_wp2
  go_ret
  exact ⟨rfl, rfl⟩
 ·go_enter Tryz.func94, Tryz.ntmps94
  go_wp2
  go_ret
  exact ⟨rfl, rfl⟩
 ·go_enter Tryz.func94, Tryz.ntmps94
  go_wp2
  go_ret
  exact ⟨rfl, rfl⟩
 ·go_enter Tryz.func94, Tryz.ntmps94
  go_wp2
  go_ret
  exact ⟨rfl, rfl⟩
 ·go_enter Tryz.func94, Tryz.ntmps94
  go_wp2
  go_ret
  exact ⟨rfl, rfl⟩
 ·go_enter Tryz.func94, Tryz.ntmps94
  go_wp2
  go_ret
  exact ⟨rfl, rfl⟩
 ·go_enter Tryz.func94, Tryz.ntmps94
  go_wp2
  go_ret
  exact ⟨rfl, rfl⟩
 ·go_enter Tryz.func94, Tryz.ntmps94
  go_wp2
  go_ret
  exact ⟨rfl, rfl⟩
 ·go_enter Tryz.func94, Tryz.ntmps94
  go_wp2
  go_ret
  exact ⟨rfl, rfl⟩
 ·go_enter Tryz.func94, Tryz.ntmps94
  go_wp2
  go_ret
  exact ⟨rfl, rfl⟩
 ·go_enter Tryz.func94, Tryz.ntmps94
  go_wp2
  go_ret
  exact ⟨rfl, rfl⟩
set_option maxHeartbeats 4000000 in
theorem rsign_any (op : Int) (w : World) (h0 : 7 ≤ op) (h1 : op ≤ 18) : Calls Tryz.prog 157 #[.int .i64 op] w fun e w' => e = .returned (.string (sgS op)) ∧ w = w' := by
 rcases (show op = 7 ∨ op = 8 ∨ op = 9 ∨ op = 10 ∨ op = 11 ∨ op = 12 ∨ op = 13 ∨ op = 14 ∨ op = 15 ∨ op = 16 ∨ op = 17 ∨ op = 18 by omega) with rfl | rfl | rfl | rfl | rfl | rfl | rfl | rfl | rfl | rfl | rfl | rfl
 ·go_enter Tryz.func157, Tryz.ntmps157
  go_wp2
  go_ret
  exact ⟨rfl, rfl⟩
 ·go_enter Tryz.func157, Tryz.ntmps157
  go_wp2
  go_ret
  exact ⟨rfl, rfl⟩
 ·go_enter Tryz.func157, Tryz.ntmps157
  go_wp2
  go_ret
  exact ⟨rfl, rfl⟩
 ·go_enter Tryz.func157, Tryz.ntmps157
  go_wp2
  go_ret
  exact ⟨rfl, rfl⟩
 ·go_enter Tryz.func157, Tryz.ntmps157
  go_wp2
  go_ret
  exact ⟨rfl, rfl⟩
 ·go_enter Tryz.func157, Tryz.ntmps157
  go_wp2
  go_ret
  exact ⟨rfl, rfl⟩
 ·go_enter Tryz.func157, Tryz.ntmps157
  go_wp2
  go_ret
  exact ⟨rfl, rfl⟩
 ·go_enter Tryz.func157, Tryz.ntmps157
  go_wp2
  go_ret
  exact ⟨rfl, rfl⟩
 ·go_enter Tryz.func157, Tryz.ntmps157
  go_wp2
  go_ret
  exact ⟨rfl, rfl⟩
 ·go_enter Tryz.func157, Tryz.ntmps157
  go_wp2
  go_ret
  exact ⟨rfl, rfl⟩
 ·go_enter Tryz.func157, Tryz.ntmps157
  go_wp2
  go_ret
  exact ⟨rfl, rfl⟩
 ·go_enter Tryz.func157, Tryz.ntmps157
  go_wp2
  go_ret
  exact ⟨rfl, rfl⟩
end Go.Proofs.YtkghmghjgikihaaGreatDoor

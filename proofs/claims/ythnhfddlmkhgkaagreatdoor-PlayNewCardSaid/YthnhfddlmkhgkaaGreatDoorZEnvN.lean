/- The package-level variables, out of each kind of row. -/
import Derived.Test.YthnhfddlmkhgkaaGreatDoorZDoor
set_option linter.unusedVariables false
namespace Go.Proofs.YthnhfddlmkhgkaaGreatDoor
open Go.ChangeShapes Go.WideShapes Go.ChangeAt Go.WideMaps Go.WideElems Go.RowKit

theorem env9 {W : World} (hL : laidMetH Tryz.prog Rows.playRoundRow.laid W) (hS : W.ShapedOpen Tryz.prog) : Env W := by
  rw [plain9] at hL
  exact env_of hL hS (.tail _ (.tail _ (.head _))) (.tail _ (.tail _ (.tail _ (.tail _ (.tail _ (.head _)))))) (.tail _ (.tail _ (.tail _ (.tail _ (.head _))))) (.tail _ (.tail _ (.tail _ (.tail _ (.tail _ (.tail _ (.head _))))))) (.tail _ (.tail _ (.tail _ (.tail _ (.tail _ (.tail _ (.tail _ (.head _))))))))
theorem bulk_of {H : Type} {l : List (DataW H)} (hk : Rows.uptoSmall H l = true) : Rows.uptoBulkAll l ≤ 1048576 := of_decide_eq_true hk
theorem env11 {W : World} (hL : laidMetH Tryz.prog Rows.playReadsCallRow.laid W) (hS : W.ShapedOpen Tryz.prog) : Env W := by
  rw [plain11] at hL
  exact env_of hL hS (.tail _ (.tail _ (.head _))) (.tail _ (.tail _ (.tail _ (.tail _ (.tail _ (.head _)))))) (.tail _ (.tail _ (.tail _ (.tail _ (.head _))))) (.tail _ (.tail _ (.tail _ (.tail _ (.tail _ (.tail _ (.tail _ (.tail _ (.head _))))))))) (.tail _ (.tail _ (.tail _ (.tail _ (.tail _ (.tail _ (.tail _ (.tail _ (.tail _ (.head _))))))))))
theorem env13 {W : World} (hL : laidMetH Tryz.prog Rows.playParsesRow.laid W) (hS : W.ShapedOpen Tryz.prog) : Env W := by
  rw [plain13] at hL
  exact env_of hL hS (.tail _ (.tail _ (.head _))) (.tail _ (.tail _ (.tail _ (.tail _ (.tail _ (.head _)))))) (.tail _ (.tail _ (.tail _ (.tail _ (.head _))))) (.tail _ (.tail _ (.tail _ (.tail _ (.tail _ (.tail _ (.tail _ (.tail _ (.tail _ (.tail _ (.head _))))))))))) (.tail _ (.tail _ (.tail _ (.tail _ (.tail _ (.tail _ (.tail _ (.tail _ (.tail _ (.tail _ (.tail _ (.head _))))))))))))
theorem start11H (os : Os) (args : Array Value) : laidMetH Tryz.prog Rows.playReadsCallRow.laid ((startWorld os).forCall (fun _ _ => 0) ⟨#[], args, []⟩).memory := by rw [plain11]; exact laidMet_sub (start13 os args) sub11
theorem start13H (os : Os) (args : Array Value) : laidMetH Tryz.prog Rows.playParsesRow.laid ((startWorld os).forCall (fun _ _ => 0) ⟨#[], args, []⟩).memory := by rw [plain13]; exact start13 os args
end Go.Proofs.YthnhfddlmkhgkaaGreatDoor

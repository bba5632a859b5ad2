/- A first world that holds the listed variables: what the program's own door lays, and the pinned table. -/
import Derived.Test.YthnhfddlmkhgkaaGreatDoorZClose2
set_option linter.unusedVariables false
namespace Go.Proofs.YthnhfddlmkhgkaaGreatDoor
open Go.ChangeShapes Go.WideShapes Go.ChangeAt Go.WideMaps Go.WideElems Go.RowKit

noncomputable def startWorld (os : Os) : World :=
  { World.doorLaid Tryz.prog 4000 os with heap := (World.doorLaid Tryz.prog 4000 os).heap.modify 8 fun
      | .cells _ t fr => .cells (Pinned.utf8FirstZ.map fun (n : Nat) => Value.int .u8 (n : Int)).toArray t fr
      | o => o }
theorem laidVars_sub {P : Program} {w : World} {l l' : List (String × DataW Unit)} (hs : l'.Sublist l) : ∀ {ps : List MemPlace}, DataW.LaidVars P w l ps → ∃ ps', DataW.LaidVars P w l' ps' ∧ ps'.Sublist ps := by
  induction hs with
  | slnil => intro ps h; exact ⟨[], rfl, List.nil_sublist _⟩
  | @cons l1 l2 x hs ih =>
    intro ps h
    obtain ⟨n, d⟩ := x
    obtain ⟨g, t, cs, fuel, p, q, h1, h2, h3, h4, hq, rfl⟩ := h
    obtain ⟨ps', g1, g2⟩ := ih hq
    exact ⟨ps', g1, g2.trans (List.sublist_append_right _ _)⟩
  | @cons_cons l1 l2 x hs ih =>
    intro ps h
    obtain ⟨n, d⟩ := x
    obtain ⟨g, t, cs, fuel, p, q, h1, h2, h3, h4, hq, rfl⟩ := h
    obtain ⟨ps', g1, g2⟩ := ih hq
    exact ⟨_, ⟨g, t, cs, fuel, p, ps', h1, h2, h3, h4, g1, rfl⟩, List.Sublist.append (List.Sublist.refl _) g2⟩
theorem laidMet_sub {P : Program} {w : World} {l l' : List (String × DataW Unit)} (h : laidMet P l w) (hs : l'.Sublist l) : laidMet P l' w := by
  obtain ⟨ps, hv, hnd, hr⟩ := h
  obtain ⟨ps', g1, g2⟩ := laidVars_sub hs hv
  exact ⟨ps', g1, g2.nodup hnd, fun b off hm => hr b off (g2.subset hm)⟩
set_option maxRecDepth 100000 in
theorem start13 (os : Os) (args : Array Value) : laidMet Tryz.prog Rows.playParsesRow.laid ((startWorld os).forCall (fun _ _ => 0) ⟨#[], args, []⟩).memory :=
  laidMet_of_run' 8 (by kernel_rfl) (by kernel_rfl)
theorem sub9 : Rows.playRoundRow.laid.Sublist Rows.playParsesRow.laid :=
  .cons_cons _ (.cons_cons _ (.cons_cons _ (.cons_cons _ (.cons_cons _ (.cons_cons _ (.cons _ (.cons _ (.cons _ (.cons _ (.cons_cons _ (.cons_cons _ (.cons_cons _ .slnil))))))))))))
theorem sub11 : Rows.playReadsCallRow.laid.Sublist Rows.playParsesRow.laid :=
  .cons_cons _ (.cons_cons _ (.cons_cons _ (.cons_cons _ (.cons_cons _ (.cons_cons _ (.cons _ (.cons _ (.cons_cons _ (.cons_cons _ (.cons_cons _ (.cons_cons _ (.cons_cons _ .slnil))))))))))))
theorem plain9 (w : World) : laidMetH Tryz.prog Rows.playRoundRow.laid w = laidMet Tryz.prog Rows.playRoundRow.laid w := MakeChecks.laidMetH_plain _ _ _ (by kernel_rfl)
theorem plain11 (w : World) : laidMetH Tryz.prog Rows.playReadsCallRow.laid w = laidMet Tryz.prog Rows.playReadsCallRow.laid w := MakeChecks.laidMetH_plain _ _ _ (by kernel_rfl)
theorem plain13 (w : World) : laidMetH Tryz.prog Rows.playParsesRow.laid w = laidMet Tryz.prog Rows.playParsesRow.laid w := MakeChecks.laidMetH_plain _ _ _ (by kernel_rfl)
theorem start9H (os : Os) (args : Array Value) : laidMetH Tryz.prog Rows.playRoundRow.laid ((startWorld os).forCall (fun _ _ => 0) ⟨#[], args, []⟩).memory := by rw [plain9]; exact laidMet_sub (start13 os args) sub9
set_option maxRecDepth 100000 in
theorem startRef (os : Os) (args : Array Value) : ((startWorld os).forCall (fun _ _ => 0) ⟨#[], args, []⟩).variablesRefB Tryz.checked.prog = true := by kernel_rfl
set_option maxRecDepth 100000 in
theorem startRest (os : Os) (args : Array Value) : (((startWorld os).forCall (fun _ _ => 0) ⟨#[], args, []⟩).heap.toList.drop Tryz.checked.prog.globals.size).take ((begin Tryz.checked.prog (fun _ _ => 0) default).world.heap.size - Tryz.checked.prog.globals.size) =
      (begin Tryz.checked.prog (fun _ _ => 0) default).world.heap.toList.drop Tryz.checked.prog.globals.size := by kernel_rfl
end Go.Proofs.YthnhfddlmkhgkaaGreatDoor

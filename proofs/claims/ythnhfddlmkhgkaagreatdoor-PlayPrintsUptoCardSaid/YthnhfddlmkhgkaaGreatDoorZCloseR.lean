/- The document's tables out of the rows of the statements. -/
import Derived.Test.YthnhfddlmkhgkaaGreatDoorZEnvN
import Derived.Test.YthnhfddlmkhgkaaGreatDoorZRefAll
set_option linter.unusedVariables false
namespace Go.Proofs.YthnhfddlmkhgkaaGreatDoor
open Go.ChangeShapes Go.WideShapes Go.ChangeAt Go.WideMaps Go.WideElems Go.RowKit

/-- a row of texts, as the list of variables tells it -/
def colData {H : Type} (l : List Sp.Bs) : DataW H := .agg (l.map fun s => .lit (.string s))
theorem cells_of_col {w : World} {base : Nat} {sp : Nat → Bool} {held : Bool} {fuel : Nat} {t : TypeId} {n : Nat} {cs : List Value} {l : List Sp.Bs} {p : List MemPlace}
    (ht : Tryz.prog.underlying t = some (.array n 9)) (hct : Tryz.prog.cellsOf t = n)
    (h : DataW.trod (H := Unit) (fun _ => ()) Tryz.prog w base sp held fuel t cs = some (colData l, p)) : cs = l.map fun s => Value.string (str s) := by
  obtain ⟨xs, m, rfl, hx, hl, hn, hel⟩ := DataW.trod_array ht h
  rw [hct] at hl
  have hxs : xs.map (·.1) = l.map fun s => (DataW.lit (.string s) : DataW Unit) := by
    have := congrArg Prod.fst hx
    simpa [colData] using this.symm
  have hln : l.length = n := by
    have := congrArg List.length hxs
    simp at this
    omega
  refine List.ext_getElem (by rw [List.length_map]; omega) (fun i h1 h2 => ?_)
  have hi : i < n := by omega
  have he := hel i hi
  have hxi : xs[i]? = some (xs[i]'(by omega)) := List.getElem?_eq_getElem (by omega)
  rw [cells9, hxi] at he
  obtain ⟨⟨d, q⟩, hdq⟩ : ∃ y, y = xs[i]'(by omega) := ⟨_, rfl⟩
  rw [← hdq] at he
  obtain ⟨s0, c0, e0, _⟩ := DataW.trod_string Tryz.underlying9 he
  have hd : (xs.map (·.1))[i]? = (l.map fun s => (DataW.lit (.string s) : DataW Unit))[i]? := by rw [hxs]
  rw [List.getElem?_map, hxi, ← hdq, List.getElem?_map, List.getElem?_eq_getElem (show i < l.length by omega)] at hd
  rw [e0] at hd
  simp only [Option.map_some, Option.some.injEq, DataW.lit.injEq, Lit.string.injEq] at hd
  rw [List.getElem_map, ← str_of_list hd]
  rw [Nat.mul_one] at c0
  have h3 : (cs.drop i).take 1 = [cs[i]'h1] := by rw [List.drop_eq_getElem_cons h1]; rfl
  rw [h3] at c0
  injection c0
theorem col_of_laid {W : World} {n : String} {g : Nat} {t : TypeId} {k : Nat} {l : List Sp.Bs} {L : List (String × DataW Unit)} (hg : Tryz.prog.globalNamed n = some g) (hty : (Tryz.prog.globals[g]?).map (·.type) = some t)
    (ht : Tryz.prog.underlying t = some (.array k 9)) (hct : Tryz.prog.cellsOf t = k) (h : laidMet Tryz.prog L W) (hm : (n, colData l) ∈ L) : W.var? Tryz.prog n = some (colCells l) := by
  obtain ⟨ps, ⟨g', t', cs, fuel, p, q, hg', ht', hvar, hd, _, _⟩, _⟩ := laid_one h hm
  obtain rfl := Option.some.inj (hg.symm.trans hg')
  obtain rfl := Option.some.inj (hty.symm.trans ht')
  rw [hvar]
  obtain ⟨cl⟩ := cs
  rw [colCells, ← cells_of_col ht hct hd]
theorem tForms : (Tryz.prog.globals[1]?).map (·.type) = some 138 := by kernel_rfl
theorem tNames : (Tryz.prog.globals[2]?).map (·.type) = some 138 := by kernel_rfl
theorem tCForms : (Tryz.prog.globals[4]?).map (·.type) = some 155 := by kernel_rfl
theorem tCNames : (Tryz.prog.globals[5]?).map (·.type) = some 155 := by kernel_rfl
theorem cells138 : Tryz.prog.cellsOf 138 = 15 := by kernel_rfl
theorem cells155 : Tryz.prog.cellsOf 155 = 11 := by kernel_rfl
theorem dForms : (Rows.laid_annex_annexref21_forms : DataW Unit) = colData Sp.formsR := by kernel_rfl
theorem dNames : (Rows.laid_annex_annexref21_names : DataW Unit) = colData Sp.namesR := by kernel_rfl
theorem dCForms : (Rows.laid_annex_annexref21_callForms : DataW Unit) = colData Sp.cformsR := by kernel_rfl
theorem dCNames : (Rows.laid_annex_annexref21_callNames : DataW Unit) = colData Sp.cnamesR := by kernel_rfl
theorem envR11 {W : World} (hL : laidMetH Tryz.prog Rows.playReadsCallRow.laid W) (hS : W.ShapedOpen Tryz.prog) : EnvR W := by
  have he := env11 hL hS
  rw [plain11] at hL
  refine ⟨he, col_of_laid gCForms tCForms Tryz.underlying155 cells155 hL ?_, col_of_laid gCNames tCNames Tryz.underlying155 cells155 hL ?_⟩
  · rw [← dCForms]; exact .tail _ (.tail _ (.tail _ (.tail _ (.tail _ (.tail _ (.tail _ (.head _)))))))
  · rw [← dCNames]; exact .tail _ (.tail _ (.tail _ (.tail _ (.tail _ (.tail _ (.head _))))))
theorem envP13 {W : World} (hL : laidMetH Tryz.prog Rows.playParsesRow.laid W) (hS : W.ShapedOpen Tryz.prog) : EnvP W := by
  have he := env13 hL hS
  rw [plain13] at hL
  refine ⟨⟨he, col_of_laid gCForms tCForms Tryz.underlying155 cells155 hL ?_, col_of_laid gCNames tCNames Tryz.underlying155 cells155 hL ?_⟩, col_of_laid gForms tForms Tryz.underlying138 cells138 hL ?_, col_of_laid gNames tNames Tryz.underlying138 cells138 hL ?_⟩
  · rw [← dCForms]; exact .tail _ (.tail _ (.tail _ (.tail _ (.tail _ (.tail _ (.tail _ (.tail _ (.tail _ (.head _)))))))))
  · rw [← dCNames]; exact .tail _ (.tail _ (.tail _ (.tail _ (.tail _ (.tail _ (.tail _ (.tail _ (.head _))))))))
  · rw [← dForms]; exact .tail _ (.tail _ (.tail _ (.tail _ (.tail _ (.tail _ (.tail _ (.head _)))))))
  · rw [← dNames]; exact .tail _ (.tail _ (.tail _ (.tail _ (.tail _ (.tail _ (.head _))))))
end Go.Proofs.YthnhfddlmkhgkaaGreatDoor

/- What the statements' rows give the walks: the package-level variables, a first world, the end of a law. -/
import Derived.Test.YthnhfddlmkhgkaaGreatDoorCards
import Derived.Test.YthnhfddlmkhgkaaGreatDoorTie
import Derived.Test.YthnhfddlmkhgkaaGreatDoorZLibAll
import Derived.WalkKit
import Derived.ProofKit
import Derived.LaidMore
import Derived.OpenShut
import Derived.Deep.DeepHandedRow
import Derived.Deep.DeepWitnessRowRef
import Derived.Lib.LaidTab
import Derived.Stop.LaidErr
import Derived.Stop.Joined
import Derived.Shelf.Vars
import Derived.SevenTiedAt
import Derived.Carry
set_option linter.unusedVariables false
namespace Go.Proofs.YthnhfddlmkhgkaaGreatDoor
open Go.ChangeShapes Go.WideShapes Go.ChangeAt Go.WideMaps Go.WideElems Go.RowKit

theorem own : ownKnob Tryz.prog.godebug = none := by kernel_rfl
theorem star : "*" ++ "errors.errorString" = "*errors.errorString" := by decide
theorem row256 (u : TypeId) (h : Tryz.prog.typeName? 3 u = some "*errors.errorString") : u = 256 :=
  typeName_ptr_named (nm := "errors.errorString") (by rw [star]; kernel_rfl) (by kernel_rfl) (by decide) u (by rw [star]; exact h)
/-- one of the listed variables alone -/
theorem laid_head {P : Program} {x : String × DataW Unit} {r : List (String × DataW Unit)} {w : World} (h : laidMet P (x :: r) w) : laidMet P [x] w := by
  obtain ⟨ps, hv, hnd, hrows⟩ := h
  obtain ⟨n, d⟩ := x
  obtain ⟨g, t, cs, fuel, p, q, h1, h2, h3, h4, hq, rfl⟩ := hv
  refine ⟨_, ⟨g, t, cs, fuel, p, [], h1, h2, h3, h4, rfl, rfl⟩, ?_, fun b off hm => hrows b off ?_⟩
  · rw [List.append_nil]
    exact List.Nodup.sublist (List.sublist_append_left _ _) hnd
  · rw [List.append_nil] at hm
    exact List.mem_append_left _ hm
theorem laid_one {P : Program} {w : World} {n : String} {d : DataW Unit} : ∀ {l : List (String × DataW Unit)}, laidMet P l w → (n, d) ∈ l → laidMet P [(n, d)] w
  | x :: r, h, hm => by
    rcases List.mem_cons.1 hm with e | hm
    · rw [e]; exact laid_head h
    · exact laid_one h.tail hm
theorem tPow : (Tryz.prog.globals[7]?).map (·.type) = some 239 := by kernel_rfl
theorem tSyn : (Tryz.prog.globals[10]?).map (·.type) = some 193 := by kernel_rfl
theorem tRng : (Tryz.prog.globals[11]?).map (·.type) = some 193 := by kernel_rfl
theorem tSteps : (Tryz.prog.globals[0]?).map (·.type) = some 129 := by kernel_rfl
theorem tCalls : (Tryz.prog.globals[3]?).map (·.type) = some 148 := by kernel_rfl
theorem cells196 : Tryz.prog.cellsOf 196 = 1 := by kernel_rfl
theorem cells239 : Tryz.prog.cellsOf 239 = 20 := by kernel_rfl
theorem cells258 : Tryz.prog.cellsOf 258 = 1 := by kernel_rfl
theorem cells9 : Tryz.prog.cellsOf 9 = 1 := by kernel_rfl
theorem cells128 : Tryz.prog.cellsOf 128 = 2 := by kernel_rfl
theorem cells129 : Tryz.prog.cellsOf 129 = 30 := by kernel_rfl
theorem cells148 : Tryz.prog.cellsOf 148 = 22 := by kernel_rfl
/-- rows of two strings each, as the list of variables tells them -/
def rowsData {H : Type} (l : List (Sp.Bs × Sp.Bs)) : DataW H := .agg (l.map fun r => .agg [.lit (.string r.1), .lit (.string r.2)])
theorem str_of_list {s : ByteArray} {l : Sp.Bs} (h : s.data.toList = l) : s = str l := by subst h; exact (str_bl s).symm
theorem cells_of_rows {w : World} {base : Nat} {sp : Nat → Bool} {held : Bool} {fuel : Nat} {t : TypeId} {n : Nat} {cs : List Value} {l : List (Sp.Bs × Sp.Bs)} {p : List MemPlace}
    (ht : Tryz.prog.underlying t = some (.array n 128)) (hct : Tryz.prog.cellsOf t = n * 2)
    (h : DataW.trod (H := Unit) (fun _ => ()) Tryz.prog w base sp held fuel t cs = some (rowsData l, p)) : cs = l.flatMap fun r => [Value.string (str r.1), .string (str r.2)] := by
  obtain ⟨xs, m, rfl, hx, hl, hn, hel⟩ := DataW.trod_array ht h
  rw [hct] at hl
  have hxs : xs.map (·.1) = l.map fun r => (DataW.agg [.lit (.string r.1), .lit (.string r.2)] : DataW Unit) := by
    have := congrArg Prod.fst hx
    simpa [rowsData] using this.symm
  have hln : l.length = n := by
    have := congrArg List.length hxs
    simp at this
    omega
  have key : ∀ i, (hi : i < n) → ∃ r, l[i]? = some r ∧ (cs.drop (i * 2)).take 2 = [Value.string (str r.1), .string (str r.2)] := by
    intro i hi
    have he := hel i hi
    rw [cells128] at he
    have hxi : xs[i]? = some (xs[i]'(by omega)) := List.getElem?_eq_getElem (by omega)
    rw [hxi] at he
    obtain ⟨y0, y1, m2, hy, hl2, h0, h1⟩ := trod_struct2 Tryz.underlying128 he
    rw [cells9] at h0 h1
    obtain ⟨s0, c0, e0, _⟩ := DataW.trod_string Tryz.underlying9 h0
    obtain ⟨s1, c1, e1, _⟩ := DataW.trod_string Tryz.underlying9 h1
    have hr : l[i]? = some (l[i]'(by omega)) := List.getElem?_eq_getElem (by omega)
    refine ⟨_, hr, ?_⟩
    have hd : (xs.map (·.1))[i]? = some (DataW.agg [.lit (.string (l[i]'(by omega)).1), .lit (.string (l[i]'(by omega)).2)] : DataW Unit) := by
      rw [hxs, List.getElem?_map, hr]; rfl
    rw [List.getElem?_map, hxi, hy] at hd
    subst e0 e1
    simp only [Option.map_some, Option.some.injEq, DataW.agg.injEq, List.cons.injEq, DataW.lit.injEq, Lit.string.injEq, and_true] at hd
    rw [← str_of_list hd.1, ← str_of_list hd.2]
    rw [cells128] at hl2
    match hq : (cs.drop (i * 2)).take 2, hl2 with
    | [u, v], _ =>
      rw [hq] at c0 c1
      simp at c0 c1
      rw [c0, c1]
  have flat : ∀ (l : List (Sp.Bs × Sp.Bs)) (cs : List Value), cs.length = l.length * 2 → (∀ i, i < l.length → ∃ r, l[i]? = some r ∧ (cs.drop (i * 2)).take 2 = [Value.string (str r.1), .string (str r.2)]) → cs = l.flatMap fun r => [Value.string (str r.1), .string (str r.2)] := by
    intro l
    induction l with
    | nil => intro cs hc _; exact List.eq_nil_of_length_eq_zero (by simpa using hc)
    | cons r l ih =>
      intro cs hc hk
      obtain ⟨r0, e0, h0⟩ := hk 0 (by simp)
      simp at e0
      subst e0
      rw [List.drop_zero] at h0
      rw [List.flatMap_cons, ← h0]
      refine (List.take_append_drop 2 cs).symm.trans (congrArg (cs.take 2 ++ ·) ?_)
      refine ih (cs.drop 2) (by rw [List.length_drop, hc]; simp; omega) (fun i hi => ?_)
      obtain ⟨r1, e1, h1⟩ := hk (i + 1) (by simp only [List.length_cons]; omega)
      refine ⟨r1, by rw [List.getElem?_cons_succ] at e1; exact e1, ?_⟩
      have e2 : (i + 1) * 2 = 2 + i * 2 := by rw [Nat.add_mul, Nat.one_mul, Nat.add_comm]
      rw [e2] at h1
      rw [List.drop_drop]
      exact h1
  exact flat l cs (by rw [hln]; exact hl) (fun i hi => key i (by omega))
theorem rows_of_laid {W : World} {n : String} {g : Nat} {t : TypeId} {k : Nat} {l : List (Sp.Bs × Sp.Bs)} {L : List (String × DataW Unit)} (hg : Tryz.prog.globalNamed n = some g) (hty : (Tryz.prog.globals[g]?).map (·.type) = some t)
    (ht : Tryz.prog.underlying t = some (.array k 128)) (hct : Tryz.prog.cellsOf t = k * 2) (h : laidMet Tryz.prog L W) (hm : (n, rowsData l) ∈ L) : W.var? Tryz.prog n = some (rowCells l) := by
  obtain ⟨ps, ⟨g', t', cs, fuel, p, q, hg', ht', hvar, hd, _, _⟩, _⟩ := laid_one h hm
  obtain rfl := Option.some.inj (hg.symm.trans hg')
  obtain rfl := Option.some.inj (hty.symm.trans ht')
  rw [hvar]
  obtain ⟨cl⟩ := cs
  rw [rowCells, ← cells_of_rows ht hct hd]
theorem env_of {W : World} {L : List (String × DataW Unit)} (h : laidMet Tryz.prog L W) (hs : W.ShapedOpen Tryz.prog) (h1 : ("internal/strconv.uint64pow10", Go.Proofs.YthnhfddlmkhgkaaGreatDoor.Rows.laid_internal_strconv_uint64pow10) ∈ L) (h2 : ("strconv.ErrSyntax", Go.Proofs.YthnhfddlmkhgkaaGreatDoor.Rows.laid_strconv_ErrSyntax) ∈ L)
    (h3 : ("strconv.ErrRange", Go.Proofs.YthnhfddlmkhgkaaGreatDoor.Rows.laid_strconv_ErrRange) ∈ L) (h4 : ("annex/play.steps", Go.Proofs.YthnhfddlmkhgkaaGreatDoor.Rows.laid_annex_play_steps) ∈ L) (h5 : ("annex/play.calls", Go.Proofs.YthnhfddlmkhgkaaGreatDoor.Rows.laid_annex_play_calls) ∈ L) : Env W := by
  refine ⟨?_, ?_, ?_, ?_, ?_, ?_⟩
  · exact cell_of_shapedOpen_int (g := 6) (t := 3) (zero := #[.int .i64 0]) (k := .i64) hs (of_decide_eq_true (by kernel_rfl)) (by kernel_rfl) rfl (by kernel_rfl) (by kernel_rfl) Tryz.underlying3
  · exact Lib.tabIs_of_head (rest := []) gPow tPow Tryz.underlying239 Tryz.underlying196 cells196 cells239 (laid_one h h1)
  · obtain ⟨a, s, hv, _⟩ := laid_sentinel (laid_one h h2) gSyn tSyn Tryz.underlying193 row256 Tryz.underlying256 Tryz.underlying258 rfl rfl Tryz.underlying9 cells258 cells9
    exact ⟨_, _, hv⟩
  · obtain ⟨a, s, hv, _⟩ := laid_sentinel (laid_one h h3) gRng tRng Tryz.underlying193 row256 Tryz.underlying256 Tryz.underlying258 rfl rfl Tryz.underlying9 cells258 cells9
    exact ⟨_, _, hv⟩
  · exact rows_of_laid gSteps tSteps Tryz.underlying129 (by rw [cells129]) h h4
  · exact rows_of_laid gCalls tCalls Tryz.underlying148 (by rw [cells148]) h h5
end Go.Proofs.YthnhfddlmkhgkaaGreatDoor

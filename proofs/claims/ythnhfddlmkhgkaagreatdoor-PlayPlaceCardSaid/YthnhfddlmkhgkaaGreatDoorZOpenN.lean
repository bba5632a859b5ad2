/- Rows of bytes, of flags, of whole numbers out of the arguments, of any length. -/
import Derived.Test.YthnhfddlmkhgkaaGreatDoorZOpenP
set_option linter.unusedVariables false
namespace Go.Proofs.YthnhfddlmkhgkaaGreatDoor
open Go.ChangeShapes Go.WideShapes Go.ChangeAt Go.WideMaps Go.WideElems Go.RowKit Go.Proofs.YthnhfddlmkhgkaaGreatDoorW.PrintWords
section
variable {H : Type} {enc : TypeId × Value → H} {W : World} {fuel : Nat} {cs : List Value} {x : DataW H × List MemPlace}
theorem open_bytesN (h : DataW.trod enc Tryz.prog W 0 (fun _ => true) true fuel 45 cs = some x) :
    ∃ (A : Option Addr) (c : Nat) (l : Sp.Bs), cs = [.slice A l.length c] ∧ l.length ≤ c ∧ c ≤ maxLen ∧ ReadU W A l := by
  obtain ⟨A, c, l, rfl, h1, h2, h3, _, h4⟩ := open_slice (α := UInt8) Tryz.underlying45 cells5 (fun b cs => cs = [.int .u8 (b.toNat : Int)]) (fun _ => True) (fun m cs x hx _ => by
    obtain ⟨n, rfl, _, hw⟩ := DataW.trod_int Tryz.underlying5 hx
    have e1 : IntKind.u8.min = 0 := rfl
    have e2 : IntKind.u8.max = 255 := rfl
    have hr : 0 ≤ n ∧ n < 256 := by simp [Lit.wf] at hw; omega
    refine ⟨UInt8.ofNat n.toNat, ?_, trivial⟩
    rw [UInt8.toNat_ofNat']
    congr 2
    omega) h (Nat.le_refl _)
  have hm : maxLen ≤ 9223372036854775807 := by decide
  refine ⟨A, c, l, rfl, h1, h2, us_len l, by omega, fun h0 => ?_⟩
  obtain ⟨ad, rfl, hc⟩ := h4 (by simpa [us_len] using h0)
  refine ⟨ad, rfl, fun j p hj => ?_⟩
  simp only [us, List.getElem?_map, Option.map_eq_some_iff] at hj
  obtain ⟨b, hb, rfl⟩ := hj
  obtain ⟨cs2, q1, q2, q3⟩ := hc j b hb
  exact ⟨cs2, q1, q2, q3⟩
theorem open_flagsN (h : DataW.trod enc Tryz.prog W 0 (fun _ => true) true fuel 78 cs = some x) :
    ∃ (A : Option Addr) (c : Nat) (l : List Bool), cs = [.slice A l.length c] ∧ l.length ≤ c ∧ c ≤ maxLen ∧ ReadB W A l := by
  obtain ⟨A, c, l, rfl, h1, h2, h3, _, h4⟩ := open_slice (α := Bool) Tryz.underlying78 cells4 (fun b cs => cs = [.bool b]) (fun _ => True) (fun m cs x hx _ => by
    obtain ⟨b, rfl, _⟩ := DataW.trod_bool Tryz.underlying4 hx
    exact ⟨b, rfl, trivial⟩) h (Nat.le_refl _)
  have hm : maxLen ≤ 9223372036854775807 := by decide
  exact ⟨A, c, l, rfl, h1, h2, rfl, by omega, h4⟩
set_option maxRecDepth 100000 in
theorem slice_cells {t e : TypeId} {v : Value} {base : Nat} (hu : Tryz.prog.underlying t = some (.slice e)) (hval : Value.okWide Tryz.prog W .any base t v) : v.cells.toList = [v] := by
  obtain ⟨a, n, c, rfl, _⟩ := okWide_slice hu hval
  rfl
set_option maxRecDepth 100000 in
theorem open_bytesV {v : Value} {d : DataW H} {ps : List MemPlace} {base : Nat} (hval : Value.okWide Tryz.prog W .any base 45 v) (h : DataW.Trod enc Tryz.prog W 0 (fun _ => true) true 45 v d ps) :
    ∃ (A : Option Addr) (c : Nat) (l : Sp.Bs), v = .slice A l.length c ∧ l.length ≤ c ∧ c ≤ maxLen ∧ ReadU W A l := by
  obtain ⟨n, hn⟩ := h
  obtain ⟨A, c, l, e, h1, h2, h3⟩ := open_bytesN hn
  rw [slice_cells Tryz.underlying45 hval] at e
  injection e with e _
  exact ⟨A, c, l, e, h1, h2, h3⟩
set_option maxRecDepth 100000 in
theorem open_flagsV {v : Value} {d : DataW H} {ps : List MemPlace} {base : Nat} (hval : Value.okWide Tryz.prog W .any base 78 v) (h : DataW.Trod enc Tryz.prog W 0 (fun _ => true) true 78 v d ps) :
    ∃ (A : Option Addr) (c : Nat) (l : List Bool), v = .slice A l.length c ∧ l.length ≤ c ∧ c ≤ maxLen ∧ ReadB W A l := by
  obtain ⟨n, hn⟩ := h
  obtain ⟨A, c, l, e, h1, h2, h3⟩ := open_flagsN hn
  rw [slice_cells Tryz.underlying78 hval] at e
  injection e with e _
  exact ⟨A, c, l, e, h1, h2, h3⟩
theorem open_intsN (h : DataW.trod enc Tryz.prog W 0 (fun _ => true) true fuel 44 cs = some x) :
    ∃ (A : Option Addr) (c : Nat) (l : List Int), cs = [.slice A l.length c] ∧ l.length ≤ c ∧ c ≤ maxLen ∧ (Kd.int .i64).C W A l.length l := by
  obtain ⟨A, c, l, rfl, h1, h2, h3, _, h4⟩ := open_slice (α := Int) Tryz.underlying44 cells3 (fun b cs => cs = [.int .i64 b]) (fun _ => True) (fun m cs x hx _ => by
    obtain ⟨n, rfl, _, _⟩ := DataW.trod_int Tryz.underlying3 hx
    exact ⟨n, rfl, trivial⟩) h (Nat.le_refl _)
  have hm : maxLen ≤ 9223372036854775807 := by decide
  exact ⟨A, c, l, rfl, h1, h2, rfl, by omega, h4⟩
set_option maxRecDepth 100000 in
theorem open_intsV {v : Value} {d : DataW H} {ps : List MemPlace} {base : Nat} (hval : Value.okWide Tryz.prog W .any base 44 v) (h : DataW.Trod enc Tryz.prog W 0 (fun _ => true) true 44 v d ps) :
    ∃ (A : Option Addr) (c : Nat) (l : List Int), v = .slice A l.length c ∧ l.length ≤ c ∧ c ≤ maxLen ∧ (Kd.int .i64).C W A l.length l := by
  obtain ⟨n, hn⟩ := h
  obtain ⟨A, c, l, e, h1, h2, h3⟩ := open_intsN hn
  rw [slice_cells Tryz.underlying44 hval] at e
  injection e with e _
  exact ⟨A, c, l, e, h1, h2, h3⟩
end
end Go.Proofs.YthnhfddlmkhgkaaGreatDoor

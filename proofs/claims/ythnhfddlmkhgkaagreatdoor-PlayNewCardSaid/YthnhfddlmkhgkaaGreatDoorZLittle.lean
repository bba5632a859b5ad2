/- Walks: what some functions of the play package and its laws compute, as contracts. -/
import Derived.Test.YthnhfddlmkhgkaaGreatDoorZBounds
set_option linter.unusedVariables false
namespace Go.Proofs.YthnhfddlmkhgkaaGreatDoor
open Go.RowKit Go.Proofs.YthnhfddlmkhgkaaGreatDoorW.PrintWords

theorem row3_cells {w : World} {g : Nat} {l0 l1 l2 : List Value} {t : TypeId} {fr : Nat × Nat} (h : w.heap[g]? = some (.cells (l0 ++ l1 ++ l2).toArray t fr)) (e0 : l0.length = 16) (e1 : l1.length = 16) (e2 : l2.length = 16) :
    (∀ (j : Nat) (v : Value), l0[j]? = some v → w.cell? ((⟨g, 0, none⟩ : Addr).add (0 * 16 + j)) = some v) ∧ (∀ (j : Nat) (v : Value), l1[j]? = some v → w.cell? ((⟨g, 0, none⟩ : Addr).add (1 * 16 + j)) = some v) ∧ (∀ (j : Nat) (v : Value), l2[j]? = some v → w.cell? ((⟨g, 0, none⟩ : Addr).add (2 * 16 + j)) = some v) := by
  refine ⟨fun j v hj => row_cells h _ v ?_, fun j v hj => row_cells h _ v ?_, fun j v hj => row_cells h _ v ?_⟩
  · have hl : j < l0.length := (List.getElem?_eq_some_iff.1 hj).1
    rw [List.append_assoc, List.getElem?_append_left (by omega)]
    simpa using hj
  · have hl : j < l1.length := (List.getElem?_eq_some_iff.1 hj).1
    rw [List.append_assoc, List.getElem?_append_right (by omega), List.getElem?_append_left (by omega), show 1 * 16 + j - l0.length = j by omega]
    exact hj
  · have hl : j < l2.length := (List.getElem?_eq_some_iff.1 hj).1
    rw [List.getElem?_append_right (by simp; omega), show 2 * 16 + j - (l0 ++ l1).length = j by simp; omega]
    exact hj
def lop0 : Sp.Op := { kind := 1, a := 1, call := { op := 9, name := [97], name2 := [98, 32, 99] } }
def lop1 : Sp.Op := { kind := 9, a := -1 }
def lop2 : Sp.Op := { kind := 11, keep := [false, true] }
theorem readU_nil (w : World) : ReadU w none [] := ⟨rfl, by simp, fun h => absurd h (by simp)⟩
theorem readB_nil (w : World) : ReadB w none [] := ⟨rfl, by simp, fun h => absurd h (by simp)⟩
/-- the little play, as it lies -/
theorem little_reads {w : World} {g k : Nat} (hk : w.heap[k]? = some (.cells #[.bool false, .bool true] 4 (0, 0)))
    (hg : w.heap[g]? = some (.cells (opCells lop0 (.slice none 0 0) (.slice none 0 0) (.slice none 0 0) ++ opCells lop1 (.slice none 0 0) (.slice none 0 0) (.slice none 0 0) ++ opCells lop2 (.slice none 0 0) (.slice none 0 0) (.slice (some ⟨k, 0, none⟩) 2 2)).toArray 80 (0, 0))) :
    ReadO w (some ⟨g, 0, none⟩) Sp.little.ops := by
  obtain ⟨c0, c1, c2⟩ := row3_cells hg rfl rfl rfl
  have hb : OB w 0 (.slice (some ⟨k, 0, none⟩) 2 2) [false, true] := .inr ⟨k, #[.bool false, .bool true], (0, 0), rfl, Nat.zero_le _, row_lt hk, hk, fun i hi => by simp, by simp [encs], by simp [maxLen], by simp [encs]⟩
  obtain ⟨A, c, e, _, r⟩ := OB.reads hb
  injection e with e _ _
  subst e
  refine ⟨rfl, by decide, fun _ => ⟨_, rfl, fun j p hj => ?_⟩⟩
  match j, hj with
  | 0, hj =>
    injection hj with hj
    subst hj
    exact ⟨_, rfl, ko_mk w lop0 (c1 := 0) (c2 := 0) (c3 := 0) (Nat.le_refl _) (readU_nil w) (Nat.le_refl _) (readU_nil w) (Nat.le_refl _) (readB_nil w), c0⟩
  | 1, hj =>
    injection hj with hj
    subst hj
    exact ⟨_, rfl, ko_mk w lop1 (c1 := 0) (c2 := 0) (c3 := 0) (Nat.le_refl _) (readU_nil w) (Nat.le_refl _) (readU_nil w) (Nat.le_refl _) (readB_nil w), c1⟩
  | 2, hj =>
    injection hj with hj
    subst hj
    exact ⟨_, rfl, ko_mk w lop2 (c1 := 0) (c2 := 0) (c3 := 2) (Nat.le_refl _) (readU_nil w) (Nat.le_refl _) (readU_nil w) (Nat.le_refl _) r, c2⟩
  | n + 3, hj => simp [Sp.little] at hj
theorem little_B : PlayB Sp.little := by
  refine ⟨fun x hx => ?_, fun o ho => ?_⟩
  · have : ∀ x ∈ Sp.little.nums, -9223372036854775808 ≤ x ∧ x ≤ 9223372036854775807 := by decide
    exact this x hx
  · simp only [Sp.little, List.mem_cons, List.not_mem_nil, or_false] at ho
    rcases ho with rfl | rfl | rfl
    all_goals (constructor <;> first | (unfold i64; decide) | decide | (constructor <;> first | (unfold i64; decide) | decide))
theorem little_V {w : World} {g k : Nat} (hk : w.heap[k]? = some (.cells #[.bool false, .bool true] 4 (0, 0)))
    (hg : w.heap[g]? = some (.cells (opCells lop0 (.slice none 0 0) (.slice none 0 0) (.slice none 0 0) ++ opCells lop1 (.slice none 0 0) (.slice none 0 0) (.slice none 0 0) ++ opCells lop2 (.slice none 0 0) (.slice none 0 0) (.slice (some ⟨k, 0, none⟩) 2 2)).toArray 80 (0, 0))) :
    PlayV w Sp.little (.slice (some ⟨g, 0, none⟩) 3 3) :=
  ⟨rfl, _, 3, rfl, little_reads hk hg, by decide, fun o ho => ⟨by have := (little_B.ops o ho).data; omega, by have := (little_B.ops o ho).keep; omega, by have := (little_B.ops o ho).call.data; omega⟩⟩
set_option maxHeartbeats 4000000 in
set_option maxRecDepth 100000 in
theorem little_any (w : World) : Calls Tryz.prog 45 #[] w (fun e w' => ∃ v, e = .returned (.tuple #[.agg (playCells Sp.little.nums v).toArray, .string (str Sp.littleT)]) ∧ PlayV w' Sp.little v ∧ Below w.heap.size w w') := by
  go_enter Tryz.func45, Tryz.ntmps45
  go_wp2
  generalize ho1 : Obj.cells #[Value.int IntKind.i64 2, Value.int IntKind.i64 4, Value.int IntKind.i64 4, Value.int IntKind.i64 16, Value.int IntKind.i64 32, Value.int IntKind.i64 8192, Value.int IntKind.i64 200, Value.int IntKind.i64 40, Value.int IntKind.i64 2, Value.int IntKind.i64 8, Value.int IntKind.i64 64, Value.slice (some { block := w.heap.size + 1 + 1 + 1, off := 0 }) 3 3] 28 = o1
  generalize ho2 : Obj.cells #[Value.bool false, Value.bool true] 4 = o2
  obtain ⟨o3, ho3⟩ : ∃ o3, o3 = Obj.cells (opCells lop0 (.slice none 0 0) (.slice none 0 0) (.slice none 0 0) ++ opCells lop1 (.slice none 0 0) (.slice none 0 0) (.slice none 0 0) ++ opCells lop2 (.slice none 0 0) (.slice none 0 0) (.slice (some ⟨w.heap.size + 1 + 1, 0, none⟩) 2 2)).toArray 80 := ⟨_, rfl⟩
  change bodyPost Tryz.prog Tryz.f45 _ _ _ ((((w.alloc o1).alloc o1).alloc o2).alloc (Obj.cells (opCells lop0 (.slice none 0 0) (.slice none 0 0) (.slice none 0 0) ++ opCells lop1 (.slice none 0 0) (.slice none 0 0) (.slice none 0 0) ++ opCells lop2 (.slice none 0 0) (.slice none 0 0) (.slice (some ⟨w.heap.size + 1 + 1, 0, none⟩) 2 2)).toArray 80))
  rw [← ho3]
  have s1 : (w.alloc o1).heap.size = w.heap.size + 1 := World.size_alloc _ _
  have s2 : ((w.alloc o1).alloc o1).heap.size = w.heap.size + 1 + 1 := by rw [World.size_alloc, s1]
  have s3 : (((w.alloc o1).alloc o1).alloc o2).heap.size = w.heap.size + 1 + 1 + 1 := by rw [World.size_alloc, s2]
  obtain ⟨W, hW⟩ : ∃ W, W = (((w.alloc o1).alloc o1).alloc o2).alloc o3 := ⟨_, rfl⟩
  have hB : Below w.heap.size w W := by rw [hW]; exact ((((Below.refl _ _).alloc (Nat.le_refl _) _).alloc (by omega) _).alloc (by omega) _).alloc (by omega) _
  have h0 : W.heap[w.heap.size]? = some o1 := by
    rw [hW, heap_alloc_old _ _ (by omega), heap_alloc_old _ _ (by omega), heap_alloc_old _ _ (by omega), heap_alloc_new]
  have h2 : W.heap[w.heap.size + 1 + 1]? = some o2 := by
    rw [hW, heap_alloc_old _ _ (by omega), ← s2, heap_alloc_new]
  have h3 : W.heap[w.heap.size + 1 + 1 + 1]? = some o3 := by
    rw [hW, ← s3, heap_alloc_new]
  rw [← hW]
  rw [← ho2] at h2
  rw [ho3] at h3
  rw [← ho1] at h0
  have hV := little_V h2 h3
  refine bodyPost_ret (results_ct rfl _ _ w.heap.size 28 (playCells Sp.little.nums (.slice (some ⟨w.heap.size + 1 + 1 + 1, 0, none⟩) 3 3)).toArray (0, 0) _ rfl h0 Tryz.underlying28 rfl (by kernel_rfl)) rfl ?_
  exact ⟨_, rfl, hV, hB⟩
end Go.Proofs.YthnhfddlmkhgkaaGreatDoor

/- Walks: what some functions of the play package and its laws compute, as contracts. -/
import Derived.Test.YthnhfddlmkhgkaaGreatDoorZRefH
set_option linter.unusedVariables false
namespace Go.Proofs.YthnhfddlmkhgkaaGreatDoor
open Go.RowKit Go.Proofs.YthnhfddlmkhgkaaGreatDoorW.PrintWords
namespace Sp
theorem step_eq (w0 : Bs) (r : List Bs) : step (w0 :: r) =
    if findRow stepRows w0 = 0 then ({}, 212)
    else if findRow stepRows w0 = 1 then
      if r.length < 2 then ({}, 215)
      else if (shaped (r.drop 1)).2 ≠ 0 then ({}, (shaped (r.drop 1)).2)
      else fillStep (shaped (r.drop 1)).1 (stepRows.getD (findRow stepRows w0) ([], [])).2 r { kind := findRow stepRows w0 } 0
    else if r.length ≠ (stepRows.getD (findRow stepRows w0) ([], [])).2.length then ({}, 215)
    else fillStep 0 (stepRows.getD (findRow stepRows w0) ([], [])).2 r { kind := findRow stepRows w0 } 0 := rfl
theorem fill_call (op : Nat) (w1 w2 : Bs) (r2 : List Bs) : fillStep op [97, 99] (w1 :: w2 :: r2) { kind := 1 } 0 =
    if (callR op (w2 :: r2)).2 = true ∧ 0 ≤ numR w1 then ({ kind := 1, a := numR w1, call := (callR op (w2 :: r2)).1 }, 0) else ({}, 213) := by
  have h1 : fillStep op [97, 99] (w1 :: w2 :: r2) { kind := 1 } 0 = match number w1 with | some x => fillStep op [99] (w2 :: r2) { kind := 1, a := x } 0 | none => ({}, 213) := by
    conv => lhs; unfold fillStep
    rw [if_neg (by decide), if_neg (by decide), if_neg (by decide), if_neg (fun h => absurd h.1 (by decide))]
    rfl
  have h2 : ∀ o, fillStep op [99] (w2 :: r2) o 0 = if (call op (w2 :: r2)).2 = 0 then ({ o with call := (call op (w2 :: r2)).1 }, 0) else ({}, (call op (w2 :: r2)).2) := fun o => by
    conv => lhs; unfold fillStep
    rw [if_pos rfl]
    rfl
  rw [h1]
  by_cases h : 0 ≤ numR w1
  · rw [numR_some h]
    simp only [h2]
    rw [callR_call]
    cases hc : (callR op (w2 :: r2)).2 with
    | true => simp [h]
    | false => simp
  · rw [numR_none h, if_neg (fun q => h q.2)]
theorem fill_late : ∀ (ls : Bs) (ws : List Bs) (o o' : Op) (late : Nat), late ≠ 0 → (∀ l ∈ ls, l ≠ 99) → fillStep 0 ls ws o late = fillStep 0 ls ws o' late
  | [], ws, o, o', late, h, _ => by unfold fillStep; simp [h]
  | l :: ls, [], o, o', late, h, _ => by unfold fillStep; simp [h]
  | l :: ls, w :: ws, o, o', late, h, hl => by
    have h99 := hl l List.mem_cons_self
    have ih := fun (a b : Op) (t : Nat) (ht : t ≠ 0) => fill_late ls ws a b t ht (fun x hx => hl x (List.mem_cons_of_mem _ hx))
    unfold fillStep
    rw [if_neg h99, if_neg h99]
    split
    · split
      · exact ih _ _ _ h
      · exact ih _ _ _ (by decide)
    · split
      · split
        · exact ih _ _ _ h
        · rfl
      · split
        · exact ih _ _ _ h
        · rfl
/-- one letter of a step, by the document's set -/
theorem fill_set {l : UInt8} {ls : Bs} {w : Bs} {ws : List Bs} {o : Op} {late : Nat} (hl : l ≠ 99) (hls : ∀ x ∈ ls, x ≠ 99) :
    fillStep 0 (l :: ls) (w :: ws) o late = if (setR o l w).2 = 217 then fillStep 0 ls ws o 217 else if (setR o l w).2 ≠ 0 then ({}, (setR o l w).2) else fillStep 0 ls ws (setR o l w).1 late := by
  conv => lhs; unfold fillStep
  rw [if_neg hl]
  unfold setR
  by_cases h1 : l = 100
  · rw [if_pos h1, if_pos h1]
    cases hex w with
    | some d => simp
    | none => simp only [if_true]; exact fill_late ls ws _ _ 217 (by decide) hls
  · rw [if_neg h1, if_neg h1]
    by_cases h2 : l = 98
    · rw [if_pos h2, if_pos h2]
      cases flags w with
      | some d => simp
      | none => simp
    · rw [if_neg h2, if_neg h2]
      cases hq : (if l = 106 ∧ w = server then some (-1) else number w) with
      | some x => simp
      | none => simp
end Sp
theorem step_letters : ∀ k, k < 15 → k ≠ 1 → ∀ l ∈ (Sp.stepRows.getD k ([], [])).2, l = 97 ∨ l = 107 ∨ l = 109 ∨ l = 120 ∨ l = 106 ∨ l = 100 ∨ l = 98 := by decide
theorem form_tr : ∀ k, k < 15 → k ≠ 1 → Sp.formsR.getD k [] = (Sp.stepRows.getD k ([], [])).2.map Sp.trS := by decide
theorem form_len : ∀ k, k < 15 → (Sp.stepRows.getD k ([], [])).2.length ≤ 4 := by decide
theorem row_one : Sp.stepRows.getD 1 ([], []) = ([99, 97, 108, 108], [97, 99]) := by decide
theorem ORow.raise {e : TypeId} {w : World} {base b2 : Nat} {v : Value} {vs : List Value} (h : ORow e w base v vs) (hb : ∀ k, v.ownBlock = some k → b2 ≤ k) : ORow e w b2 v vs := by
  rcases h with h | ⟨g, cells, fr, rfl, h1, h2⟩
  · exact .inl h
  · exact .inr ⟨g, cells, fr, rfl, hb g rfl, h2⟩
theorem OpRows.raise {w : World} {base b2 : Nat} {o : Sp.Op} {v1 v2 v3 : Value} (h : OpRows w base o v1 v2 v3) (hb : ∀ k, v1.ownBlock = some k ∨ v2.ownBlock = some k ∨ v3.ownBlock = some k → b2 ≤ k) : OpRows w b2 o v1 v2 v3 :=
  ⟨h.1.raise fun k hk => hb k (.inl hk), h.2.1.raise fun k hk => hb k (.inr (.inl hk)), h.2.2.1.raise fun k hk => hb k (.inr (.inr hk)), h.2.2.2⟩
theorem below_al (w : World) (o : Obj) : Below w.heap.size w (w.alloc o) := (Below.refl _ _).alloc (Nat.le_refl _) o
theorem below_call {B : Nat} {w X w1 : World} (h : Below B w X) (hb : Below X.heap.size X w1) (hB : B ≤ w.heap.size) : Below B w w1 := h.trans (hb.mono (Nat.le_trans hB h.size))
def nilRow (n : Nat) : Array Value := (opCells { kind := n } (.slice none 0 0) (.slice none 0 0) (.slice none 0 0)).toArray
def SetV (base : Nat) (r : Sp.Op × Nat) (w : World) (e : Ending) (w' : World) : Prop :=
  ∃ CS v1 v2 v3, e = .returned (.tuple #[.agg CS, .int .i64 (r.2 : Int)]) ∧ Hid (CS = (opCells r.1 v1 v2 v3).toArray) ∧ CS.size = 16 ∧ CS.all (·.oneCell') = true ∧ OpRows w' base r.1 v1 v2 v3 ∧ Below w.heap.size w w'
theorem setV_of {base : Nat} {r : Sp.Op × Nat} {w : World} {args : Array Value} (h : Calls Tryz.prog 86 args w (SetPost base r w)) : Calls Tryz.prog 86 args w (SetV base r w) := by
  refine h.mono ?_
  rintro e w1 ⟨v1, v2, v3, rfl, hr, hb⟩
  exact ⟨_, v1, v2, v3, rfl, Lib.hid rfl, rfl, op_one _ hr.1.one hr.2.1.one hr.2.2.1.one, hr, hb⟩
theorem below_al2 {w X : World} (h : Below w.heap.size w X) (o : Obj) : Below w.heap.size w (X.alloc o) := h.alloc h.size o
theorem below_step {w X w1 : World} (h : Below w.heap.size w X) (hb : Below X.heap.size X w1) : Below w.heap.size w w1 := h.trans (hb.mono h.size)
theorem op_cells16 {w : World} {g : Nat} {o : Sp.Op} {v1 v2 v3 : Value} (h : w.heap[g]? = some (.cells (opCells o v1 v2 v3).toArray 80 (0, 0))) : w.cell? ⟨g, 0, none⟩ = some (.int .i64 o.kind) ∧ w.cell? ⟨g, 1, none⟩ = some (.int .i64 o.a) ∧ w.cell? ⟨g, 2, none⟩ = some (.int .i64 o.k) ∧ w.cell? ⟨g, 3, none⟩ = some (.int .i64 o.m) ∧ w.cell? ⟨g, 4, none⟩ = some (.int .i64 o.x) ∧ w.cell? ⟨g, 5, none⟩ = some (.int .i64 o.call.op) ∧ w.cell? ⟨g, 6, none⟩ = some (.int .i64 o.call.h) ∧ w.cell? ⟨g, 7, none⟩ = some (.int .i64 o.call.h2) ∧ w.cell? ⟨g, 8, none⟩ = some (.int .i64 o.call.off) ∧ w.cell? ⟨g, 9, none⟩ = some (.int .i64 o.call.len) ∧ w.cell? ⟨g, 10, none⟩ = some (.string (str o.call.path)) ∧ w.cell? ⟨g, 11, none⟩ = some (.string (str o.call.name)) ∧ w.cell? ⟨g, 12, none⟩ = some (.string (str o.call.name2)) ∧ w.cell? ⟨g, 13, none⟩ = some (v1) ∧ w.cell? ⟨g, 14, none⟩ = some (v2) ∧ w.cell? ⟨g, 15, none⟩ = some (v3) := by
  refine ⟨?_, ?_, ?_, ?_, ?_, ?_, ?_, ?_, ?_, ?_, ?_, ?_, ?_, ?_, ?_, ?_⟩ <;> (rw [cell_of_row _ _ _ _ _ _ h]; rfl)
theorem zero_cells32 {w : World} {g : Nat} (h : ZeroOp w g) : w.cell? ⟨g, 0, none⟩ = some (.int .i64 0) ∧ w.cell? ⟨g, 1, none⟩ = some (.int .i64 0) ∧ w.cell? ⟨g, 2, none⟩ = some (.int .i64 0) ∧ w.cell? ⟨g, 3, none⟩ = some (.int .i64 0) ∧ w.cell? ⟨g, 4, none⟩ = some (.int .i64 0) ∧ w.cell? ⟨g, 5, none⟩ = some (.int .i64 0) ∧ w.cell? ⟨g, 6, none⟩ = some (.int .i64 0) ∧ w.cell? ⟨g, 7, none⟩ = some (.int .i64 0) ∧ w.cell? ⟨g, 8, none⟩ = some (.int .i64 0) ∧ w.cell? ⟨g, 9, none⟩ = some (.int .i64 0) ∧ w.cell? ⟨g, 10, none⟩ = some (.string ⟨#[]⟩) ∧ w.cell? ⟨g, 11, none⟩ = some (.string ⟨#[]⟩) ∧ w.cell? ⟨g, 12, none⟩ = some (.string ⟨#[]⟩) ∧ w.cell? ⟨g, 13, none⟩ = some (.slice none 0 0) ∧ w.cell? ⟨g, 14, none⟩ = some (.slice none 0 0) ∧ w.cell? ⟨g, 15, none⟩ = some (.slice none 0 0) ∧ w.frozen? ⟨g, 0, none⟩ = false ∧ w.frozen? ⟨g, 1, none⟩ = false ∧ w.frozen? ⟨g, 2, none⟩ = false ∧ w.frozen? ⟨g, 3, none⟩ = false ∧ w.frozen? ⟨g, 4, none⟩ = false ∧ w.frozen? ⟨g, 5, none⟩ = false ∧ w.frozen? ⟨g, 6, none⟩ = false ∧ w.frozen? ⟨g, 7, none⟩ = false ∧ w.frozen? ⟨g, 8, none⟩ = false ∧ w.frozen? ⟨g, 9, none⟩ = false ∧ w.frozen? ⟨g, 10, none⟩ = false ∧ w.frozen? ⟨g, 11, none⟩ = false ∧ w.frozen? ⟨g, 12, none⟩ = false ∧ w.frozen? ⟨g, 13, none⟩ = false ∧ w.frozen? ⟨g, 14, none⟩ = false ∧ w.frozen? ⟨g, 15, none⟩ = false := by
  refine ⟨?_, ?_, ?_, ?_, ?_, ?_, ?_, ?_, ?_, ?_, ?_, ?_, ?_, ?_, ?_, ?_, row_frozen h _, row_frozen h _, row_frozen h _, row_frozen h _, row_frozen h _, row_frozen h _, row_frozen h _, row_frozen h _, row_frozen h _, row_frozen h _, row_frozen h _, row_frozen h _, row_frozen h _, row_frozen h _, row_frozen h _, row_frozen h _⟩ <;> (rw [cell_of_row _ _ _ _ _ _ h]; rfl)
theorem zero_kept {X : World} {w2 : World} {g : Nat} (hg : g = X.heap.size) (hb : Below (X.alloc (.cells (opCells {} (.slice none 0 0) (.slice none 0 0) (.slice none 0 0)).toArray 80)).drew.heap.size (X.alloc (.cells (opCells {} (.slice none 0 0) (.slice none 0 0) (.slice none 0 0)).toArray 80)).drew w2) : ZeroOp w2 g := by
  subst hg
  have h1 := heap_alloc_new X (.cells (opCells {} (.slice none 0 0) (.slice none 0 0) (.slice none 0 0)).toArray 80)
  exact (hb.block _ (row_lt h1)).trans h1
/-- a step's word as it is set, in a block of its own -/
def SetAt (w wx : World) (base g12 : Nat) (r : Sp.Op × Nat) : Prop := ∃ v1 v2 v3, wx.heap[g12]? = some (.cells (opCells r.1 v1 v2 v3).toArray 80 (0, 0)) ∧ OpRows wx base r.1 v1 v2 v3 ∧ Below w.heap.size w wx ∧ w.heap.size ≤ g12
theorem op_there {w : World} {g : Nat} {o : Sp.Op} (h : w.heap[g]? = some (.cells (opCells o (.slice none 0 0) (.slice none 0 0) (.slice none 0 0)).toArray 80 (0, 0))) (h0 : o.call.data = [] ∧ o.data = [] ∧ o.keep = [] := by exact ⟨rfl, rfl, rfl⟩) : OpAt w 0 g o :=
  ⟨_, _, _, h, OpRows.zero _ _ _ h0, fun k hk => by simp [Value.ownBlock] at hk⟩
theorem store_zero {w : World} {g : Nat} (h : ZeroOp w g) (vs : List Value) (hl : vs.length = 16) (h1 : vs.all (·.oneCell') = true) : (storeCells ⟨g, 0, none⟩ vs 0).run Tryz.prog w = .ok () (w.setCells g 0 vs) := by
  have ht := (op_there h).there 0 16 (by omega)
  have := run_storeCells_cells (P := Tryz.prog) g 0 vs 0 w (fun j hj => by simpa using (ht j (by omega)).1) (fun j hj => by simpa using (ht j (by omega)).2) (fun v hv => (List.all_eq_true.1 h1) v hv)
  simpa using this
theorem store_zero2 {w : World} {g : Nat} (h : ZeroOp w g) (vs : List Value) (hl : vs.length = 16) (h1 : vs.all (·.oneCell') = true) : (Instr.storeAt 80 (.pointer (some ⟨g, 0, none⟩)) (.agg vs.toArray)).run Tryz.prog w = .ok () (w.setCells g 0 vs) := by
  refine run_storeAt_mid w g 0 80 vs.toArray ?_ ?_ ?_
  · rw [List.size_toArray, hl]; exact (op_there h).there 0 16 (by omega)
  · rw [List.size_toArray, hl]; kernel_rfl
  · rw [List.all_toArray]; exact h1
theorem store_zero3 {w : World} {g : Nat} (h : ZeroOp w g) (cs : Array Value) (hl : cs.size = 16) (h1 : cs.all (·.oneCell') = true) : (Instr.storeAt 80 (.pointer (some ⟨g, 0, none⟩)) (.agg cs)).run Tryz.prog w = .ok () (w.setCells g 0 cs.toList) :=
  run_storeAt_mid w g 0 80 cs (by rw [hl]; exact (op_there h).there 0 16 (by omega)) (by rw [hl]; kernel_rfl) h1
theorem store_zero4 {w : World} {g : Nat} (h : ZeroOp w g) (cs : Array Value) (hl : cs.size = 16) (h1 : cs.all (·.oneCell') = true) : (storeCells ⟨g, 0, none⟩ cs.toList 0).run Tryz.prog w = .ok () (w.setCells g 0 cs.toList) := by
  have hl2 : cs.toList.length = 16 := by rw [Array.length_toList, hl]
  have ht := (op_there h).there 0 16 (by omega)
  have := run_storeCells_cells (P := Tryz.prog) g 0 cs.toList 0 w (fun j hj => by simpa using (ht j (by omega)).1) (fun j hj => by simpa using (ht j (by omega)).2) (fun v hv => (Array.all_eq_true_iff_forall_mem.1 h1) v (by simpa using hv))
  simpa using this
theorem setFrom_zero (x : Sp.Op) (u1 u2 u3 : Value) : setFrom (opCells {} (.slice none 0 0) (.slice none 0 0) (.slice none 0 0)).toArray 0 (opCells x u1 u2 u3) = (opCells x u1 u2 u3).toArray := by
  simp [setFrom, opCells]
theorem set_at1 {wr w2 : World} {CS : Array Value} {base : Nat} {r : Sp.Op × Nat} {u1 u2 u3 : Value} (hcs : CS = (opCells r.1 u1 u2 u3).toArray) (hrs : OpRows w2 base r.1 u1 u2 u3) (hb2 : Below wr.drew.heap.size wr.drew w2) : SetAt wr (w2.alloc (.cells CS 80)) base w2.heap.size r := by
  subst hcs
  have hb : Below wr.heap.size wr w2 := ((Below.refl _ _).drew).trans hb2
  exact ⟨u1, u2, u3, heap_alloc_new _ _, hrs.below (below_al _ _), below_al2 hb _, hb.size⟩
theorem set_at2 {wr w2 : World} {CS : Array Value} {base : Nat} {r : Sp.Op × Nat} {u1 u2 u3 : Value} (hcs : CS = (opCells r.1 u1 u2 u3).toArray) (hrs : OpRows w2 base r.1 u1 u2 u3) (hb2 : Below (wr.alloc (.cells (opCells {} (.slice none 0 0) (.slice none 0 0) (.slice none 0 0)).toArray 80)).drew.heap.size (wr.alloc (.cells (opCells {} (.slice none 0 0) (.slice none 0 0) (.slice none 0 0)).toArray 80)).drew w2) : SetAt wr (w2.setCells wr.heap.size 0 CS.toList) base wr.heap.size r := by
  subst hcs
  have hz : ZeroOp w2 wr.heap.size := zero_kept rfl hb2
  have hb : Below wr.heap.size wr w2 := below_step ((below_al _ _).drew) hb2
  refine ⟨u1, u2, u3, ?_, hrs.step (by rw [size_setCells]; exact Nat.le_refl _) (fun k hk => other_setCells (fun e => ?_) _ _ _), below_setCells (Nat.le_refl _) _ _ _ _ hb, Nat.le_refl _⟩
  · rw [row_setCells _ 0 _ _ hz, setFrom_zero]
  · obtain ⟨cells, e2, fr, h1, h2⟩ := hrs.typed k hk
    rw [e] at h1
    have h3 := hz.symm.trans h1
    injection h3 with h3
    injection h3 with _ h4 _
    rcases h2 with rfl | rfl <;> exact absurd h4 (by decide)
theorem setrow_at {w wx : World} {g5 : Nat} {cs : Array Value} {ro : Sp.Op} {u1 u2 u3 : Value} (hr : wx.heap[g5]? = some (.cells cs 80 (0, 0))) (hrs : OpRows wx (g5 + 1) ro u1 u2 u3) (hg : w.heap.size < g5) : OpAt (wx.setRow g5 (opCells ro u1 u2 u3).toArray) w.heap.size g5 ro :=
  ⟨u1, u2, u3, setRow_heap _ _ _ _ _ _ hr, (hrs.lower (by omega)).step (by simp [World.setRow]) (fun k hk => setRow_other _ (show k ≠ g5 by have := (hrs.lt k hk).1; omega)), fun k hk => (hrs.lt k hk).1⟩
theorem zero_cells {w : World} {g p : Nat} (h : ZeroOp w g) (hp : g ≠ p) (vs : List Value) (o : Nat) : ZeroOp (w.setCells p o vs) g := (other_setCells hp vs o w).trans h
theorem step_end {w w1 w2 w3 w4 : World} {c : Sp.Call} {A2 : Option Addr} {k2 : Nat} (hb : Below w.heap.size w w4) (hv : OU w4 w2.heap.size (.slice A2 c.data.length k2) c.data) (h23 : w2.heap.size ≤ w3.heap.size) (h12 : w1.heap.size < w2.heap.size) (h01 : w.heap.size < w1.heap.size) (kind : Nat) (n : Int) (c' : Sp.Call) (hc : c' = c := by rfl) :
    OpRows (((w4.setCell ⟨w1.heap.size, 1, none⟩ (.int .i64 n)).setCells w1.heap.size 5 (callCells c (.slice A2 c.data.length k2))).setRow w.heap.size (opCells { kind := kind, a := n, call := c } (.slice A2 c.data.length k2) (.slice none 0 0) (.slice none 0 0)).toArray) w.heap.size { kind := kind, a := n, call := c } (.slice A2 c.data.length k2) (.slice none 0 0) (.slice none 0 0) ∧
    Below w.heap.size w (((w4.setCell ⟨w1.heap.size, 1, none⟩ (.int .i64 n)).setCells w1.heap.size 5 (callCells c (.slice A2 c.data.length k2))).setRow w.heap.size (opCells { kind := kind, a := n, call := c } (.slice A2 c.data.length k2) (.slice none 0 0) (.slice none 0 0)).toArray) := by
  refine ⟨⟨?_, ORow.nil _ _ _, ORow.nil _ _ _, fun k _ hk => by simp [Value.ownBlock] at hk⟩, ?_⟩
  · refine (hv.lower (by omega)).step ?_ (fun k hk => ?_)
    · simp only [World.setRow, Array.size_modify, size_setCells]; simp [World.setCell]
    · have hk2 := (hv.lt k hk).1
      rw [setRow_other _ (show k ≠ w.heap.size by omega), other_setCells (show k ≠ w1.heap.size by omega)]
      exact Below.heap_setCell w4 _ _ k (by simp only; omega)
  · refine setRow_below (below_setCells (by omega) _ _ _ _ (hb.setCell (by simp only; omega) _)) (Nat.le_refl _) _
set_option maxHeartbeats 8000000 in
set_option maxRecDepth 100000 in
theorem rstep_zero (A : Option Addr) (ws : List Sp.Bs) (cap : Nat) (w : World) (he : EnvP w) (hr : ReadS w A ws) (hcap : ws.length ≤ cap) (w0 : Sp.Bs) (r0 : List Sp.Bs) (hw0 : ws = w0 :: r0) (hl : ws.length ≤ 1099511627776) (hws : ∀ x ∈ ws, x.length ≤ 1099511627776) (hkk : Sp.findRow Sp.stepRows w0 = 0) :
    Calls Tryz.prog 42 #[.slice A ws.length cap] w (StepPost w (Sp.step ws)) := by
  obtain ⟨kind, hkind⟩ : ∃ kind, kind = Sp.findRow Sp.stepRows w0 := ⟨_, rfl⟩
  obtain ⟨R, hR⟩ : ∃ R, R = Sp.step ws := ⟨_, rfl⟩
  rw [← hR]
  have hRS := Sp.step_eq w0 r0
  rw [← hw0, ← hR, ← hkind] at hRS
  have hrl : ws.length = r0.length + 1 := by rw [hw0]; rfl
  have hrl1 : ws.length ≤ r0.length + 1 := by omega
  have hrl2 : r0.length + 1 ≤ ws.length := by omega
  clear hrl
  obtain ⟨ad0, hA0, hcell0⟩ := hr.at_ 0 (by omega)
  have hcell00 : w.cell? ad0 = some (.string (str w0)) := by
    have h := hcell0
    rw [Addr.add_zero'] at h
    rw [h]
    simp [hw0]
  have HC85 : Hid (∀ w, EnvP w → Calls Tryz.prog 85 #[.string (str w0)] w (BRet w (.int .i64 (kind : Int)))) := Lib.hid (fun w h => by rw [hkind]; exact rkindOf_any w0 w h)
  have HE := Lib.hid he
  have HRD := Lib.hid hr
  have HW := Lib.hid hws
  have HW0 := Lib.hid hw0
  have hbA : Below w.heap.size w (w.alloc (.cells (opCells {} (.slice none 0 0) (.slice none 0 0) (.slice none 0 0)).toArray 80)) := (Below.refl _ _).alloc (Nat.le_refl _) _
  have hzA : ZeroOp (w.alloc (.cells (opCells {} (.slice none 0 0) (.slice none 0 0) (.slice none 0 0)).toArray 80)) w.heap.size := heap_alloc_new _ _
  have hcellA : (w.alloc (.cells #[.int .i64 0, .int .i64 0, .int .i64 0, .int .i64 0, .int .i64 0, .int .i64 0, .int .i64 0, .int .i64 0, .int .i64 0, .int .i64 0, .string ⟨#[]⟩, .string ⟨#[]⟩, .string ⟨#[]⟩, .slice none 0 0, .slice none 0 0, .slice none 0 0] 80)).cell? ad0 = some (.string (str w0)) := below_read hbA hcell00
  subst hA0
  have hk15 : kind < 15 := by
    by_cases h : kind = 0
    · omega
    · have h2 := (Sp.find_lt (rows := Sp.stepRows) (l := w0) (by rw [← hkind]; exact h)).1
      rw [← hkind] at h2
      exact h2
  have hk0 : kind = 0 := by rw [hkind]; exact hkk
  clear hR hcell0 hcell00 he hr hws hw0 hkind
  · have T0 : ((kind : Int) == 0) = true := beq_iff_eq.2 (by omega)
    have HF : Hid (R = ({}, 212)) := Lib.hid (by rw [hRS, if_pos hk0])
    clear hk0 hRS
    go_enter Tryz.func42, Tryz.ntmps42
    go_wp2_with (first | (go_at_call 85; refine (HC85.out _ (HE.out.below hbA)).mono ?_; rintro e w1 ⟨rfl, hb1⟩; have hz1 := hzA.below hb1; have HB1 := Lib.hid (hbA.trans (hb1.mono hbA.size)); clear hb1; have tk1 := trivial) | (have tq := tk1; refine wpList_store_row rfl 80 (.tmp 2) (.tmp 20) rfl w.heap.size (opCells {} (.slice none 0 0) (.slice none 0 0) (.slice none 0 0)).toArray rfl rfl 80 _ hz1 (by kernel_rfl) rfl (op_one _ rfl rfl rfl) ?_))
    refine bodyPost_ret (results_ct rfl _ _ w.heap.size 80 (opCells {} (.slice none 0 0) (.slice none 0 0) (.slice none 0 0)).toArray (0, 0) _ rfl (setRow_heap _ _ _ _ _ _ hz1) Tryz.underlying80 rfl (by kernel_rfl)) rfl ?_
    rw [HF.out]
    exact ⟨_, _, _, rfl, OpRows.zero _ _ _ ⟨rfl, rfl, rfl⟩, setRow_below HB1.out (Nat.le_refl _) _⟩
set_option maxHeartbeats 8000000 in
set_option maxRecDepth 100000 in
theorem rstep_call (A : Option Addr) (ws : List Sp.Bs) (cap : Nat) (w : World) (he : EnvP w) (hr : ReadS w A ws) (hcap : ws.length ≤ cap) (w0 : Sp.Bs) (r0 : List Sp.Bs) (hw0 : ws = w0 :: r0) (hl : ws.length ≤ 1099511627776) (hws : ∀ x ∈ ws, x.length ≤ 1099511627776) (hkk : Sp.findRow Sp.stepRows w0 = 1) :
    Calls Tryz.prog 42 #[.slice A ws.length cap] w (StepPost w (Sp.step ws)) := by
  obtain ⟨kind, hkind⟩ : ∃ kind, kind = Sp.findRow Sp.stepRows w0 := ⟨_, rfl⟩
  obtain ⟨R, hR⟩ : ∃ R, R = Sp.step ws := ⟨_, rfl⟩
  rw [← hR]
  have hRS := Sp.step_eq w0 r0
  rw [← hw0, ← hR, ← hkind] at hRS
  have hrl : ws.length = r0.length + 1 := by rw [hw0]; rfl
  have hrl1 : ws.length ≤ r0.length + 1 := by omega
  have hrl2 : r0.length + 1 ≤ ws.length := by omega
  clear hrl
  obtain ⟨ad0, hA0, hcell0⟩ := hr.at_ 0 (by omega)
  have hcell00 : w.cell? ad0 = some (.string (str w0)) := by
    have h := hcell0
    rw [Addr.add_zero'] at h
    rw [h]
    simp [hw0]
  have HC85 : Hid (∀ w, EnvP w → Calls Tryz.prog 85 #[.string (str w0)] w (BRet w (.int .i64 (kind : Int)))) := Lib.hid (fun w h => by rw [hkind]; exact rkindOf_any w0 w h)
  have HE := Lib.hid he
  have HRD := Lib.hid hr
  have HW := Lib.hid hws
  have HW0 := Lib.hid hw0
  have hbA : Below w.heap.size w (w.alloc (.cells (opCells {} (.slice none 0 0) (.slice none 0 0) (.slice none 0 0)).toArray 80)) := (Below.refl _ _).alloc (Nat.le_refl _) _
  have hzA : ZeroOp (w.alloc (.cells (opCells {} (.slice none 0 0) (.slice none 0 0) (.slice none 0 0)).toArray 80)) w.heap.size := heap_alloc_new _ _
  have hcellA : (w.alloc (.cells #[.int .i64 0, .int .i64 0, .int .i64 0, .int .i64 0, .int .i64 0, .int .i64 0, .int .i64 0, .int .i64 0, .int .i64 0, .int .i64 0, .string ⟨#[]⟩, .string ⟨#[]⟩, .string ⟨#[]⟩, .slice none 0 0, .slice none 0 0, .slice none 0 0] 80)).cell? ad0 = some (.string (str w0)) := below_read hbA hcell00
  subst hA0
  have hk15 : kind < 15 := by
    by_cases h : kind = 0
    · omega
    · have h2 := (Sp.find_lt (rows := Sp.stepRows) (l := w0) (by rw [← hkind]; exact h)).1
      rw [← hkind] at h2
      exact h2
  have hk1 : kind = 1 := by rw [hkind]; exact hkk
  have hk0 : ¬ kind = 0 := by omega
  clear hR hcell0 hcell00 he hr hws hw0 hkind
  have T0 : ((kind : Int) == 0) = false := beq_eq_false_iff_ne.2 (by omega)
  rw [if_neg hk0] at hRS
  · have T1 : ((kind : Int) == 1) = true := beq_iff_eq.2 (by omega)
    rw [if_pos hk1] at hRS
    by_cases hsh : r0.length < 2
    · have HF : Hid (R = ({}, 215)) := Lib.hid (by rw [hRS, if_pos hsh])
      clear hk1 hRS
      go_enter Tryz.func42, Tryz.ntmps42
      go_wp2_with (first | (go_at_call 85; refine (HC85.out _ (HE.out.below hbA)).mono ?_; rintro e w1 ⟨rfl, hb1⟩; have hz1 := (hzA.below hb1).below (below_al w1 (.cells (nilRow kind) 80)); have HB1 := Lib.hid ((hbA.trans (hb1.mono hbA.size)).alloc (hbA.trans (hb1.mono hbA.size)).size (.cells (nilRow kind) 80)); clear hb1; have tk1 := trivial) | (have tq := tk1; refine wpList_store_row rfl 80 (.tmp 2) (.tmp 28) rfl w.heap.size (opCells {} (.slice none 0 0) (.slice none 0 0) (.slice none 0 0)).toArray rfl rfl 80 _ hz1 (by kernel_rfl) rfl (op_one _ rfl rfl rfl) ?_))
      refine bodyPost_ret (results_ct rfl _ _ w.heap.size 80 (opCells {} (.slice none 0 0) (.slice none 0 0) (.slice none 0 0)).toArray (0, 0) _ rfl (setRow_heap _ _ _ _ _ _ hz1) Tryz.underlying80 rfl (by kernel_rfl)) rfl ?_
      rw [HF.out]
      exact ⟨_, _, _, rfl, OpRows.zero _ _ _ ⟨rfl, rfl, rfl⟩, setRow_below HB1.out (Nat.le_refl _) _⟩
    · rw [if_neg hsh] at hRS
      obtain ⟨w1x, w2x, r2, hr0⟩ : ∃ w1x w2x r2, r0 = w1x :: w2x :: r2 := by
        match r0, hsh with
        | [], h => simp at h
        | [_], h => simp at h
        | a :: b :: r2, _ => exact ⟨a, b, r2, rfl⟩
      have hTL : ws.drop 2 = w2x :: r2 := by rw [HW0.out, hr0]; rfl
      have hTn : (w2x :: r2).length = ws.length - 2 := by rw [← hTL, List.length_drop]
      obtain ⟨TL, hTLe⟩ : ∃ TL, TL = w2x :: r2 := ⟨_, rfl⟩
      rw [← hTLe] at hTL hTn
      obtain ⟨B, hB⟩ : ∃ B, B = (if cap = 2 then some ad0 else (some ad0).map (·.add 2)) := ⟨_, rfl⟩
      have hr2 : r0.length = r2.length + 2 := by rw [hr0]; rfl
      have hl2 : 2 ≤ ws.length := by omega
      have hlen3 : 3 ≤ ws.length := by omega
      clear hr2
      have hs1 : ∀ w, (Instr.sliceAt 61 (.slice (some ad0) ws.length cap) (some (.int .i64 2)) none none).run Tryz.prog w = .ok (.slice B TL.length (cap - 2)) w := fun w => by rw [hB, hTn]; exact tail_slice (some ad0) ws.length cap 2 hl2 hcap hl w
      have hs2 : ∀ w, (Instr.slice 61 (.slice (some ad0) ws.length cap) (some (.int .i64 2)) none none).run Tryz.prog w = .ok (.slice B TL.length (cap - 2)) w := fun w => by rw [hB, hTn]; exact tail_slice2 (some ad0) ws.length cap 2 hl2 hcap hl w
      have HRT : Hid (∀ w', Below w.heap.size w w' → ReadS w' B TL) := Lib.hid (fun w' hb => by rw [hB, ← hTL]; exact tail_read (HRD.out.below hb) 2 hl2 hcap)
      have hTLl : TL.length ≤ 1099511627776 := by omega
      have HWT : Hid (∀ x ∈ TL, x.length ≤ 1099511627776) := Lib.hid (fun x hx => HW.out x (by rw [← hTL] at hx; exact List.mem_of_mem_drop hx))
      have hx1 : w1x.length ≤ 1099511627776 := HW.out w1x (by rw [HW0.out, hr0]; simp)
      obtain ⟨adq, hAq, hcellq⟩ := HRD.out.at_ 1 (by omega)
      injection hAq with hAq
      subst hAq
      have hcw : w.cell? ⟨ad0.block, ad0.off + 1, none⟩ = some (.string (str w1x)) := by
        have h := hcellq
        rw [Addr.add, if_neg (by omega)] at h
        rw [h]
        simp [HW0.out, hr0]
      have HCW : Hid (∀ w', Below w.heap.size w w' → w'.cell? ⟨ad0.block, ad0.off + 1, none⟩ = some (.string (str w1x))) := Lib.hid (fun w' hb => below_read hb hcw)
      obtain ⟨op, er, hshp⟩ : ∃ op er, Sp.shaped TL = (op, er) := ⟨_, _, rfl⟩
      have HC59 : Hid (∀ w', Below w.heap.size w w' → Calls Tryz.prog 59 #[.slice B TL.length (cap - 2)] w' (BRet w' (.int .i64 (er : Int)))) := Lib.hid (fun w' hb => by
        have h := rshape_any B TL (cap - 2) w' (HE.out.below hb).r (HRT.out w' hb) hTLl
        rwa [hshp] at h)
      rw [hr0, show (w1x :: w2x :: r2).drop 1 = w2x :: r2 from rfl, ← hTLe, hshp] at hRS
      clear hB hcw hcellq hsh hTn
      by_cases he0 : er = 0
      · have T2 : ((er : Int) != 0) = false := by rw [bne_eq_false_iff_eq]; omega
        have hok := shaped_ok (l := TL) (op := op) (by rw [hshp, he0])
        have hfd : Sp.findRow Sp.callRows w2x = op := shaped_find (r := r2) (by rw [← hTLe, hshp, he0])
        obtain ⟨c, g, hcl⟩ : ∃ c g, Sp.callR op TL = (c, g) := ⟨_, _, rfl⟩
        obtain ⟨n, hn⟩ : ∃ n, n = Sp.numR w1x := ⟨_, rfl⟩
        have HC84 : Hid (∀ w, Calls Tryz.prog 84 #[.string (str w1x)] w (BRet w (.int .i64 n))) := Lib.hid (fun w => by rw [hn]; exact rnumber_any w1x w hx1)
        have HC60 : Hid (∀ w', Below w.heap.size w w' → Calls Tryz.prog 60 #[.slice B TL.length (cap - 2)] w' (RCV c g w')) := Lib.hid (fun w' hb => by
          suffices h : Calls Tryz.prog 60 #[.slice B TL.length (cap - 2)] w' (RCallPost w' (c, g)) from h.mono (fun _ _ ⟨v, a, b, d⟩ => by
            obtain ⟨A2, k2, rfl, _, _⟩ := b.reads
            exact ⟨A2, k2, a, b, d⟩)
          rw [← hcl]
          exact rcall_any op B TL (cap - 2) w' (HE.out.below hb).r (HRT.out w' hb) w2x r2 hTLe hfd hok.1 hok.2.1 (by omega) HWT.out)
        have HQ : Hid (R = if g = true ∧ 0 ≤ n then ({ kind := kind, a := n, call := c }, 0) else ({}, 213)) := Lib.hid (by
          rw [hRS]
          show (if er ≠ 0 then _ else Sp.fillStep op (Sp.stepRows.getD kind ([], [])).2 (w1x :: TL) { kind := (kind : Int) } 0) = _
          rw [if_neg (by simpa using he0), hk1, row_one, hTLe]
          show Sp.fillStep op [97, 99] (w1x :: w2x :: r2) { kind := 1 } 0 = _
          rw [Sp.fill_call, ← hTLe, hcl, hn]
          rfl)
        clear hRS hcl hn hok hfd hshp he0 hTLe hTL hr0
        have hk1' := Lib.hid hk1
        clear hk1
        cases g with
        | false =>
          have HF : Hid (R = ({}, 213)) := Lib.hid (by rw [HQ.out, if_neg (by simp)])
          clear HQ
          go_enter Tryz.func42, Tryz.ntmps42
          go_wp2_with (first | (go_at_call 85; refine (HC85.out _ (HE.out.below hbA)).mono ?_; rintro e w1 ⟨rfl, hb1⟩; have hz1 := hzA.below hb1; have hlt1 := row_lt hz1; have HB1 := Lib.hid (hbA.trans (hb1.mono hbA.size)); clear hb1) | (go_at_call 59; (generalize hW5 : w1.alloc _ = W5); (have h51 : W5.heap[w1.heap.size]? = some (.cells (nilRow kind) 80 (0, 0)) := by rw [← hW5]; exact heap_alloc_new _ _); (have hbw : Below w1.heap.size w1 W5 := by rw [← hW5]; exact below_al _ _); have hz1b := hz1.below hbw; have HB1b := Lib.hid (below_call HB1.out hbw (Nat.le_refl _)); clear hW5 hbw; refine (HC59.out _ HB1b.out).mono ?_; rintro e w2 ⟨rfl, hb2⟩; have hz2 := hz1b.below hb2; have h52 := (hb2.block _ (row_lt h51)).trans h51; have HB2 := Lib.hid (below_call HB1b.out hb2 (Nat.le_refl _)); clear hb2) | (go_at_call 60; refine (HC60.out _ HB2.out).mono ?_; rintro e w3 ⟨A2, k2, rfl, hv, hb3⟩; have hz3 := hz2.below hb3; have h53 := (hb3.block _ (row_lt h52)).trans h52; have HB3 := Lib.hid (below_call HB2.out hb3 (Nat.le_refl _)); (have hcw3 : (w3.alloc (.cells #[.int .i64 c.op, .int .i64 c.h, .int .i64 c.h2, .int .i64 c.off, .int .i64 c.len, .string (str c.path), .string (str c.name), .string (str c.name2), .slice A2 c.data.length k2] 51)).cell? ⟨ad0.block, ad0.off + 1, none⟩ = some (.string (str w1x)) := HCW.out _ (below_call HB3.out (below_al w3 _) (Nat.le_refl _))); have HV := Lib.hid (And.intro hv (And.intro hb3.size (row_lt h52))); clear hb3 hv) | (go_at_call 84; (generalize hW7 : w3.alloc _ = W7); (have h73 : W7.heap[w3.heap.size]? = some (.cells (callCells c (.slice A2 c.data.length k2)).toArray 51 (0, 0)) := by rw [← hW7]; exact heap_alloc_new _ _); (have hbw7 : Below w3.heap.size w3 W7 := by rw [← hW7]; exact below_al _ _); clear hW7; refine (HC84.out _).mono ?_; rintro e w4 ⟨rfl, hb4⟩; have hz4 := (hz3.below hbw7).below hb4; have h54 := (hb4.block _ (row_lt ((hbw7.block _ (row_lt h53)).trans h53))).trans ((hbw7.block _ (row_lt h53)).trans h53); have h74 := (hb4.block _ (row_lt h73)).trans h73; have HB4 := Lib.hid (below_call (below_call HB3.out hbw7 (Nat.le_refl _)) hb4 (Nat.le_refl _)); have HV4 := Lib.hid (And.intro (ORow.below (ORow.below HV.out.1 hbw7) hb4) HV.out.2); clear hb4 hbw7; (obtain ⟨hcc, hcfz⟩ := row_cell h54 1 rfl); (have h55 : (w4.setCell ⟨w1.heap.size, 1, none⟩ (.int .i64 n)).heap[w1.heap.size]? = some (.cells (opCells { kind := kind, a := n } (.slice none 0 0) (.slice none 0 0) (.slice none 0 0)).toArray 80 (0, 0)) := (row_set h54 _).trans rfl); have hz5 := hz4.far (p := ⟨w1.heap.size, 1, none⟩) (by simp only; omega) (.int .i64 n); have HB5 := Lib.hid (HB4.out.setCell (p := ⟨w1.heap.size, 1, none⟩) (by simp only; omega) (.int .i64 n)); have tk1 := trivial) | (have tq := tk1; refine wpList_store_row rfl 80 (.tmp 2) (.tmp 54) rfl w.heap.size (opCells {} (.slice none 0 0) (.slice none 0 0) (.slice none 0 0)).toArray rfl rfl 80 _ hz5 (by kernel_rfl) rfl (op_one _ rfl rfl rfl) ?_))
          refine bodyPost_ret (results_ct rfl _ _ w.heap.size 80 (opCells {} (.slice none 0 0) (.slice none 0 0) (.slice none 0 0)).toArray (0, 0) _ rfl (setRow_heap _ _ _ _ _ _ hz5) Tryz.underlying80 rfl (by kernel_rfl)) rfl ?_
          rw [HF.out]
          exact ⟨_, _, _, rfl, OpRows.zero _ _ _ ⟨rfl, rfl, rfl⟩, setRow_below HB5.out (Nat.le_refl _) _⟩
        | true =>
          by_cases hn0 : 0 ≤ n
          · have HF : Hid (R = ({ kind := kind, a := n, call := c }, 0)) := Lib.hid (by rw [HQ.out, if_pos ⟨rfl, hn0⟩])
            have T5 : decide (n < 0) = false := decide_eq_false (by omega)
            have hn2 : ¬ n < 0 := by omega
            clear HQ
            go_enter Tryz.func42, Tryz.ntmps42
            go_upto_region 16 with (first | (go_at_call 85; refine (HC85.out _ (HE.out.below hbA)).mono ?_; rintro e w1 ⟨rfl, hb1⟩; have hz1 := hzA.below hb1; have hlt1 := row_lt hz1; have HB1 := Lib.hid (hbA.trans (hb1.mono hbA.size)); clear hb1) | (go_at_call 59; (generalize hW5 : w1.alloc _ = W5); (have h51 : W5.heap[w1.heap.size]? = some (.cells (nilRow kind) 80 (0, 0)) := by rw [← hW5]; exact heap_alloc_new _ _); (have hbw : Below w1.heap.size w1 W5 := by rw [← hW5]; exact below_al _ _); have hz1b := hz1.below hbw; have HB1b := Lib.hid (below_call HB1.out hbw (Nat.le_refl _)); clear hW5 hbw; refine (HC59.out _ HB1b.out).mono ?_; rintro e w2 ⟨rfl, hb2⟩; have hz2 := hz1b.below hb2; have h52 := (hb2.block _ (row_lt h51)).trans h51; have HB2 := Lib.hid (below_call HB1b.out hb2 (Nat.le_refl _)); clear hb2) | (go_at_call 60; refine (HC60.out _ HB2.out).mono ?_; rintro e w3 ⟨A2, k2, rfl, hv, hb3⟩; have hz3 := hz2.below hb3; have h53 := (hb3.block _ (row_lt h52)).trans h52; have HB3 := Lib.hid (below_call HB2.out hb3 (Nat.le_refl _)); (have hcw3 : (w3.alloc (.cells #[.int .i64 c.op, .int .i64 c.h, .int .i64 c.h2, .int .i64 c.off, .int .i64 c.len, .string (str c.path), .string (str c.name), .string (str c.name2), .slice A2 c.data.length k2] 51)).cell? ⟨ad0.block, ad0.off + 1, none⟩ = some (.string (str w1x)) := HCW.out _ (below_call HB3.out (below_al w3 _) (Nat.le_refl _))); have HV := Lib.hid (And.intro hv (And.intro hb3.size (row_lt h52))); clear hb3 hv) | (go_at_call 84; (generalize hW7 : w3.alloc _ = W7); (have h73 : W7.heap[w3.heap.size]? = some (.cells (callCells c (.slice A2 c.data.length k2)).toArray 51 (0, 0)) := by rw [← hW7]; exact heap_alloc_new _ _); (have hbw7 : Below w3.heap.size w3 W7 := by rw [← hW7]; exact below_al _ _); clear hW7; refine (HC84.out _).mono ?_; rintro e w4 ⟨rfl, hb4⟩; have hz4 := (hz3.below hbw7).below hb4; have h54 := (hb4.block _ (row_lt ((hbw7.block _ (row_lt h53)).trans h53))).trans ((hbw7.block _ (row_lt h53)).trans h53); have h74 := (hb4.block _ (row_lt h73)).trans h73; have HB4 := Lib.hid (below_call (below_call HB3.out hbw7 (Nat.le_refl _)) hb4 (Nat.le_refl _)); have HV4 := Lib.hid (And.intro (ORow.below (ORow.below HV.out.1 hbw7) hb4) HV.out.2); clear hb4 hbw7; (obtain ⟨hcc, hcfz⟩ := row_cell h54 1 rfl); (have h55 : (w4.setCell ⟨w1.heap.size, 1, none⟩ (.int .i64 n)).heap[w1.heap.size]? = some (.cells (opCells { kind := kind, a := n } (.slice none 0 0) (.slice none 0 0) (.slice none 0 0)).toArray 80 (0, 0)) := (row_set h54 _).trans rfl); have hz5 := hz4.far (p := ⟨w1.heap.size, 1, none⟩) (by simp only; omega) (.int .i64 n); have HB5 := Lib.hid (HB4.out.setCell (p := ⟨w1.heap.size, 1, none⟩) (by simp only; omega) (.int .i64 n)); (have hc5 : (w4.setCell ⟨w1.heap.size, 1, none⟩ (.int .i64 n)).cell? ⟨w1.heap.size, 1, none⟩ = some (.int .i64 n) := (row_cell h55 1 rfl).1); have hne7 : w1.heap.size ≠ w3.heap.size := (by have := HV.out.2.2; have := HV.out.2.1; omega); have h75 := (Below.heap_setCell w4 ⟨w1.heap.size, 1, none⟩ (.int .i64 n) w3.heap.size (by simp only; omega)).trans h74; clear hne7; have hth := (op_there h55).there 5 9 (by omega); have h56 := (row_setCells (callCells c (.slice A2 c.data.length k2)) 5 _ _ h55).trans (by rw [setFrom_call]); have hz6 := zero_cells (p := w1.heap.size) hz5 (by omega) (callCells c (.slice A2 c.data.length k2)) 5; have HEND := Lib.hid (step_end HB4.out HV4.out.1 HV4.out.2.1 HV4.out.2.2 hlt1 kind n c); have tk1 := trivial) | (have tq := tk1; refine wpList_load_row rfl 51 (.tmp 7) rfl w3.heap.size rfl 51 (callCells c (.slice A2 c.data.length k2)).toArray (0, 0) _ h75 Tryz.underlying51 rfl (by kernel_rfl) ?_) | (have tq := tk1; refine wpList_store_mid rfl 51 (.tmp 56) (.tmp 55) rfl w1.heap.size 5 (callCells c (.slice A2 c.data.length k2)).toArray rfl rfl hth (by kernel_rfl) (call_one _ rfl) ?_))
            generalize hW8 : World.setCells _ _ _ _ = W8 at h56 hz6 HEND ⊢
            go_wp2_with (first | (refine wpList_load_row rfl 80 (.tmp 5) rfl w1.heap.size rfl 80 (opCells { kind := kind, a := n, call := c } (.slice A2 c.data.length k2) (.slice none 0 0) (.slice none 0 0)).toArray (0, 0) _ h56 Tryz.underlying80 rfl (by kernel_rfl) ?_) | (refine wpList_store_row rfl 80 (.tmp 2) (.tmp 57) rfl w.heap.size (opCells { kind := kind, a := n, call := c } (.slice A2 c.data.length k2) (.slice none 0 0) (.slice none 0 0)).toArray rfl rfl 80 _ hz6 (by kernel_rfl) rfl (op_one _ rfl rfl rfl) ?_))
            refine bodyPost_ret (results_ct rfl _ _ w.heap.size 80 (opCells { kind := kind, a := n, call := c } (.slice A2 c.data.length k2) (.slice none 0 0) (.slice none 0 0)).toArray (0, 0) _ rfl (setRow_heap _ _ _ _ _ _ hz6) Tryz.underlying80 rfl (by kernel_rfl)) rfl ?_
            rw [HF.out]
            exact ⟨_, _, _, rfl, HEND.out.1, HEND.out.2⟩
          · have HF : Hid (R = ({}, 213)) := Lib.hid (by rw [HQ.out, if_neg (fun h => hn0 h.2)])
            have hn1 : n < 0 := by omega
            clear HQ
            go_enter Tryz.func42, Tryz.ntmps42
            go_wp2_with (first | (go_at_call 85; refine (HC85.out _ (HE.out.below hbA)).mono ?_; rintro e w1 ⟨rfl, hb1⟩; have hz1 := hzA.below hb1; have hlt1 := row_lt hz1; have HB1 := Lib.hid (hbA.trans (hb1.mono hbA.size)); clear hb1) | (go_at_call 59; (generalize hW5 : w1.alloc _ = W5); (have h51 : W5.heap[w1.heap.size]? = some (.cells (nilRow kind) 80 (0, 0)) := by rw [← hW5]; exact heap_alloc_new _ _); (have hbw : Below w1.heap.size w1 W5 := by rw [← hW5]; exact below_al _ _); have hz1b := hz1.below hbw; have HB1b := Lib.hid (below_call HB1.out hbw (Nat.le_refl _)); clear hW5 hbw; refine (HC59.out _ HB1b.out).mono ?_; rintro e w2 ⟨rfl, hb2⟩; have hz2 := hz1b.below hb2; have h52 := (hb2.block _ (row_lt h51)).trans h51; have HB2 := Lib.hid (below_call HB1b.out hb2 (Nat.le_refl _)); clear hb2) | (go_at_call 60; refine (HC60.out _ HB2.out).mono ?_; rintro e w3 ⟨A2, k2, rfl, hv, hb3⟩; have hz3 := hz2.below hb3; have h53 := (hb3.block _ (row_lt h52)).trans h52; have HB3 := Lib.hid (below_call HB2.out hb3 (Nat.le_refl _)); (have hcw3 : (w3.alloc (.cells #[.int .i64 c.op, .int .i64 c.h, .int .i64 c.h2, .int .i64 c.off, .int .i64 c.len, .string (str c.path), .string (str c.name), .string (str c.name2), .slice A2 c.data.length k2] 51)).cell? ⟨ad0.block, ad0.off + 1, none⟩ = some (.string (str w1x)) := HCW.out _ (below_call HB3.out (below_al w3 _) (Nat.le_refl _))); have HV := Lib.hid (And.intro hv (And.intro hb3.size (row_lt h52))); clear hb3 hv) | (go_at_call 84; (generalize hW7 : w3.alloc _ = W7); (have h73 : W7.heap[w3.heap.size]? = some (.cells (callCells c (.slice A2 c.data.length k2)).toArray 51 (0, 0)) := by rw [← hW7]; exact heap_alloc_new _ _); (have hbw7 : Below w3.heap.size w3 W7 := by rw [← hW7]; exact below_al _ _); clear hW7; refine (HC84.out _).mono ?_; rintro e w4 ⟨rfl, hb4⟩; have hz4 := (hz3.below hbw7).below hb4; have h54 := (hb4.block _ (row_lt ((hbw7.block _ (row_lt h53)).trans h53))).trans ((hbw7.block _ (row_lt h53)).trans h53); have h74 := (hb4.block _ (row_lt h73)).trans h73; have HB4 := Lib.hid (below_call (below_call HB3.out hbw7 (Nat.le_refl _)) hb4 (Nat.le_refl _)); have HV4 := Lib.hid (And.intro (ORow.below (ORow.below HV.out.1 hbw7) hb4) HV.out.2); clear hb4 hbw7; (obtain ⟨hcc, hcfz⟩ := row_cell h54 1 rfl); (have h55 : (w4.setCell ⟨w1.heap.size, 1, none⟩ (.int .i64 n)).heap[w1.heap.size]? = some (.cells (opCells { kind := kind, a := n } (.slice none 0 0) (.slice none 0 0) (.slice none 0 0)).toArray 80 (0, 0)) := (row_set h54 _).trans rfl); have hz5 := hz4.far (p := ⟨w1.heap.size, 1, none⟩) (by simp only; omega) (.int .i64 n); have HB5 := Lib.hid (HB4.out.setCell (p := ⟨w1.heap.size, 1, none⟩) (by simp only; omega) (.int .i64 n)); (have hc5 : (w4.setCell ⟨w1.heap.size, 1, none⟩ (.int .i64 n)).cell? ⟨w1.heap.size, 1, none⟩ = some (.int .i64 n) := (row_cell h55 1 rfl).1); have tk1 := trivial) | (have tq := tk1; refine wpList_store_row rfl 80 (.tmp 2) (.tmp 54) rfl w.heap.size (opCells {} (.slice none 0 0) (.slice none 0 0) (.slice none 0 0)).toArray rfl rfl 80 _ hz5 (by kernel_rfl) rfl (op_one _ rfl rfl rfl) ?_))
            refine bodyPost_ret (results_ct rfl _ _ w.heap.size 80 (opCells {} (.slice none 0 0) (.slice none 0 0) (.slice none 0 0)).toArray (0, 0) _ rfl (setRow_heap _ _ _ _ _ _ hz5) Tryz.underlying80 rfl (by kernel_rfl)) rfl ?_
            rw [HF.out]
            exact ⟨_, _, _, rfl, OpRows.zero _ _ _ ⟨rfl, rfl, rfl⟩, setRow_below HB5.out (Nat.le_refl _) _⟩
      · have T2 : ((er : Int) != 0) = true := by rw [bne_iff_ne]; omega
        have HF : Hid (R = ({}, er)) := Lib.hid (by rw [hRS]; show (if er ≠ 0 then _ else _) = _; rw [if_pos he0])
        have HRS' := Lib.hid hRS
        clear he0 hRS hshp hTLe hTL hr0
        have hk1' := Lib.hid hk1
        clear hk1
        go_enter Tryz.func42, Tryz.ntmps42
        go_wp2_with (first | (go_at_call 85; refine (HC85.out _ (HE.out.below hbA)).mono ?_; rintro e w1 ⟨rfl, hb1⟩; have hz1 := hzA.below hb1; have hlt1 := row_lt hz1; have HB1 := Lib.hid (hbA.trans (hb1.mono hbA.size)); clear hb1) | ((go_at_call 59; (generalize hW5 : w1.alloc _ = W5); (have h51 : W5.heap[w1.heap.size]? = some (.cells (nilRow kind) 80 (0, 0)) := by rw [← hW5]; exact heap_alloc_new _ _); (have hbw : Below w1.heap.size w1 W5 := by rw [← hW5]; exact below_al _ _); have hz1b := hz1.below hbw; have HB1b := Lib.hid (below_call HB1.out hbw (Nat.le_refl _)); clear hW5 hbw; refine (HC59.out _ HB1b.out).mono ?_; rintro e w2 ⟨rfl, hb2⟩; have hz2 := hz1b.below hb2; have h52 := (hb2.block _ (row_lt h51)).trans h51; have HB2 := Lib.hid (below_call HB1b.out hb2 (Nat.le_refl _)); clear hb2); have tk1 := trivial) | (have tq := tk1; refine wpList_store_row rfl 80 (.tmp 2) (.tmp 34) rfl w.heap.size (opCells {} (.slice none 0 0) (.slice none 0 0) (.slice none 0 0)).toArray rfl rfl 80 _ hz2 (by kernel_rfl) rfl (op_one _ rfl rfl rfl) ?_))
        refine bodyPost_ret (results_ct rfl _ _ w.heap.size 80 (opCells {} (.slice none 0 0) (.slice none 0 0) (.slice none 0 0)).toArray (0, 0) _ rfl (setRow_heap _ _ _ _ _ _ hz2) Tryz.underlying80 rfl (by kernel_rfl)) rfl ?_
        rw [HF.out]
        exact ⟨_, _, _, rfl, OpRows.zero _ _ _ ⟨rfl, rfl, rfl⟩, setRow_below HB2.out (Nat.le_refl _) _⟩
end Go.Proofs.YthnhfddlmkhgkaaGreatDoor

/- Walks: what some functions of the play package and its laws compute, as contracts. -/
import Derived.Test.YthnhfddlmkhgkaaGreatDoorZRefG
set_option linter.unusedVariables false
namespace Go.Proofs.YthnhfddlmkhgkaaGreatDoor
open Go.RowKit Go.Proofs.YthnhfddlmkhgkaaGreatDoorW.PrintWords
namespace Sp
/-- the document's set: a step with a word at its place (letters as the program's) -/
def setR (o : Op) (l : UInt8) (w : Bs) : Op × Nat :=
  if l = 100 then match hex w with | some d => ({ o with data := d }, 0) | none => (o, 217)
  else if l = 98 then match flags w with | some b => ({ o with keep := b }, 0) | none => (o, 213)
  else match if l = 106 ∧ w = server then some (-1) else number w with | some x => (o.setN ((place l).getD 0) x, 0) | none => (o, 213)
theorem setR_no {o : Op} {l : UInt8} {x : Bs} (h1 : l ≠ 100) (h2 : l ≠ 98) (h3 : ¬ (l = 106 ∧ x = server)) (h : number x = none) : setR o l x = (o, 213) := by
  unfold setR; rw [if_neg h1, if_neg h2, if_neg h3, h]
theorem setR_yes {o : Op} {l : UInt8} {x : Bs} {n : Int} (h1 : l ≠ 100) (h2 : l ≠ 98) (h3 : ¬ (l = 106 ∧ x = server)) (h : number x = some n) : setR o l x = (o.setN ((place l).getD 0) n, 0) := by
  unfold setR; rw [if_neg h1, if_neg h2, if_neg h3, h]
theorem setR_srv {o : Op} {x : Bs} (h : x = server) : setR o 106 x = (o.setN 1 (-1), 0) := by
  unfold setR; rw [if_neg (by decide), if_neg (by decide), if_pos ⟨rfl, h⟩]; rfl
theorem setR_d0 {o : Op} {x : Bs} (h : hex x = none) : setR o 100 x = (o, 217) := by unfold setR; rw [if_pos rfl, h]
theorem setR_d1 {o : Op} {x d : Bs} (h : hex x = some d) : setR o 100 x = ({ o with data := d }, 0) := by unfold setR; rw [if_pos rfl, h]
theorem setR_b0 {o : Op} {x : Bs} (h : flags x = none) : setR o 98 x = (o, 213) := by unfold setR; rw [if_neg (by decide), if_pos rfl, h]
theorem setR_b1 {o : Op} {x : Bs} {d : List Bool} (h : flags x = some d) : setR o 98 x = ({ o with keep := d }, 0) := by unfold setR; rw [if_neg (by decide), if_pos rfl, h]
end Sp
def setbox (w : World) (o : Sp.Op) (v1 v2 v3 : Value) : World := (w.alloc (.cells (opCells o v1 v2 v3).toArray 80)).alloc (.cells (opCells {} (.slice none 0 0) (.slice none 0 0) (.slice none 0 0)).toArray 80)
theorem setbox_below (w : World) (o : Sp.Op) (v1 v2 v3 : Value) : Below w.heap.size w (setbox w o v1 v2 v3) := ((Below.refl _ _).alloc (Nat.le_refl _) _).alloc (by simp) _
theorem setbox_rows {w w1 : World} {o : Sp.Op} {v1 v2 v3 : Value} (h : Below (setbox w o v1 v2 v3).heap.size (setbox w o v1 v2 v3) w1) : w1.heap[w.heap.size]? = some (.cells (opCells o v1 v2 v3).toArray 80 (0, 0)) ∧ w1.heap[w.heap.size + 1]? = some (.cells (opCells {} (.slice none 0 0) (.slice none 0 0) (.slice none 0 0)).toArray 80 (0, 0)) := by
  have h2 : (setbox w o v1 v2 v3).heap[w.heap.size + 1]? = some (.cells (opCells {} (.slice none 0 0) (.slice none 0 0) (.slice none 0 0)).toArray 80 (0, 0)) := by
    have := heap_alloc_new (w.alloc (.cells (opCells o v1 v2 v3).toArray 80)) (.cells (opCells {} (.slice none 0 0) (.slice none 0 0) (.slice none 0 0)).toArray 80)
    rwa [World.size_alloc] at this
  have h1 : (setbox w o v1 v2 v3).heap[w.heap.size]? = some (.cells (opCells o v1 v2 v3).toArray 80 (0, 0)) := (heap_alloc_old _ _ (by simp)).trans (heap_alloc_new w _)
  exact ⟨(h.block _ (row_lt h1)).trans h1, (h.block _ (row_lt h2)).trans h2⟩
def SetPost (base : Nat) (r : Sp.Op × Nat) (w : World) (e : Ending) (w' : World) : Prop :=
  ∃ v1 v2 v3, e = .returned (.tuple #[.agg (opCells r.1 v1 v2 v3).toArray, .int .i64 (r.2 : Int)]) ∧ OpRows w' base r.1 v1 v2 v3 ∧ Below w.heap.size w w'
theorem set_fin {w W : World} {base : Nat} {o : Sp.Op} {v1 v2 v3 : Value} (cs : Array Value) (hb : Below w.heap.size w W) (hr : OpRows W base o v1 v2 v3) (hne : ∀ k, v1.ownBlock = some k ∨ v2.ownBlock = some k ∨ v3.ownBlock = some k → k ≠ w.heap.size + 1) :
    OpRows (W.setRow (w.heap.size + 1) cs) base o v1 v2 v3 ∧ Below w.heap.size w (W.setRow (w.heap.size + 1) cs) :=
  ⟨hr.step (by simp [World.setRow]) (fun k hk => setRow_other _ (hne k hk)), setRow_below hb (by omega) _⟩
theorem row_cell {w : World} {g : Nat} {cs : Array Value} {t : TypeId} (h : w.heap[g]? = some (.cells cs t (0, 0))) (k : Nat) {u : Value} (hu : cs[k]? = some u) : w.cell? ⟨g, k, none⟩ = some u ∧ w.frozen? ⟨g, k, none⟩ = false :=
  ⟨by rw [cell_of_row _ _ _ _ _ _ h, hu], row_frozen h k⟩
set_option maxHeartbeats 8000000 in
set_option maxRecDepth 100000 in
theorem rset_any (o : Sp.Op) (v1 v2 v3 : Value) (base : Nat) (l : UInt8) (L : Int) (hl : l = 97 ∨ l = 107 ∨ l = 109 ∨ l = 120 ∨ l = 106 ∨ l = 100 ∨ l = 98) (hL : L = ((Sp.trS l).toNat : Int)) (x : Sp.Bs) (hx : x.length ≤ 1099511627776) (w : World) (hbase : base ≤ w.heap.size) (hr : OpRows w base o v1 v2 v3) :
    Calls Tryz.prog 86 #[.agg (opCells o v1 v2 v3).toArray, .int .u8 L, .string (str x)] w (SetPost base (Sp.setR o l x) w) := by
  have o1 := hr.1.one
  have o2 := hr.2.1.one
  have o3 := hr.2.2.1.one
  have HR := Lib.hid hr
  have hlt0 := hr.lt
  have HLT : Hid (∀ k, v1.ownBlock = some k ∨ v2.ownBlock = some k ∨ v3.ownBlock = some k → k < w.heap.size) := Lib.hid (fun k hk => (hlt0 k hk).2)
  have HBX := Lib.hid (setbox_below w o v1 v2 v3)
  have HRW : Hid (∀ w1, Below (setbox w o v1 v2 v3).heap.size (setbox w o v1 v2 v3) w1 → _ ∧ _) := Lib.hid (fun w1 h => setbox_rows h)
  have HC84 : Hid (∀ w, Calls Tryz.prog 84 #[.string (str x)] w (BRet w (.int .i64 (Sp.numR x)))) := Lib.hid (fun w => rnumber_any x w hx)
  have HXL := Lib.hid hx
  have HBS := Lib.hid hbase
  clear hr hx hlt0 hbase
  show Calls Tryz.prog 86 #[.agg #[.int .i64 o.kind, .int .i64 o.a, .int .i64 o.k, .int .i64 o.m, .int .i64 o.x, .int .i64 o.call.op, .int .i64 o.call.h, .int .i64 o.call.h2, .int .i64 o.call.off, .int .i64 o.call.len, .string (str o.call.path), .string (str o.call.name), .string (str o.call.name2), v1, v2, v3], .int .u8 L, .string (str x)] w (SetPost base (Sp.setR o l x) w)
  have hnl : (Sp.numR x = -1 ∧ Sp.number x = none) ∨ (0 ≤ Sp.numR x ∧ Sp.number x = some (Sp.numR x)) := by
    by_cases h : 0 ≤ Sp.numR x
    · exact .inr ⟨h, Sp.numR_some h⟩
    · exact .inl ⟨by have := (Sp.numR_rng x).1; omega, Sp.numR_none h⟩
  obtain ⟨n, hn⟩ : ∃ n, n = Sp.numR x := ⟨_, rfl⟩
  rw [← hn] at hnl HC84
  clear hn
  rcases hl with rfl | rfl | rfl | rfl | rfl | rfl | rfl
  · have hL2 : L = 65 := hL
    clear hL
    subst hL2
    rcases hnl with ⟨rfl, hnn⟩ | ⟨hn0, hnn⟩
    · have HN := Lib.hid hnn
      clear hnn
      have HF : Hid (Sp.setR o 97 x = (o, 213)) := Lib.hid (Sp.setR_no (by decide) (by decide) (fun h => absurd h.1 (by decide)) HN.out)
      go_enter Tryz.func86, Tryz.ntmps86
      go_wp2_with (first | (go_at_call 84; refine (HC84.out (setbox w o v1 v2 v3)).mono ?_; rintro e w1 ⟨rfl, hb1⟩; obtain ⟨hG1, hZ1⟩ := HRW.out w1 hb1; have HB1 := Lib.hid (HBX.out.trans (hb1.mono HBX.out.size)); clear hb1; have tk1 := trivial) | (have tq := tk1; refine wpList_load_row rfl 80 (.tmp 3) rfl w.heap.size rfl 80 (opCells o v1 v2 v3).toArray (0, 0) _ hG1 Tryz.underlying80 rfl (by kernel_rfl) ?_) | (have tq := tk1; refine wpList_store_row rfl 80 (.tmp 6) (.tmp 52) rfl (w.heap.size + 1) (opCells o v1 v2 v3).toArray rfl rfl 80 _ hZ1 (by kernel_rfl) rfl (op_one _ o1 o2 o3) ?_))
      refine bodyPost_ret (results_ct rfl _ _ (w.heap.size + 1) 80 (opCells o v1 v2 v3).toArray (0, 0) _ rfl (setRow_heap _ _ _ _ _ _ hZ1) Tryz.underlying80 rfl (by kernel_rfl)) rfl ?_
      rw [HF.out]
      obtain ⟨q1, q2⟩ := set_fin (opCells o v1 v2 v3).toArray HB1.out ((HR.out.below HB1.out).lower (Nat.le_refl _)) (fun k hk => by have := HLT.out k hk; omega)
      exact ⟨v1, v2, v3, rfl, q1, q2⟩
    · have HN := Lib.hid hnn
      clear hnn
      have HF : Hid (Sp.setR o 97 x = ((o.setN 1 n), 0)) := Lib.hid (Sp.setR_yes (by decide) (by decide) (fun h => absurd h.1 (by decide)) HN.out)
      go_enter Tryz.func86, Tryz.ntmps86
      go_wp2_with (first | (go_at_call 84; refine (HC84.out (setbox w o v1 v2 v3)).mono ?_; rintro e w1 ⟨rfl, hb1⟩; obtain ⟨hG1, hZ1⟩ := HRW.out w1 hb1; have HB1 := Lib.hid (HBX.out.trans (hb1.mono HBX.out.size)); clear hb1; (obtain ⟨hcc, hcfz⟩ := row_cell hG1 1 rfl); (have hR2 : (w1.setCell ⟨w.heap.size, 1, none⟩ (.int .i64 n)).heap[w.heap.size]? = some (.cells (opCells (o.setN 1 n) v1 v2 v3).toArray 80 (0, 0)) := (row_set hG1 _).trans rfl); have hZ2 := (Below.heap_setCell w1 ⟨w.heap.size, 1, none⟩ (.int .i64 n) (w.heap.size + 1) (by simp only; omega)).trans hZ1; have tk1 := trivial) | (have tq := tk1; refine wpList_load_row rfl 80 (.tmp 3) rfl w.heap.size rfl 80 (opCells (o.setN 1 n) v1 v2 v3).toArray (0, 0) _ hR2 Tryz.underlying80 rfl (by kernel_rfl) ?_) | (have tq := tk1; refine wpList_store_row rfl 80 (.tmp 6) (.tmp 71) rfl (w.heap.size + 1) (opCells (o.setN 1 n) v1 v2 v3).toArray rfl rfl 80 _ hZ2 (by kernel_rfl) rfl (op_one _ o1 o2 o3) ?_))
      refine bodyPost_ret (results_ct rfl _ _ (w.heap.size + 1) 80 (opCells (o.setN 1 n) v1 v2 v3).toArray (0, 0) _ rfl (setRow_heap _ _ _ _ _ _ hZ2) Tryz.underlying80 rfl (by kernel_rfl)) rfl ?_
      rw [HF.out]
      have q0 : OpRows (w1.setCell ⟨w.heap.size, 1, none⟩ (.int .i64 n)) base (o.setN 1 n) v1 v2 v3 := (HR.out.below HB1.out).step (by simp [World.setCell]) (fun j hj => Below.heap_setCell w1 _ _ j (by have := HLT.out j hj; simp only; omega))
      obtain ⟨q1, q2⟩ := set_fin (opCells (o.setN 1 n) v1 v2 v3).toArray (HB1.out.setCell (p := ⟨w.heap.size, 1, none⟩) (Nat.le_refl _) (.int .i64 n)) q0 (fun j hj => by have := HLT.out j hj; omega)
      exact ⟨v1, v2, v3, rfl, q1, q2⟩
  · have hL2 : L = 75 := hL
    clear hL
    subst hL2
    rcases hnl with ⟨rfl, hnn⟩ | ⟨hn0, hnn⟩
    · have HN := Lib.hid hnn
      clear hnn
      have HF : Hid (Sp.setR o 107 x = (o, 213)) := Lib.hid (Sp.setR_no (by decide) (by decide) (fun h => absurd h.1 (by decide)) HN.out)
      go_enter Tryz.func86, Tryz.ntmps86
      go_wp2_with (first | (go_at_call 84; refine (HC84.out (setbox w o v1 v2 v3)).mono ?_; rintro e w1 ⟨rfl, hb1⟩; obtain ⟨hG1, hZ1⟩ := HRW.out w1 hb1; have HB1 := Lib.hid (HBX.out.trans (hb1.mono HBX.out.size)); clear hb1; have tk1 := trivial) | (have tq := tk1; refine wpList_load_row rfl 80 (.tmp 3) rfl w.heap.size rfl 80 (opCells o v1 v2 v3).toArray (0, 0) _ hG1 Tryz.underlying80 rfl (by kernel_rfl) ?_) | (have tq := tk1; refine wpList_store_row rfl 80 (.tmp 6) (.tmp 52) rfl (w.heap.size + 1) (opCells o v1 v2 v3).toArray rfl rfl 80 _ hZ1 (by kernel_rfl) rfl (op_one _ o1 o2 o3) ?_))
      refine bodyPost_ret (results_ct rfl _ _ (w.heap.size + 1) 80 (opCells o v1 v2 v3).toArray (0, 0) _ rfl (setRow_heap _ _ _ _ _ _ hZ1) Tryz.underlying80 rfl (by kernel_rfl)) rfl ?_
      rw [HF.out]
      obtain ⟨q1, q2⟩ := set_fin (opCells o v1 v2 v3).toArray HB1.out ((HR.out.below HB1.out).lower (Nat.le_refl _)) (fun k hk => by have := HLT.out k hk; omega)
      exact ⟨v1, v2, v3, rfl, q1, q2⟩
    · have HN := Lib.hid hnn
      clear hnn
      have HF : Hid (Sp.setR o 107 x = ((o.setN 2 n), 0)) := Lib.hid (Sp.setR_yes (by decide) (by decide) (fun h => absurd h.1 (by decide)) HN.out)
      go_enter Tryz.func86, Tryz.ntmps86
      go_wp2_with (first | (go_at_call 84; refine (HC84.out (setbox w o v1 v2 v3)).mono ?_; rintro e w1 ⟨rfl, hb1⟩; obtain ⟨hG1, hZ1⟩ := HRW.out w1 hb1; have HB1 := Lib.hid (HBX.out.trans (hb1.mono HBX.out.size)); clear hb1; (obtain ⟨hcc, hcfz⟩ := row_cell hG1 2 rfl); (have hR2 : (w1.setCell ⟨w.heap.size, 2, none⟩ (.int .i64 n)).heap[w.heap.size]? = some (.cells (opCells (o.setN 2 n) v1 v2 v3).toArray 80 (0, 0)) := (row_set hG1 _).trans rfl); have hZ2 := (Below.heap_setCell w1 ⟨w.heap.size, 2, none⟩ (.int .i64 n) (w.heap.size + 1) (by simp only; omega)).trans hZ1; have tk1 := trivial) | (have tq := tk1; refine wpList_load_row rfl 80 (.tmp 3) rfl w.heap.size rfl 80 (opCells (o.setN 2 n) v1 v2 v3).toArray (0, 0) _ hR2 Tryz.underlying80 rfl (by kernel_rfl) ?_) | (have tq := tk1; refine wpList_store_row rfl 80 (.tmp 6) (.tmp 71) rfl (w.heap.size + 1) (opCells (o.setN 2 n) v1 v2 v3).toArray rfl rfl 80 _ hZ2 (by kernel_rfl) rfl (op_one _ o1 o2 o3) ?_))
      refine bodyPost_ret (results_ct rfl _ _ (w.heap.size + 1) 80 (opCells (o.setN 2 n) v1 v2 v3).toArray (0, 0) _ rfl (setRow_heap _ _ _ _ _ _ hZ2) Tryz.underlying80 rfl (by kernel_rfl)) rfl ?_
      rw [HF.out]
      have q0 : OpRows (w1.setCell ⟨w.heap.size, 2, none⟩ (.int .i64 n)) base (o.setN 2 n) v1 v2 v3 := (HR.out.below HB1.out).step (by simp [World.setCell]) (fun j hj => Below.heap_setCell w1 _ _ j (by have := HLT.out j hj; simp only; omega))
      obtain ⟨q1, q2⟩ := set_fin (opCells (o.setN 2 n) v1 v2 v3).toArray (HB1.out.setCell (p := ⟨w.heap.size, 2, none⟩) (Nat.le_refl _) (.int .i64 n)) q0 (fun j hj => by have := HLT.out j hj; omega)
      exact ⟨v1, v2, v3, rfl, q1, q2⟩
  · have hL2 : L = 77 := hL
    clear hL
    subst hL2
    rcases hnl with ⟨rfl, hnn⟩ | ⟨hn0, hnn⟩
    · have HN := Lib.hid hnn
      clear hnn
      have HF : Hid (Sp.setR o 109 x = (o, 213)) := Lib.hid (Sp.setR_no (by decide) (by decide) (fun h => absurd h.1 (by decide)) HN.out)
      go_enter Tryz.func86, Tryz.ntmps86
      go_wp2_with (first | (go_at_call 84; refine (HC84.out (setbox w o v1 v2 v3)).mono ?_; rintro e w1 ⟨rfl, hb1⟩; obtain ⟨hG1, hZ1⟩ := HRW.out w1 hb1; have HB1 := Lib.hid (HBX.out.trans (hb1.mono HBX.out.size)); clear hb1; have tk1 := trivial) | (have tq := tk1; refine wpList_load_row rfl 80 (.tmp 3) rfl w.heap.size rfl 80 (opCells o v1 v2 v3).toArray (0, 0) _ hG1 Tryz.underlying80 rfl (by kernel_rfl) ?_) | (have tq := tk1; refine wpList_store_row rfl 80 (.tmp 6) (.tmp 52) rfl (w.heap.size + 1) (opCells o v1 v2 v3).toArray rfl rfl 80 _ hZ1 (by kernel_rfl) rfl (op_one _ o1 o2 o3) ?_))
      refine bodyPost_ret (results_ct rfl _ _ (w.heap.size + 1) 80 (opCells o v1 v2 v3).toArray (0, 0) _ rfl (setRow_heap _ _ _ _ _ _ hZ1) Tryz.underlying80 rfl (by kernel_rfl)) rfl ?_
      rw [HF.out]
      obtain ⟨q1, q2⟩ := set_fin (opCells o v1 v2 v3).toArray HB1.out ((HR.out.below HB1.out).lower (Nat.le_refl _)) (fun k hk => by have := HLT.out k hk; omega)
      exact ⟨v1, v2, v3, rfl, q1, q2⟩
    · have HN := Lib.hid hnn
      clear hnn
      have HF : Hid (Sp.setR o 109 x = ((o.setN 3 n), 0)) := Lib.hid (Sp.setR_yes (by decide) (by decide) (fun h => absurd h.1 (by decide)) HN.out)
      go_enter Tryz.func86, Tryz.ntmps86
      go_wp2_with (first | (go_at_call 84; refine (HC84.out (setbox w o v1 v2 v3)).mono ?_; rintro e w1 ⟨rfl, hb1⟩; obtain ⟨hG1, hZ1⟩ := HRW.out w1 hb1; have HB1 := Lib.hid (HBX.out.trans (hb1.mono HBX.out.size)); clear hb1; (obtain ⟨hcc, hcfz⟩ := row_cell hG1 3 rfl); (have hR2 : (w1.setCell ⟨w.heap.size, 3, none⟩ (.int .i64 n)).heap[w.heap.size]? = some (.cells (opCells (o.setN 3 n) v1 v2 v3).toArray 80 (0, 0)) := (row_set hG1 _).trans rfl); have hZ2 := (Below.heap_setCell w1 ⟨w.heap.size, 3, none⟩ (.int .i64 n) (w.heap.size + 1) (by simp only; omega)).trans hZ1; have tk1 := trivial) | (have tq := tk1; refine wpList_load_row rfl 80 (.tmp 3) rfl w.heap.size rfl 80 (opCells (o.setN 3 n) v1 v2 v3).toArray (0, 0) _ hR2 Tryz.underlying80 rfl (by kernel_rfl) ?_) | (have tq := tk1; refine wpList_store_row rfl 80 (.tmp 6) (.tmp 71) rfl (w.heap.size + 1) (opCells (o.setN 3 n) v1 v2 v3).toArray rfl rfl 80 _ hZ2 (by kernel_rfl) rfl (op_one _ o1 o2 o3) ?_))
      refine bodyPost_ret (results_ct rfl _ _ (w.heap.size + 1) 80 (opCells (o.setN 3 n) v1 v2 v3).toArray (0, 0) _ rfl (setRow_heap _ _ _ _ _ _ hZ2) Tryz.underlying80 rfl (by kernel_rfl)) rfl ?_
      rw [HF.out]
      have q0 : OpRows (w1.setCell ⟨w.heap.size, 3, none⟩ (.int .i64 n)) base (o.setN 3 n) v1 v2 v3 := (HR.out.below HB1.out).step (by simp [World.setCell]) (fun j hj => Below.heap_setCell w1 _ _ j (by have := HLT.out j hj; simp only; omega))
      obtain ⟨q1, q2⟩ := set_fin (opCells (o.setN 3 n) v1 v2 v3).toArray (HB1.out.setCell (p := ⟨w.heap.size, 3, none⟩) (Nat.le_refl _) (.int .i64 n)) q0 (fun j hj => by have := HLT.out j hj; omega)
      exact ⟨v1, v2, v3, rfl, q1, q2⟩
  · have hL2 : L = 88 := hL
    clear hL
    subst hL2
    rcases hnl with ⟨rfl, hnn⟩ | ⟨hn0, hnn⟩
    · have HN := Lib.hid hnn
      clear hnn
      have HF : Hid (Sp.setR o 120 x = (o, 213)) := Lib.hid (Sp.setR_no (by decide) (by decide) (fun h => absurd h.1 (by decide)) HN.out)
      go_enter Tryz.func86, Tryz.ntmps86
      go_wp2_with (first | (go_at_call 84; refine (HC84.out (setbox w o v1 v2 v3)).mono ?_; rintro e w1 ⟨rfl, hb1⟩; obtain ⟨hG1, hZ1⟩ := HRW.out w1 hb1; have HB1 := Lib.hid (HBX.out.trans (hb1.mono HBX.out.size)); clear hb1; have tk1 := trivial) | (have tq := tk1; refine wpList_load_row rfl 80 (.tmp 3) rfl w.heap.size rfl 80 (opCells o v1 v2 v3).toArray (0, 0) _ hG1 Tryz.underlying80 rfl (by kernel_rfl) ?_) | (have tq := tk1; refine wpList_store_row rfl 80 (.tmp 6) (.tmp 52) rfl (w.heap.size + 1) (opCells o v1 v2 v3).toArray rfl rfl 80 _ hZ1 (by kernel_rfl) rfl (op_one _ o1 o2 o3) ?_))
      refine bodyPost_ret (results_ct rfl _ _ (w.heap.size + 1) 80 (opCells o v1 v2 v3).toArray (0, 0) _ rfl (setRow_heap _ _ _ _ _ _ hZ1) Tryz.underlying80 rfl (by kernel_rfl)) rfl ?_
      rw [HF.out]
      obtain ⟨q1, q2⟩ := set_fin (opCells o v1 v2 v3).toArray HB1.out ((HR.out.below HB1.out).lower (Nat.le_refl _)) (fun k hk => by have := HLT.out k hk; omega)
      exact ⟨v1, v2, v3, rfl, q1, q2⟩
    · have HN := Lib.hid hnn
      clear hnn
      have HF : Hid (Sp.setR o 120 x = ((o.setN 4 n), 0)) := Lib.hid (Sp.setR_yes (by decide) (by decide) (fun h => absurd h.1 (by decide)) HN.out)
      go_enter Tryz.func86, Tryz.ntmps86
      go_wp2_with (first | (go_at_call 84; refine (HC84.out (setbox w o v1 v2 v3)).mono ?_; rintro e w1 ⟨rfl, hb1⟩; obtain ⟨hG1, hZ1⟩ := HRW.out w1 hb1; have HB1 := Lib.hid (HBX.out.trans (hb1.mono HBX.out.size)); clear hb1; (obtain ⟨hcc, hcfz⟩ := row_cell hG1 4 rfl); (have hR2 : (w1.setCell ⟨w.heap.size, 4, none⟩ (.int .i64 n)).heap[w.heap.size]? = some (.cells (opCells (o.setN 4 n) v1 v2 v3).toArray 80 (0, 0)) := (row_set hG1 _).trans rfl); have hZ2 := (Below.heap_setCell w1 ⟨w.heap.size, 4, none⟩ (.int .i64 n) (w.heap.size + 1) (by simp only; omega)).trans hZ1; have tk1 := trivial) | (have tq := tk1; refine wpList_load_row rfl 80 (.tmp 3) rfl w.heap.size rfl 80 (opCells (o.setN 4 n) v1 v2 v3).toArray (0, 0) _ hR2 Tryz.underlying80 rfl (by kernel_rfl) ?_) | (have tq := tk1; refine wpList_store_row rfl 80 (.tmp 6) (.tmp 71) rfl (w.heap.size + 1) (opCells (o.setN 4 n) v1 v2 v3).toArray rfl rfl 80 _ hZ2 (by kernel_rfl) rfl (op_one _ o1 o2 o3) ?_))
      refine bodyPost_ret (results_ct rfl _ _ (w.heap.size + 1) 80 (opCells (o.setN 4 n) v1 v2 v3).toArray (0, 0) _ rfl (setRow_heap _ _ _ _ _ _ hZ2) Tryz.underlying80 rfl (by kernel_rfl)) rfl ?_
      rw [HF.out]
      have q0 : OpRows (w1.setCell ⟨w.heap.size, 4, none⟩ (.int .i64 n)) base (o.setN 4 n) v1 v2 v3 := (HR.out.below HB1.out).step (by simp [World.setCell]) (fun j hj => Below.heap_setCell w1 _ _ j (by have := HLT.out j hj; simp only; omega))
      obtain ⟨q1, q2⟩ := set_fin (opCells (o.setN 4 n) v1 v2 v3).toArray (HB1.out.setCell (p := ⟨w.heap.size, 4, none⟩) (Nat.le_refl _) (.int .i64 n)) q0 (fun j hj => by have := HLT.out j hj; omega)
      exact ⟨v1, v2, v3, rfl, q1, q2⟩
  · have hL2 : L = 84 := hL
    clear hL
    subst hL2
    have T : ((str x).toList == [115, 101, 114, 118, 101, 114]) = decide (x = Sp.server) := by
      have h := str_eqb x Sp.server
      rwa [show (str Sp.server).toList = [115, 101, 114, 118, 101, 114] by rw [Lib.toList_data]; rfl] at h
    by_cases hs : x = Sp.server
    · rw [decide_eq_true hs] at T
      have HS := Lib.hid hs
      clear hs hnl
      have HF : Hid (Sp.setR o 106 x = ((o.setN 1 (-1)), 0)) := Lib.hid (Sp.setR_srv HS.out)
      go_enter Tryz.func86, Tryz.ntmps86
      go_wp2_with (first | (go_at_call 84; refine (HC84.out (setbox w o v1 v2 v3)).mono ?_; rintro e w1 ⟨rfl, hb1⟩; obtain ⟨hG1, hZ1⟩ := HRW.out w1 hb1; have HB1 := Lib.hid (HBX.out.trans (hb1.mono HBX.out.size)); clear hb1; (obtain ⟨hcc, hcfz⟩ := row_cell hG1 1 rfl); (have hR2 : (w1.setCell ⟨w.heap.size, 1, none⟩ (.int .i64 (-1))).heap[w.heap.size]? = some (.cells (opCells (o.setN 1 (-1)) v1 v2 v3).toArray 80 (0, 0)) := (row_set hG1 _).trans rfl); have hZ2 := (Below.heap_setCell w1 ⟨w.heap.size, 1, none⟩ (.int .i64 (-1)) (w.heap.size + 1) (by simp only; omega)).trans hZ1; have tk1 := trivial) | (have tq := tk1; refine wpList_load_row rfl 80 (.tmp 3) rfl w.heap.size rfl 80 (opCells (o.setN 1 (-1)) v1 v2 v3).toArray (0, 0) _ hR2 Tryz.underlying80 rfl (by kernel_rfl) ?_) | (have tq := tk1; refine wpList_store_row rfl 80 (.tmp 6) (.tmp 49) rfl (w.heap.size + 1) (opCells (o.setN 1 (-1)) v1 v2 v3).toArray rfl rfl 80 _ hZ2 (by kernel_rfl) rfl (op_one _ o1 o2 o3) ?_))
      refine bodyPost_ret (results_ct rfl _ _ (w.heap.size + 1) 80 (opCells (o.setN 1 (-1)) v1 v2 v3).toArray (0, 0) _ rfl (setRow_heap _ _ _ _ _ _ hZ2) Tryz.underlying80 rfl (by kernel_rfl)) rfl ?_
      rw [HF.out]
      have q0 : OpRows (w1.setCell ⟨w.heap.size, 1, none⟩ (.int .i64 (-1))) base (o.setN 1 (-1)) v1 v2 v3 := (HR.out.below HB1.out).step (by simp [World.setCell]) (fun j hj => Below.heap_setCell w1 _ _ j (by have := HLT.out j hj; simp only; omega))
      obtain ⟨q1, q2⟩ := set_fin (opCells (o.setN 1 (-1)) v1 v2 v3).toArray (HB1.out.setCell (p := ⟨w.heap.size, 1, none⟩) (Nat.le_refl _) (.int .i64 (-1))) q0 (fun j hj => by have := HLT.out j hj; omega)
      exact ⟨v1, v2, v3, rfl, q1, q2⟩
    · rw [decide_eq_false hs] at T
      have HS := Lib.hid hs
      clear hs
      rcases hnl with ⟨rfl, hnn⟩ | ⟨hn0, hnn⟩
      · have HN := Lib.hid hnn
        clear hnn
        have HF : Hid (Sp.setR o 106 x = (o, 213)) := Lib.hid (Sp.setR_no (by decide) (by decide) (fun h => HS.out h.2) HN.out)
        go_enter Tryz.func86, Tryz.ntmps86
        go_wp2_with (first | (go_at_call 84; refine (HC84.out (setbox w o v1 v2 v3)).mono ?_; rintro e w1 ⟨rfl, hb1⟩; obtain ⟨hG1, hZ1⟩ := HRW.out w1 hb1; have HB1 := Lib.hid (HBX.out.trans (hb1.mono HBX.out.size)); clear hb1; have tk1 := trivial) | (have tq := tk1; refine wpList_load_row rfl 80 (.tmp 3) rfl w.heap.size rfl 80 (opCells o v1 v2 v3).toArray (0, 0) _ hG1 Tryz.underlying80 rfl (by kernel_rfl) ?_) | (have tq := tk1; refine wpList_store_row rfl 80 (.tmp 6) (.tmp 52) rfl (w.heap.size + 1) (opCells o v1 v2 v3).toArray rfl rfl 80 _ hZ1 (by kernel_rfl) rfl (op_one _ o1 o2 o3) ?_))
        refine bodyPost_ret (results_ct rfl _ _ (w.heap.size + 1) 80 (opCells o v1 v2 v3).toArray (0, 0) _ rfl (setRow_heap _ _ _ _ _ _ hZ1) Tryz.underlying80 rfl (by kernel_rfl)) rfl ?_
        rw [HF.out]
        obtain ⟨q1, q2⟩ := set_fin (opCells o v1 v2 v3).toArray HB1.out ((HR.out.below HB1.out).lower (Nat.le_refl _)) (fun k hk => by have := HLT.out k hk; omega)
        exact ⟨v1, v2, v3, rfl, q1, q2⟩
      · have HN := Lib.hid hnn
        clear hnn
        have HF : Hid (Sp.setR o 106 x = ((o.setN 1 n), 0)) := Lib.hid (Sp.setR_yes (by decide) (by decide) (fun h => HS.out h.2) HN.out)
        go_enter Tryz.func86, Tryz.ntmps86
        go_wp2_with (first | (go_at_call 84; refine (HC84.out (setbox w o v1 v2 v3)).mono ?_; rintro e w1 ⟨rfl, hb1⟩; obtain ⟨hG1, hZ1⟩ := HRW.out w1 hb1; have HB1 := Lib.hid (HBX.out.trans (hb1.mono HBX.out.size)); clear hb1; (obtain ⟨hcc, hcfz⟩ := row_cell hG1 1 rfl); (have hR2 : (w1.setCell ⟨w.heap.size, 1, none⟩ (.int .i64 n)).heap[w.heap.size]? = some (.cells (opCells (o.setN 1 n) v1 v2 v3).toArray 80 (0, 0)) := (row_set hG1 _).trans rfl); have hZ2 := (Below.heap_setCell w1 ⟨w.heap.size, 1, none⟩ (.int .i64 n) (w.heap.size + 1) (by simp only; omega)).trans hZ1; have tk1 := trivial) | (have tq := tk1; refine wpList_load_row rfl 80 (.tmp 3) rfl w.heap.size rfl 80 (opCells (o.setN 1 n) v1 v2 v3).toArray (0, 0) _ hR2 Tryz.underlying80 rfl (by kernel_rfl) ?_) | (have tq := tk1; refine wpList_store_row rfl 80 (.tmp 6) (.tmp 71) rfl (w.heap.size + 1) (opCells (o.setN 1 n) v1 v2 v3).toArray rfl rfl 80 _ hZ2 (by kernel_rfl) rfl (op_one _ o1 o2 o3) ?_))
        refine bodyPost_ret (results_ct rfl _ _ (w.heap.size + 1) 80 (opCells (o.setN 1 n) v1 v2 v3).toArray (0, 0) _ rfl (setRow_heap _ _ _ _ _ _ hZ2) Tryz.underlying80 rfl (by kernel_rfl)) rfl ?_
        rw [HF.out]
        have q0 : OpRows (w1.setCell ⟨w.heap.size, 1, none⟩ (.int .i64 n)) base (o.setN 1 n) v1 v2 v3 := (HR.out.below HB1.out).step (by simp [World.setCell]) (fun j hj => Below.heap_setCell w1 _ _ j (by have := HLT.out j hj; simp only; omega))
        obtain ⟨q1, q2⟩ := set_fin (opCells (o.setN 1 n) v1 v2 v3).toArray (HB1.out.setCell (p := ⟨w.heap.size, 1, none⟩) (Nat.le_refl _) (.int .i64 n)) q0 (fun j hj => by have := HLT.out j hj; omega)
        exact ⟨v1, v2, v3, rfl, q1, q2⟩
  · have hL2 : L = 68 := hL
    clear hL
    subst hL2
    have hsz : (setbox w o v1 v2 v3).heap.size = w.heap.size + 2 := by simp [setbox]
    have HSZ := Lib.hid hsz
    clear hsz hnl
    cases hq : Sp.hex x with
    | none =>
      have HN := Lib.hid hq
      clear hq
      have HF : Hid (Sp.setR o 100 x = (o, 217)) := Lib.hid (Sp.setR_d0 HN.out)
      go_enter Tryz.func86, Tryz.ntmps86
      go_wp2_with (first | (go_at_call 139; refine (rhex_none HN.out HXL.out (setbox w o v1 v2 v3)).mono ?_; rintro e w1 ⟨rfl, hb1⟩; obtain ⟨hG1, hZ1⟩ := HRW.out w1 hb1; have HB1 := Lib.hid (HBX.out.trans (hb1.mono HBX.out.size)); clear hb1; have tk1 := trivial) | (have tq := tk1; refine wpList_load_row rfl 80 (.tmp 3) rfl w.heap.size rfl 80 (opCells o v1 v2 v3).toArray (0, 0) _ hG1 Tryz.underlying80 rfl (by kernel_rfl) ?_) | (have tq := tk1; refine wpList_store_row rfl 80 (.tmp 6) (.tmp 23) rfl (w.heap.size + 1) (opCells o v1 v2 v3).toArray rfl rfl 80 _ hZ1 (by kernel_rfl) rfl (op_one _ o1 o2 o3) ?_))
      refine bodyPost_ret (results_ct rfl _ _ (w.heap.size + 1) 80 (opCells o v1 v2 v3).toArray (0, 0) _ rfl (setRow_heap _ _ _ _ _ _ hZ1) Tryz.underlying80 rfl (by kernel_rfl)) rfl ?_
      rw [HF.out]
      obtain ⟨q1, q2⟩ := set_fin (opCells o v1 v2 v3).toArray HB1.out ((HR.out.below HB1.out).lower (Nat.le_refl _)) (fun k hk => by have := HLT.out k hk; omega)
      exact ⟨v1, v2, v3, rfl, q1, q2⟩
    | some d =>
      have HN := Lib.hid hq
      clear hq
      have HF : Hid (Sp.setR o 100 x = ({ o with data := d }, 0)) := Lib.hid (Sp.setR_d1 HN.out)
      go_enter Tryz.func86, Tryz.ntmps86
      go_wp2_with (first | (go_at_call 139; refine (rhex_some HN.out HXL.out (setbox w o v1 v2 v3)).mono ?_; rintro e w1 ⟨A, c, rfl, hv, hb1⟩; obtain ⟨hG1, hZ1⟩ := HRW.out w1 hb1; have HB1 := Lib.hid (HBX.out.trans (hb1.mono HBX.out.size)); clear hb1; (obtain ⟨hcc, hcfz⟩ := row_cell hG1 14 rfl); (have hR2 : (w1.setCell ⟨w.heap.size, 14, none⟩ (.slice A d.length c)).heap[w.heap.size]? = some (.cells (opCells { o with data := d } v1 (.slice A d.length c) v3).toArray 80 (0, 0)) := (row_set hG1 _).trans rfl); have hZ2 := (Below.heap_setCell w1 ⟨w.heap.size, 14, none⟩ (.slice A d.length c) (w.heap.size + 1) (by simp only; omega)).trans hZ1; have HO := Lib.hid (And.intro hv (HRW.out _ (Below.refl _ _))); clear hv; have tk1 := trivial) | (have tq := tk1; refine wpList_load_row rfl 80 (.tmp 3) rfl w.heap.size rfl 80 (opCells { o with data := d } v1 (.slice A d.length c) v3).toArray (0, 0) _ hR2 Tryz.underlying80 rfl (by kernel_rfl) ?_) | (have tq := tk1; refine wpList_store_row rfl 80 (.tmp 6) (.tmp 26) rfl (w.heap.size + 1) (opCells { o with data := d } v1 (.slice A d.length c) v3).toArray rfl rfl 80 _ hZ2 (by kernel_rfl) rfl (op_one _ o1 rfl o3) ?_))
      refine bodyPost_ret (results_ct rfl _ _ (w.heap.size + 1) 80 (opCells { o with data := d } v1 (.slice A d.length c) v3).toArray (0, 0) _ rfl (setRow_heap _ _ _ _ _ _ hZ2) Tryz.underlying80 rfl (by kernel_rfl)) rfl ?_
      rw [HF.out]
      have hO0 := HO.out.1
      have q9 : OpRows (w1.setCell ⟨w.heap.size, 14, none⟩ (.slice A d.length c)) base o v1 v2 v3 := (HR.out.below HB1.out).step (by simp [World.setCell]) (fun j hj => Below.heap_setCell w1 _ _ j (by have := HLT.out j hj; simp only; omega))
      have hO : OU (w1.setCell ⟨w.heap.size, 14, none⟩ (.slice A d.length c)) (setbox w o v1 v2 v3).heap.size (.slice A d.length c) d := hO0.far (p := ⟨w.heap.size, 14, none⟩) (fun k hk => by have := (hO0.lt k hk).1; rw [HSZ.out] at this; simp only; omega) _
      have hOb : OU (w1.setCell ⟨w.heap.size, 14, none⟩ (.slice A d.length c)) base (.slice A d.length c) d := hO.lower (by rw [HSZ.out]; have := HBS.out; omega)
      have q5 : OpRows (w1.setCell ⟨w.heap.size, 14, none⟩ (.slice A d.length c)) base { o with data := d } v1 (.slice A d.length c) v3 := ⟨q9.1, hOb, q9.2.2.1, fun k hk hk2 => by have h1 := HLT.out k (.inl hk); have h2 := (hO.lt k hk2).1; rw [HSZ.out] at h2; omega⟩
      obtain ⟨q1, q2⟩ := set_fin (opCells { o with data := d } v1 (.slice A d.length c) v3).toArray (HB1.out.setCell (p := ⟨w.heap.size, 14, none⟩) (Nat.le_refl _) (.slice A d.length c)) q5 (fun j hj => by
        rcases hj with hj | hj | hj
        · have := HLT.out j (.inl hj); omega
        · have := (hO.lt j hj).1; rw [HSZ.out] at this; omega
        · have := HLT.out j (.inr (.inr hj)); omega)
      exact ⟨_, _, _, rfl, q1, q2⟩
  · have hL2 : L = 66 := hL
    clear hL
    subst hL2
    have hsz : (setbox w o v1 v2 v3).heap.size = w.heap.size + 2 := by simp [setbox]
    have HSZ := Lib.hid hsz
    clear hsz hnl
    cases hq : Sp.flags x with
    | none =>
      have HN := Lib.hid hq
      clear hq
      have HF : Hid (Sp.setR o 98 x = (o, 213)) := Lib.hid (Sp.setR_b0 HN.out)
      go_enter Tryz.func86, Tryz.ntmps86
      go_wp2_with (first | (go_at_call 140; refine (rbits_none HN.out HXL.out (setbox w o v1 v2 v3)).mono ?_; rintro e w1 ⟨rfl, hb1⟩; obtain ⟨hG1, hZ1⟩ := HRW.out w1 hb1; have HB1 := Lib.hid (HBX.out.trans (hb1.mono HBX.out.size)); clear hb1; have tk1 := trivial) | (have tq := tk1; refine wpList_load_row rfl 80 (.tmp 3) rfl w.heap.size rfl 80 (opCells o v1 v2 v3).toArray (0, 0) _ hG1 Tryz.underlying80 rfl (by kernel_rfl) ?_) | (have tq := tk1; refine wpList_store_row rfl 80 (.tmp 6) (.tmp 36) rfl (w.heap.size + 1) (opCells o v1 v2 v3).toArray rfl rfl 80 _ hZ1 (by kernel_rfl) rfl (op_one _ o1 o2 o3) ?_))
      refine bodyPost_ret (results_ct rfl _ _ (w.heap.size + 1) 80 (opCells o v1 v2 v3).toArray (0, 0) _ rfl (setRow_heap _ _ _ _ _ _ hZ1) Tryz.underlying80 rfl (by kernel_rfl)) rfl ?_
      rw [HF.out]
      obtain ⟨q1, q2⟩ := set_fin (opCells o v1 v2 v3).toArray HB1.out ((HR.out.below HB1.out).lower (Nat.le_refl _)) (fun k hk => by have := HLT.out k hk; omega)
      exact ⟨v1, v2, v3, rfl, q1, q2⟩
    | some d =>
      have HN := Lib.hid hq
      clear hq
      have HF : Hid (Sp.setR o 98 x = ({ o with keep := d }, 0)) := Lib.hid (Sp.setR_b1 HN.out)
      go_enter Tryz.func86, Tryz.ntmps86
      go_wp2_with (first | (go_at_call 140; refine (rbits_some HN.out HXL.out (setbox w o v1 v2 v3)).mono ?_; rintro e w1 ⟨A, c, rfl, hv, hb1⟩; obtain ⟨hG1, hZ1⟩ := HRW.out w1 hb1; have HB1 := Lib.hid (HBX.out.trans (hb1.mono HBX.out.size)); clear hb1; (obtain ⟨hcc, hcfz⟩ := row_cell hG1 15 rfl); (have hR2 : (w1.setCell ⟨w.heap.size, 15, none⟩ (.slice A d.length c)).heap[w.heap.size]? = some (.cells (opCells { o with keep := d } v1 v2 (.slice A d.length c)).toArray 80 (0, 0)) := (row_set hG1 _).trans rfl); have hZ2 := (Below.heap_setCell w1 ⟨w.heap.size, 15, none⟩ (.slice A d.length c) (w.heap.size + 1) (by simp only; omega)).trans hZ1; have HO := Lib.hid (And.intro hv (HRW.out _ (Below.refl _ _))); clear hv; have tk1 := trivial) | (have tq := tk1; refine wpList_load_row rfl 80 (.tmp 3) rfl w.heap.size rfl 80 (opCells { o with keep := d } v1 v2 (.slice A d.length c)).toArray (0, 0) _ hR2 Tryz.underlying80 rfl (by kernel_rfl) ?_) | (have tq := tk1; refine wpList_store_row rfl 80 (.tmp 6) (.tmp 39) rfl (w.heap.size + 1) (opCells { o with keep := d } v1 v2 (.slice A d.length c)).toArray rfl rfl 80 _ hZ2 (by kernel_rfl) rfl (op_one _ o1 o2 rfl) ?_))
      refine bodyPost_ret (results_ct rfl _ _ (w.heap.size + 1) 80 (opCells { o with keep := d } v1 v2 (.slice A d.length c)).toArray (0, 0) _ rfl (setRow_heap _ _ _ _ _ _ hZ2) Tryz.underlying80 rfl (by kernel_rfl)) rfl ?_
      rw [HF.out]
      have hO0 := HO.out.1
      have q9 : OpRows (w1.setCell ⟨w.heap.size, 15, none⟩ (.slice A d.length c)) base o v1 v2 v3 := (HR.out.below HB1.out).step (by simp [World.setCell]) (fun j hj => Below.heap_setCell w1 _ _ j (by have := HLT.out j hj; simp only; omega))
      have hO : OB (w1.setCell ⟨w.heap.size, 15, none⟩ (.slice A d.length c)) (setbox w o v1 v2 v3).heap.size (.slice A d.length c) d := hO0.far (p := ⟨w.heap.size, 15, none⟩) (fun k hk => by have := (hO0.lt k hk).1; rw [HSZ.out] at this; simp only; omega) _
      have hOb : OB (w1.setCell ⟨w.heap.size, 15, none⟩ (.slice A d.length c)) base (.slice A d.length c) d := hO.lower (by rw [HSZ.out]; have := HBS.out; omega)
      have q5 : OpRows (w1.setCell ⟨w.heap.size, 15, none⟩ (.slice A d.length c)) base { o with keep := d } v1 v2 (.slice A d.length c) := ⟨q9.1, q9.2.1, hOb, q9.2.2.2⟩
      obtain ⟨q1, q2⟩ := set_fin (opCells { o with keep := d } v1 v2 (.slice A d.length c)).toArray (HB1.out.setCell (p := ⟨w.heap.size, 15, none⟩) (Nat.le_refl _) (.slice A d.length c)) q5 (fun j hj => by
        rcases hj with hj | hj | hj
        · have := HLT.out j (.inl hj); omega
        · have := HLT.out j (.inr (.inl hj)); omega
        · have := (hO.lt j hj).1; rw [HSZ.out] at this; omega)
      exact ⟨_, _, _, rfl, q1, q2⟩
end Go.Proofs.YthnhfddlmkhgkaaGreatDoor

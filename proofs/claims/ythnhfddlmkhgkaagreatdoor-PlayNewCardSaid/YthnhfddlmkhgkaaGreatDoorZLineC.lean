/- Walks: what some functions of the play package and its laws compute, as contracts. -/
import Derived.Test.YthnhfddlmkhgkaaGreatDoorZSpare
set_option linter.unusedVariables false
namespace Go.Proofs.YthnhfddlmkhgkaaGreatDoor
open Go.RowKit Go.Proofs.YthnhfddlmkhgkaaGreatDoorW.PrintWords

/-- a step of texts to 1048576 bytes each -/
structure OpB (o : Sp.Op) : Prop where
  kind : i64 o.kind
  a : i64 o.a
  k : i64 o.k
  m : i64 o.m
  x : i64 o.x
  call : CallB o.call
  data : o.data.length ≤ 1048576
  keep : o.keep.length ≤ 1048576
theorem OpB.num {o : Sp.Op} (h : OpB o) (k : Nat) : i64 (o.getN k) := by
  unfold Sp.Op.getN
  repeat' split
  · exact h.a
  · exact h.k
  · exact h.m
  · exact h.x
theorem written_len {c : Sp.Call} (h : CallB c) : (Sp.written c).1.length ≤ 20971535 := by
  by_cases h0 : (Sp.written c).2 = 0
  · obtain ⟨h1, h2, h3, h4, h5⟩ := Sp.written_open h0
    rw [h5]
    have hf : ∀ j, j < 11 → (Sp.callRows.getD j ([], [])).2.length ≤ 4 ∧ (Sp.callRows.getD j ([], [])).1.length ≤ 10 := by decide
    have hf := hf c.op.toNat (by omega)
    have := join_len ((Sp.callRows.getD c.op.toNat ([], [])).1 :: (Sp.callRows.getD c.op.toNat ([], [])).2.map (Sp.wordC c)) 4194306 (fun x hx => by
      rcases List.mem_cons.1 hx with rfl | hx
      · omega
      · obtain ⟨l, _, rfl⟩ := List.mem_map.1 hx
        exact h.word l)
    simp only [List.length_cons, List.length_map] at this
    have h5 : ((Sp.callRows.getD c.op.toNat ([], [])).2.length + 1) * (4194306 + 1) ≤ 5 * (4194306 + 1) := Nat.mul_le_mul_right _ (by omega)
    omega
  · rw [Sp.written_bad h0]; simp
theorem hexed_len (d : Sp.Bs) : (Sp.hexed d).length ≤ 2 * d.length + 2 := by
  unfold Sp.hexed
  split
  · simp
  · have : ∀ l : Sp.Bs, (l.flatMap Sp.two).length = 2 * l.length := by
      intro l
      induction l with
      | nil => simp
      | cons c l ih => simp only [List.flatMap_cons, List.length_append, List.length_cons, ih]; simp [Sp.two]; omega
    have := this d
    omega
theorem flagged_len (d : List Bool) : (Sp.flagged d).length ≤ d.length + 2 := by
  unfold Sp.flagged
  split
  · simp
  · simp
theorem wordO_len {o : Sp.Op} (h : OpB o) {called : Sp.Bs} (hc : called.length ≤ 20971535) {l : UInt8} {W : Sp.Bs} (hw : Sp.wordO o called l = some W) : W.length ≤ 20971535 := by
  unfold Sp.wordO at hw
  split at hw
  · injection hw with hw; subst hw; exact hc
  · split at hw
    · injection hw with hw; subst hw; have := hexed_len o.data; have := h.data; omega
    · split at hw
      · injection hw with hw; subst hw; have := flagged_len o.keep; have := h.keep; omega
      · simp only at hw
        split at hw
        · injection hw with hw; subst hw; decide
        · split at hw
          · cases hw
          · injection hw with hw; subst hw
            have := Lib.itoa_length_le _ (h.num ((Sp.place l).getD 0)).1 (h.num ((Sp.place l).getD 0)).2
            omega
theorem wordsO_snoc {o : Sp.Op} {called : Sp.Bs} {f : Sp.Bs} {l : UInt8} {ls : Sp.Bs} {ws : List Sp.Bs} {W : Sp.Bs} (h : Sp.wordsO o called f = (Sp.wordsO o called (l :: ls)).map (ws ++ ·)) (hw : Sp.wordO o called l = some W) :
    Sp.wordsO o called f = (Sp.wordsO o called ls).map ((ws ++ [W]) ++ ·) := by
  rw [h]
  simp only [Sp.wordsO, hw, Option.map_map]
  congr 1
  funext x
  simp
theorem wordsO_none {o : Sp.Op} {called : Sp.Bs} {f : Sp.Bs} {l : UInt8} {ls : Sp.Bs} {ws : List Sp.Bs} (h : Sp.wordsO o called f = (Sp.wordsO o called (l :: ls)).map (ws ++ ·)) (hw : Sp.wordO o called l = none) : Sp.wordsO o called f = none := by
  rw [h]
  simp only [Sp.wordsO, hw]
  rfl
theorem join_small (nm : Sp.Bs) (ws : List Sp.Bs) (h1 : nm.length ≤ 10) (h2 : ws.length ≤ 4) (h3 : ∀ x ∈ ws, x.length ≤ 20971535) : (Sp.join (nm :: ws)).length ≤ 104857680 := by
  have := join_len (nm :: ws) 20971535 (fun x hx => by
    rcases List.mem_cons.1 hx with rfl | hx
    · omega
    · exact h3 x hx)
  simp only [List.length_cons] at this
  have h5 : (ws.length + 1) * (20971535 + 1) ≤ 5 * (20971535 + 1) := Nat.mul_le_mul_right _ (by omega)
  omega
/-- a step laid into a box -/
def obox (w : World) (o : Sp.Op) (v1 v2 v3 : Value) : World := w.alloc (.cells (opCells o v1 v2 v3).toArray 80)
theorem obox_below (w : World) (o : Sp.Op) (v1 v2 v3 : Value) : Below w.heap.size w (obox w o v1 v2 v3) := (Below.refl _ _).alloc (Nat.le_refl _) _
theorem obox_row (w : World) (o : Sp.Op) (v1 v2 v3 : Value) : (obox w o v1 v2 v3).heap[w.heap.size]? = some (.cells (opCells o v1 v2 v3).toArray 80 (0, 0)) := heap_alloc_new w _
theorem op_nums {w : World} {g : Nat} {o : Sp.Op} {v1 v2 v3 : Value} (h : w.heap[g]? = some (.cells (opCells o v1 v2 v3).toArray 80 (0, 0))) : ∀ k, 1 ≤ k → k ≤ 4 → w.cell? ⟨g, k, none⟩ = some (.int .i64 (o.getN k)) := by
  intro k h1 h2
  rw [cell_of_row _ _ _ _ _ _ h]
  have : k = 1 ∨ k = 2 ∨ k = 3 ∨ k = 4 := by omega
  rcases this with rfl | rfl | rfl | rfl <;> rfl
theorem op_call {w1 : World} {g : Nat} {o : Sp.Op} {v1 v2 v3 : Value} (h : w1.heap[g]? = some (.cells (opCells o v1 v2 v3).toArray 80 (0, 0))) : ∀ (j : Nat) (v : Value), (callCells o.call v1)[j]? = some v → w1.cell? ((⟨g, 5, none⟩ : Addr).add j) = some v := by
  intro j v hj
  have := row_cells h (5 + j) v (by
    have hlt : j < 9 := (List.getElem?_eq_some_iff.1 hj).1
    rw [← hj]
    match j, hlt with
    | 0, _ => rfl
    | 1, _ => rfl
    | 2, _ => rfl
    | 3, _ => rfl
    | 4, _ => rfl
    | 5, _ => rfl
    | 6, _ => rfl
    | 7, _ => rfl
    | 8, _ => rfl)
  rw [Lib.add_plain] at this ⊢
  simpa using this
/-- what the loop over a step's letters keeps -/
structure LInv (w : World) (o : Sp.Op) (v1 v2 v3 : Value) (called nm f : Sp.Bs) (i : Nat) (ws : List Sp.Bs) (v4 : Value) (wr : World) : Prop where
  hi : i ≤ f.length
  num : ws.length ≤ i
  len : ∀ x ∈ ws, x.length ≤ 20971535
  row : RowS wr w.heap.size v4 (nm :: ws)
  box : wr.heap[w.heap.size]? = some (.cells (opCells o v1 v2 v3).toArray 80 (0, 0))
  words : Sp.wordsO o called f = (Sp.wordsO o called (f.drop i)).map (ws ++ ·)
  below : Below w.heap.size w wr
theorem LInv.push {w : World} {o : Sp.Op} {v1 v2 v3 : Value} {called nm f : Sp.Bs} {i : Nat} {ws : List Sp.Bs} {v4 v5 : Value} {wr w2 w3 : World} (h : LInv w o v1 v2 v3 called nm f i ws v4 wr) {l : UInt8} {W : Sp.Bs}
    (hlt : i < f.length) (hl : f[i]'hlt = l) (hW : Sp.wordO o called l = some W) (hWl : W.length ≤ 20971535) (hb : Below wr.heap.size wr w2) (hr : RowS w3 w.heap.size v5 (nm :: ws ++ [W])) (hB : Below w.heap.size w w3) (hg : w2.grownBy w3 v4.ownBlock) :
    LInv w o v1 v2 v3 called nm f (i + 1) (ws ++ [W]) v5 w3 := by
  refine ⟨by omega, by have := h.num; simp; omega, fun x hx => ?_, hr, ?_, ?_, hB⟩
  · rcases List.mem_append.1 hx with hx | hx
    · exact h.len x hx
    · rw [List.mem_singleton.1 hx]; exact hWl
  · have hty := RowS.typed (Kd.R_below h.row hb)
    have h2 := (hb.block _ (row_lt h.box)).trans h.box
    exact (grown_far hg hty h2 (by decide)).trans h2
  · have hw := h.words
    rw [List.drop_eq_getElem_cons hlt, hl] at hw
    exact wordsO_snoc hw hW
set_option maxHeartbeats 8000000 in
set_option maxRecDepth 100000 in
theorem line_any (o : Sp.Op) (v1 v2 v3 : Value) (w : World) (he : Env w) (ho : OpV w o v1 v2 v3) (hb : OpB o) :
    Calls Tryz.prog 48 #[.agg (opCells o v1 v2 v3).toArray] w (W2 w (Sp.line o)) := by
  have HO := Lib.hid ho
  obtain ⟨hoc, ⟨A2, k2, rfl, hr2⟩, A3, k3, rfl, hr3⟩ := ho
  by_cases hop : o.kind < 1
  · have HSP : Hid (Sp.line o = ([], 212)) := Lib.hid (by unfold Sp.line; rw [if_pos (.inl hop)])
    have T : decide (o.kind < 1) = true := decide_eq_true hop
    clear hop hb he hoc hr2 hr3 HO
    show Calls Tryz.prog 48 #[.agg #[.int .i64 o.kind, .int .i64 o.a, .int .i64 o.k, .int .i64 o.m, .int .i64 o.x, .int .i64 o.call.op, .int .i64 o.call.h, .int .i64 o.call.h2, .int .i64 o.call.off, .int .i64 o.call.len, .string (str o.call.path), .string (str o.call.name), .string (str o.call.name2), v1, .slice A2 o.data.length k2, .slice A3 o.keep.length k3]] w _
    go_enter Tryz.func48, Tryz.ntmps48
    go_wp2
    go_ret2
    rw [HSP.out]
    exact ⟨rfl, (Below.refl _ _).alloc (Nat.le_refl _) _⟩
  have T1 : decide (o.kind < 1) = false := decide_eq_false hop
  by_cases hop2 : 15 ≤ o.kind
  · have HSP : Hid (Sp.line o = ([], 212)) := Lib.hid (by unfold Sp.line; rw [if_pos (.inr hop2)])
    have T : decide (15 ≤ o.kind) = true := decide_eq_true hop2
    clear hop hop2 hb he hoc hr2 hr3 HO
    show Calls Tryz.prog 48 #[.agg #[.int .i64 o.kind, .int .i64 o.a, .int .i64 o.k, .int .i64 o.m, .int .i64 o.x, .int .i64 o.call.op, .int .i64 o.call.h, .int .i64 o.call.h2, .int .i64 o.call.off, .int .i64 o.call.len, .string (str o.call.path), .string (str o.call.name), .string (str o.call.name2), v1, .slice A2 o.data.length k2, .slice A3 o.keep.length k3]] w _
    go_enter Tryz.func48, Tryz.ntmps48
    go_wp2
    go_ret2
    rw [HSP.out]
    exact ⟨rfl, (Below.refl _ _).alloc (Nat.le_refl _) _⟩
  have T2 : decide (15 ≤ o.kind) = false := decide_eq_false hop2
  obtain ⟨n, hn⟩ : ∃ n : Nat, o.kind = n := ⟨o.kind.toNat, by omega⟩
  have h15 : n < 15 := by omega
  obtain ⟨sp, hsp⟩ : ∃ x, x = Sp.spare o := ⟨_, rfl⟩
  have HC89 : Hid (∀ w1, Below w.heap.size w w1 → Calls Tryz.prog 89 #[.agg (opCells o v1 (.slice A2 o.data.length k2) (.slice A3 o.keep.length k3)).toArray] w1 (BRet w1 (.bool sp))) := Lib.hid (fun w1 h => by
    rw [hsp]
    obtain ⟨⟨a1, b1, c1, d1⟩, ⟨a2, b2, c2, d2⟩, a3, b3, c3, d3⟩ := HO.out
    exact spare_any o _ _ _ w1 (he.below h) ⟨⟨a1, b1, c1, d1.below h⟩, ⟨a2, b2, c2, d2.below h⟩, a3, b3, c3, d3.below h⟩ n hn h15 (by have := hb.call.data; omega))
  obtain ⟨f, hf⟩ : ∃ f, f = (Sp.stepRows.getD n ([], [])).2 := ⟨_, rfl⟩
  obtain ⟨nm, hnm⟩ : ∃ f, f = (Sp.stepRows.getD n ([], [])).1 := ⟨_, rfl⟩
  have hfl : f.length ≤ 4 := by
    have : ∀ j, j < 15 → (Sp.stepRows.getD j ([], [])).2.length ≤ 4 := by decide
    rw [hf]; exact this n h15
  have hnl : nm.length ≤ 10 := by
    have : ∀ j, j < 15 → (Sp.stepRows.getD j ([], [])).1.length ≤ 10 := by decide
    rw [hnm]; exact this n h15
  have HFL : Hid (∀ l ∈ f, l = 99 ∨ l = 100 ∨ l = 98 ∨ (Sp.place l).isSome = true) := Lib.hid (by
    have : ∀ j, j < 15 → ∀ l ∈ (Sp.stepRows.getD j ([], [])).2, l = 99 ∨ l = 100 ∨ l = 98 ∨ (Sp.place l).isSome = true := by decide
    rw [hf]; exact this n h15)
  have hfs : (str f).size = f.length := str_size f
  have HTB : Hid (∀ w, Env w → w.cell? ⟨0, n * 2, none⟩ = some (.string (str nm)) ∧ w.cell? ⟨0, n * 2 + 1, none⟩ = some (.string (str f))) := Lib.hid (fun w h => by
    rw [hf, hnm]; exact table_cell gSteps h.steps n h15)
  have h0 : 0 < w.heap.size := var_lt gSteps he.steps
  have HSP : Hid (Sp.line o = if sp then ([], 218) else if n = 1 ∧ (Sp.written o.call).2 ≠ 0 then ([], (Sp.written o.call).2) else match Sp.wordsO o (if n = 1 then (Sp.written o.call).1 else []) f with | some ws => (Sp.join (nm :: ws), 0) | none => ([], 213)) := Lib.hid (by
    unfold Sp.line
    rw [if_neg (by omega), ← hsp]
    simp only
    rw [show o.kind.toNat = n by omega, ← hf, ← hnm]
    have e1 : (o.kind = 1) ↔ (n = 1) := by omega
    simp only [e1]
    rfl)
  have HE := Lib.hid he
  have HOB := Lib.hid hb
  have HN := Lib.hid hn
  have HX0 := Lib.hid (obox_row w o v1 (.slice A2 o.data.length k2) (.slice A3 o.keep.length k3))
  have HB0 := Lib.hid (obox_below w o v1 (.slice A2 o.data.length k2) (.slice A3 o.keep.length k3))
  rw [hn] at T1 T2
  clear hf hnm he hb hoc hr2 hr3 hop hop2 hsp
  show Calls Tryz.prog 48 #[.agg #[.int .i64 o.kind, .int .i64 o.a, .int .i64 o.k, .int .i64 o.m, .int .i64 o.x, .int .i64 o.call.op, .int .i64 o.call.h, .int .i64 o.call.h2, .int .i64 o.call.off, .int .i64 o.call.len, .string (str o.call.path), .string (str o.call.name), .string (str o.call.name2), v1, .slice A2 o.data.length k2, .slice A3 o.keep.length k3]] w _
  rw [hn]
  have HXL : Hid ((w.alloc (.cells #[.int .i64 n, .int .i64 o.a, .int .i64 o.k, .int .i64 o.m, .int .i64 o.x, .int .i64 o.call.op, .int .i64 o.call.h, .int .i64 o.call.h2, .int .i64 o.call.off, .int .i64 o.call.len, .string (str o.call.path), .string (str o.call.name), .string (str o.call.name2), v1, .slice A2 o.data.length k2, .slice A3 o.keep.length k3] 80)) = obox w o v1 (.slice A2 o.data.length k2) (.slice A3 o.keep.length k3)) := Lib.hid (by rw [← hn]; rfl)
  clear hn
  have q1 : (0 : Int) ≤ (n : Int) ∧ (n : Int) < 15 := ⟨by omega, by omega⟩
  cases sp with
  | true =>
    go_enter Tryz.func48, Tryz.ntmps48
    go_wp2_with (first | (rw [HXL.out]; refine wpList_load_row rfl 80 (.tmp 1) rfl w.heap.size rfl 80 (opCells o v1 (.slice A2 o.data.length k2) (.slice A3 o.keep.length k3)).toArray _ _ HX0.out Tryz.underlying80 rfl (by kernel_rfl) ?_) | (go_at_call 89; refine (HC89.out _ HB0.out).mono ?_; rintro e w1 ⟨rfl, hb1⟩))
    go_ret2
    rw [HSP.out]
    exact ⟨rfl, HB0.out.trans (hb1.mono HB0.out.size)⟩
  | false =>
    go_enter Tryz.func48, Tryz.ntmps48
    go_upto_if 29 with (first | (rw [HXL.out]; refine wpList_load_row rfl 80 (.tmp 1) rfl w.heap.size rfl 80 (opCells o v1 (.slice A2 o.data.length k2) (.slice A3 o.keep.length k3)).toArray _ _ HX0.out Tryz.underlying80 rfl (by kernel_rfl) ?_) | (go_at_call 89; refine (HC89.out _ HB0.out).mono ?_; rintro e w1 ⟨rfl, hb1⟩; have HB1 := Lib.hid (HB0.out.trans (hb1.mono HB0.out.size)); have HX1 := Lib.hid ((hb1.block _ (row_lt HX0.out)).trans HX0.out); obtain ⟨x0, x1, x2, x3, x4, x5, x6⟩ := op_cells HX1.out; rw [HN.out] at x0; obtain ⟨t1, t2⟩ := HTB.out _ (HE.out.below HB1.out); have x0a := pw_cell_below ((Below.refl _ _).alloc (Nat.le_refl _) (.cells #[.string (str nm)] 9)) x0; clear hb1))
    have hsz1 : (w1.alloc (.cells #[.string (str nm)] 9)).heap.size = w1.heap.size + 1 := World.size_alloc _ _
    obtain ⟨W2, hW2⟩ : ∃ W2, W2 = w1.alloc (.cells #[.string (str nm)] 9) := ⟨_, rfl⟩
    have hb12 : Below w1.heap.size w1 W2 := by rw [hW2]; exact (Below.refl _ _).alloc (Nat.le_refl _) _
    have HBW := Lib.hid (HB1.out.trans (hb12.mono HB1.out.size))
    have HXW := Lib.hid ((hb12.block _ (row_lt HX1.out)).trans HX1.out)
    have HOW : Hid (RowS W2 w.heap.size (.slice (some ⟨w1.heap.size, 0, none⟩) 1 1) [nm]) := Lib.hid (by rw [hW2]; exact RowS.lit (cs := [nm]) (cells := [.string (str nm)]) (n := 1) HB1.out.size rfl (by omega) rfl)
    rw [← hW2]
    rw [← hW2] at x0a
    clear hW2 hb12 hsz1 HC89 HX0 HXL HX1 t1 t2 x0 x1 x2 x3 x4 x5 x6
    go_cut [5] (fun v5 wx => ∃ called : Sp.Bs, v5 = .string (str called) ∧ Hid (called.length ≤ 20971535) ∧ Hid (Sp.line o = match Sp.wordsO o called f with | some ws => (Sp.join (nm :: ws), 0) | none => ([], 213)) ∧ Below W2.heap.size W2 wx)
    case first =>
      by_cases hn1 : n = 1
      · have T : ((n : Int) == 1) = true := beq_iff_eq.2 (by omega)
        obtain ⟨t, er, hwr⟩ : ∃ t er, Sp.written o.call = (t, er) := ⟨_, _, rfl⟩
        have HTL : Hid (t.length ≤ 20971535) := Lib.hid (by have := written_len HOB.out.call; rw [hwr] at this; exact this)
        have HC53 : Hid (Calls Tryz.prog 53 #[.agg (callCells o.call v1).toArray] W2 (Go.Proofs.YthnhfddlmkhgkaaGreatDoor.W2 W2 (t, er))) := Lib.hid (by
          rw [← hwr]
          obtain ⟨A1, k1, e1, r1⟩ := HO.out.1
          exact written_any o.call v1 W2 (HE.out.below HBW.out) ⟨A1, k1, e1, r1.below HBW.out⟩ HOB.out.call)
        have HCC := Lib.hid (op_call HXW.out)
        rw [if_pos hn1, hwr] at HSP
        by_cases he0 : er = 0
        · have T2 : ((er : Int) != 0) = false := by rw [bne_eq_false_iff_eq]; omega
          have HQ : Hid (Sp.line o = match Sp.wordsO o t f with | some ws => (Sp.join (nm :: ws), 0) | none => ([], 213)) := Lib.hid (by rw [HSP.out]; simp [he0])
          clear HSP hwr he0 hn1
          go_wp2_with (first | (refine wpList_load_any rfl 51 (.tmp 31) rfl ⟨w.heap.size, 5, none⟩ rfl (callCells o.call v1) _ HCC.out Tryz.underlying51 rfl (by kernel_rfl) ?_) | (go_at_call 53; refine HC53.out.mono ?_; rintro e w3 ⟨rfl, hb3⟩))
          go_meet
          exact ⟨t, rfl, HTL, HQ, hb3⟩
        · have T2 : ((er : Int) != 0) = true := by rw [bne_iff_ne]; omega
          have HQ : Hid (Sp.line o = ([], er)) := Lib.hid (by rw [HSP.out]; simp [he0, hn1])
          clear HSP hwr he0 hn1
          go_wp2_with (first | (refine wpList_load_any rfl 51 (.tmp 31) rfl ⟨w.heap.size, 5, none⟩ rfl (callCells o.call v1) _ HCC.out Tryz.underlying51 rfl (by kernel_rfl) ?_) | (go_at_call 53; refine HC53.out.mono ?_; rintro e w3 ⟨rfl, hb3⟩))
          go_ret2
          rw [HQ.out]
          exact ⟨rfl, HBW.out.trans (hb3.mono HBW.out.size)⟩
      · have T : ((n : Int) == 1) = false := beq_eq_false_iff_ne.2 (by omega)
        have HQ : Hid (Sp.line o = match Sp.wordsO o [] f with | some ws => (Sp.join (nm :: ws), 0) | none => ([], 213)) := Lib.hid (by rw [HSP.out]; simp [hn1])
        clear HSP hn1
        go_wp2
        go_meet
        exact ⟨[], rfl, Lib.hid (by simp), HQ, Below.refl _ _⟩
    case rest =>
      obtain ⟨called, rfl, HCL, HQ, hbx⟩ := hcut
      have HBc := Lib.hid (HBW.out.trans (hbx.mono HBW.out.size))
      have HXc := Lib.hid ((hbx.block _ (row_lt HXW.out)).trans HXW.out)
      have x0c := (op_cells HXc.out).1
      rw [HN.out] at x0c
      obtain ⟨t1c, t2c⟩ := HTB.out _ (HE.out.below HBc.out)
      have HI0 : LInv w o v1 (.slice A2 o.data.length k2) (.slice A3 o.keep.length k3) called nm f 0 [] (.slice (some ⟨w1.heap.size, 0, none⟩) 1 1) wc := ⟨Nat.zero_le _, Nat.le_refl _, fun x hx => by simp at hx, Kd.R_below HOW.out hbx, HXc.out, by simp, HBc.out⟩
      clear HSP x0a hbx HXW HOW HBW HB1 HB0
      go_wp2
      clear x0c t1c t2c HXc HBc
      go_loopw [4, 46] (fun v4 v46 wr => ∃ (i : Nat) (ws : List Sp.Bs), v46 = .int .i64 (i : Int) ∧ LInv w o v1 (.slice A2 o.data.length k2) (.slice A3 o.keep.length k3) called nm f i ws v4 wr) (fun _ v46 _ => f.length - (intOf v46).toNat)
      case atStart => exact ⟨0, [], rfl, HI0⟩
      case round =>
        obtain ⟨i, ws, rfl, hI⟩ := hrel
        have HI := Lib.hid hI
        have hnum := hI.num
        have hile := hI.hi
        clear hI HI0
        obtain ⟨x0, x1, x2, x3, x4, x5, x6⟩ := op_cells HI.out.box
        rw [HN.out] at x0
        obtain ⟨t1, t2⟩ := HTB.out _ (HE.out.below HI.out.below)
        clear x1 x2 x3 x4 t1
        by_cases hlt : i < f.length
        · have q2 : (0 : Int) ≤ (i : Int) ∧ (i : Int) < (f.length : Int) := ⟨by omega, by omega⟩
          obtain ⟨L, hL⟩ : ∃ L : Int, L = ((f[i]'hlt).toNat : Int) := ⟨_, rfl⟩
          have hx : ∀ h : i < (str f).size, (((str f)[i]'h).toNat : Int) = L := fun h => by rw [hL]; rfl
          obtain ⟨l, hl⟩ : ∃ l, l = f[i]'hlt := ⟨_, rfl⟩
          rw [← hl] at hL
          have HL2 := Lib.hid hL
          have HLF := Lib.hid hl.symm
          have HMEM : Hid (l ∈ f) := Lib.hid (by rw [hl]; exact List.getElem_mem _)
          have hL0 : 0 ≤ L := by omega
          have hL1 : L ≤ 255 := by have := l.toNat_lt; omega
          have T99 : (L == 99) = decide (l = 99) := u8_eqb 99 hL rfl
          have T100 : (L == 100) = decide (l = 100) := u8_eqb 100 hL rfl
          have T98 : (L == 98) = decide (l = 98) := u8_eqb 98 hL rfl
          have T106 : (L == 106) = decide (l = 106) := u8_eqb 106 hL rfl
          have HNL : Hid ((nm :: ws).length + 1 ≤ 140737488355328 / 16) := Lib.hid (by simp; omega)
          have HWE : Hid (∀ w2, Below wr.heap.size wr w2 → RowS w2 w.heap.size u4 (nm :: ws) ∧ Below w.heap.size w w2) := Lib.hid (fun w2 h => ⟨Kd.R_below HI.out.row h, HI.out.below.trans (h.mono HI.out.below.size)⟩)
          clear hl hL
          by_cases c99 : l = 99
          · rw [decide_eq_true c99] at T99
            have HW : Hid (Sp.wordO o called l = some called) := Lib.hid (by unfold Sp.wordO; rw [if_pos c99])
            clear c99 T100 T98 T106
            go_wp2_with (at_builtin; refine ap_s (W := wr) (base := w.heap.size) (w0 := w) (v := u4) (l := nm :: ws) (c := called) rfl rfl rfl rfl rfl HI.out.row HI.out.below HI.out.below.size HNL.out ?_; intro v5 w3 HO3 HB3 hg3 j2; clear j2)
            go_roundw
            case rel => exact ⟨i + 1, ws ++ [called], by go_num, HI.out.push hlt HLF.out HW.out HCL.out (Below.refl _ _) HO3 HB3 hg3⟩
            case measure => simp [intOf]; omega
          · rw [decide_eq_false c99] at T99
            by_cases c100 : l = 100
            · rw [decide_eq_true c100] at T100
              have HW : Hid (Sp.wordO o called l = some (Sp.hexed o.data)) := Lib.hid (by unfold Sp.wordO; rw [if_neg c99, if_pos c100])
              have HWL := Lib.hid (wordO_len HOB.out HCL.out HW.out)
              have HC90 : Hid (Calls Tryz.prog 90 #[.slice A2 o.data.length k2] wr (BRet wr (.string (str (Sp.hexed o.data))))) := Lib.hid (by
                obtain ⟨_, ⟨a2, b2, c2, d2⟩, _⟩ := HO.out
                injection c2 with c2 _ c3
                subst c2 c3
                exact hexed_any _ _ _ wr (d2.below HI.out.below) (by have := HOB.out.data; omega))
              clear c99 c100 T98 T106
              go_wp2_with (first | (go_at_call 90; refine HC90.out.mono ?_; rintro e w2 ⟨rfl, hb2⟩) | (at_builtin; refine ap_s (W := w2) (base := w.heap.size) (w0 := w) (v := u4) (l := nm :: ws) (c := Sp.hexed o.data) rfl rfl rfl rfl rfl (HWE.out _ hb2).1 (HWE.out _ hb2).2 (HWE.out _ hb2).2.size HNL.out ?_; intro v5 w3 HO3 HB3 hg3 j2; clear j2))
              go_roundw
              case rel => exact ⟨i + 1, ws ++ [Sp.hexed o.data], by go_num, HI.out.push hlt HLF.out HW.out HWL.out hb2 HO3 HB3 hg3⟩
              case measure => simp [intOf]; omega
            · rw [decide_eq_false c100] at T100
              by_cases c98 : l = 98
              · rw [decide_eq_true c98] at T98
                have HW : Hid (Sp.wordO o called l = some (Sp.flagged o.keep)) := Lib.hid (by unfold Sp.wordO; rw [if_neg c99, if_neg c100, if_pos c98])
                have HWL := Lib.hid (wordO_len HOB.out HCL.out HW.out)
                have HC91 : Hid (Calls Tryz.prog 91 #[.slice A3 o.keep.length k3] wr (BRet wr (.string (str (Sp.flagged o.keep))))) := Lib.hid (by
                  obtain ⟨_, _, a2, b2, c2, d2⟩ := HO.out
                  injection c2 with c2 _ c3
                  subst c2 c3
                  exact flagged_any _ _ _ wr (d2.below HI.out.below) (by have := HOB.out.keep; omega))
                clear c99 c100 c98 T106
                go_wp2_with (first | (go_at_call 91; refine HC91.out.mono ?_; rintro e w2 ⟨rfl, hb2⟩) | (at_builtin; refine ap_s (W := w2) (base := w.heap.size) (w0 := w) (v := u4) (l := nm :: ws) (c := Sp.flagged o.keep) rfl rfl rfl rfl rfl (HWE.out _ hb2).1 (HWE.out _ hb2).2 (HWE.out _ hb2).2.size HNL.out ?_; intro v5 w3 HO3 HB3 hg3 j2; clear j2))
                go_roundw
                case rel => exact ⟨i + 1, ws ++ [Sp.flagged o.keep], by go_num, HI.out.push hlt HLF.out HW.out HWL.out hb2 HO3 HB3 hg3⟩
                case measure => simp [intOf]; omega
              · rw [decide_eq_false c98] at T98
                obtain ⟨k, hpk⟩ : ∃ k, Sp.place l = some k := by
                  rcases HFL.out l HMEM.out with h | h | h | h
                  · exact absurd h c99
                  · exact absurd h c100
                  · exact absurd h c98
                  · exact Option.isSome_iff_exists.1 h
                have hkr := place_rng hpk
                obtain ⟨x, hxx⟩ : ∃ x, x = o.getN k := ⟨_, rfl⟩
                have hck := op_nums HI.out.box k hkr.1 hkr.2
                rw [← hxx] at hck
                have HPK := Lib.hid hpk
                have HXI : Hid (i64 x) := Lib.hid (by rw [hxx]; exact HOB.out.num k)
                have HW : Hid (Sp.wordO o called l = if l = 106 ∧ x = -1 then some Sp.server else if x < 0 ∨ Sp.most < x then none else some (Lib.itoa x)) := Lib.hid (by
                  unfold Sp.wordO; rw [if_neg c99, if_neg c100, if_neg c98]; simp only [hpk, Option.getD_some, ← hxx])
                clear c99 c100 c98 hpk hxx
                by_cases cj : l = 106 ∧ x = -1
                · rw [decide_eq_true cj.1] at T106
                  have T1 : (x == -1) = true := beq_iff_eq.2 cj.2
                  have HW2 : Hid (Sp.wordO o called l = some Sp.server) := Lib.hid (by rw [HW.out, if_pos cj])
                  clear cj
                  go_wp2_with (first | (go_at_call 81; refine (place_some HL2.out HPK.out _).mono ?_; rintro e w2 ⟨rfl, rfl⟩) | (at_builtin; refine ap_s (W := wr) (base := w.heap.size) (w0 := w) (v := u4) (l := nm :: ws) (c := Sp.server) rfl rfl rfl rfl rfl HI.out.row HI.out.below HI.out.below.size HNL.out ?_; intro v5 w3 HO3 HB3 hg3 j2; clear j2))
                  go_roundw
                  case rel => exact ⟨i + 1, ws ++ [Sp.server], by go_num, HI.out.push hlt HLF.out HW2.out (by decide) (Below.refl _ _) HO3 HB3 hg3⟩
                  case measure => simp [intOf]; omega
                · have HCJ := Lib.hid cj
                  by_cases c6 : l = 106
                  · have T1 : (x == -1) = false := beq_eq_false_iff_ne.2 (fun e => cj ⟨c6, e⟩)
                    rw [decide_eq_true c6] at T106
                    clear c6 cj
                    have hxi := HXI.out
                    unfold i64 at hxi
                    by_cases cb : x < 0
                    · have T3 : decide (x < 0) = true := decide_eq_true cb
                      have HN2 : Hid (Sp.line o = ([], 213)) := Lib.hid (by
                        have hw := HI.out.words
                        rw [List.drop_eq_getElem_cons hlt, HLF.out] at hw
                        rw [HQ.out, wordsO_none hw (by rw [HW.out, if_neg HCJ.out, if_pos (.inl cb)])])
                      clear cb hxi
                      go_wp2_with (first | (go_at_call 81; refine (place_some HL2.out HPK.out _).mono ?_; rintro e w2 ⟨rfl, rfl⟩))
                      go_ret2
                      rw [HN2.out]
                      exact ⟨rfl, HI.out.below⟩
                    · have T3 : decide (x < 0) = false := decide_eq_false cb
                      by_cases cm : 1073741824 < x
                      · have T4 : decide (1073741824 < x) = true := decide_eq_true cm
                        have HN2 : Hid (Sp.line o = ([], 213)) := Lib.hid (by
                          have hw := HI.out.words
                          rw [List.drop_eq_getElem_cons hlt, HLF.out] at hw
                          rw [HQ.out, wordsO_none hw (by rw [HW.out, if_neg HCJ.out, if_pos (.inr cm)])])
                        clear cb cm hxi
                        go_wp2_with (first | (go_at_call 81; refine (place_some HL2.out HPK.out _).mono ?_; rintro e w2 ⟨rfl, rfl⟩))
                        go_ret2
                        rw [HN2.out]
                        exact ⟨rfl, HI.out.below⟩
                      · have T4 : decide (1073741824 < x) = false := decide_eq_false cm
                        have HW2 : Hid (Sp.wordO o called l = some (Lib.itoa x)) := Lib.hid (by rw [HW.out, if_neg HCJ.out, if_neg (by unfold Sp.most; omega)])
                        have HWL := Lib.hid (wordO_len HOB.out HCL.out HW2.out)
                        clear cb cm hxi
                        go_wp2_with (first | (go_at_call 81; refine (place_some HL2.out HPK.out _).mono ?_; rintro e w2 ⟨rfl, rfl⟩) | (go_at_call 50; refine (itoa_any x _ (HE.out.below HI.out.below) HXI.out.1 HXI.out.2).mono ?_; rintro e w2 ⟨rfl, hb2⟩) | (at_builtin; refine ap_s (W := w2) (base := w.heap.size) (w0 := w) (v := u4) (l := nm :: ws) (c := Lib.itoa x) rfl rfl rfl rfl rfl (HWE.out _ hb2).1 (HWE.out _ hb2).2 (HWE.out _ hb2).2.size HNL.out ?_; intro v5 w3 HO3 HB3 hg3 j2; clear j2))
                        go_roundw
                        case rel => exact ⟨i + 1, ws ++ [Lib.itoa x], by go_num, HI.out.push hlt HLF.out HW2.out HWL.out hb2 HO3 HB3 hg3⟩
                        case measure => simp [intOf]; omega
                  · rw [decide_eq_false c6] at T106
                    clear c6 cj
                    have hxi := HXI.out
                    unfold i64 at hxi
                    by_cases cb : x < 0
                    · have T3 : decide (x < 0) = true := decide_eq_true cb
                      have HN2 : Hid (Sp.line o = ([], 213)) := Lib.hid (by
                        have hw := HI.out.words
                        rw [List.drop_eq_getElem_cons hlt, HLF.out] at hw
                        rw [HQ.out, wordsO_none hw (by rw [HW.out, if_neg HCJ.out, if_pos (.inl cb)])])
                      clear cb hxi
                      go_wp2_with (first | (go_at_call 81; refine (place_some HL2.out HPK.out _).mono ?_; rintro e w2 ⟨rfl, rfl⟩))
                      go_ret2
                      rw [HN2.out]
                      exact ⟨rfl, HI.out.below⟩
                    · have T3 : decide (x < 0) = false := decide_eq_false cb
                      by_cases cm : 1073741824 < x
                      · have T4 : decide (1073741824 < x) = true := decide_eq_true cm
                        have HN2 : Hid (Sp.line o = ([], 213)) := Lib.hid (by
                          have hw := HI.out.words
                          rw [List.drop_eq_getElem_cons hlt, HLF.out] at hw
                          rw [HQ.out, wordsO_none hw (by rw [HW.out, if_neg HCJ.out, if_pos (.inr cm)])])
                        clear cb cm hxi
                        go_wp2_with (first | (go_at_call 81; refine (place_some HL2.out HPK.out _).mono ?_; rintro e w2 ⟨rfl, rfl⟩))
                        go_ret2
                        rw [HN2.out]
                        exact ⟨rfl, HI.out.below⟩
                      · have T4 : decide (1073741824 < x) = false := decide_eq_false cm
                        have HW2 : Hid (Sp.wordO o called l = some (Lib.itoa x)) := Lib.hid (by rw [HW.out, if_neg HCJ.out, if_neg (by unfold Sp.most; omega)])
                        have HWL := Lib.hid (wordO_len HOB.out HCL.out HW2.out)
                        clear cb cm hxi
                        go_wp2_with (first | (go_at_call 81; refine (place_some HL2.out HPK.out _).mono ?_; rintro e w2 ⟨rfl, rfl⟩) | (go_at_call 50; refine (itoa_any x _ (HE.out.below HI.out.below) HXI.out.1 HXI.out.2).mono ?_; rintro e w2 ⟨rfl, hb2⟩) | (at_builtin; refine ap_s (W := w2) (base := w.heap.size) (w0 := w) (v := u4) (l := nm :: ws) (c := Lib.itoa x) rfl rfl rfl rfl rfl (HWE.out _ hb2).1 (HWE.out _ hb2).2 (HWE.out _ hb2).2.size HNL.out ?_; intro v5 w3 HO3 HB3 hg3 j2; clear j2))
                        go_roundw
                        case rel => exact ⟨i + 1, ws ++ [Lib.itoa x], by go_num, HI.out.push hlt HLF.out HW2.out HWL.out hb2 HO3 HB3 hg3⟩
                        case measure => simp [intOf]; omega
        · have HLN : Hid (Sp.line o = (Sp.join (nm :: ws), 0)) := Lib.hid (by
            have hw := HI.out.words
            rw [show i = f.length by omega, List.drop_length] at hw
            simp only [Sp.wordsO, Option.map_some, List.append_nil] at hw
            rw [HQ.out, hw])
          have HJ : Hid (Calls Tryz.prog 92 #[u4, .string ⟨#[32]⟩] wr (BRet wr (.string (str (Sp.join (nm :: ws)))))) := Lib.hid (by
            refine join_any _ w.heap.size u4 wr HI.out.row (by simp) (by simp; omega) ?_
            have := join_small nm ws hnl (by omega) HI.out.len
            omega)
          go_wp2_with (go_at_call 92; refine HJ.out.mono ?_; rintro e w2 ⟨rfl, hb2⟩)
          go_ret2
          rw [HLN.out]
          exact ⟨rfl, HI.out.below.trans (hb2.mono HI.out.below.size)⟩
end Go.Proofs.YthnhfddlmkhgkaaGreatDoor

/- The row of a play's steps; a play's cells; a line cut off. -/
import Derived.Test.YthnhfddlmkhgkaaGreatDoorZStep
import Derived.Test.YthnhfddlmkhgkaaGreatDoorZWorld
set_option linter.unusedVariables false
namespace Go.Proofs.YthnhfddlmkhgkaaGreatDoor
open Go.RowKit Go.Proofs.YthnhfddlmkhgkaaGreatDoorW.PrintWords

/-- sixteen cells, whatever they are -/
def kraw : Kd (List Value) where
  sz := 16
  E := []
  K := fun _ x cs => cs = x ∧ x.length = 16 ∧ ∀ u ∈ x, u.oneCell' = true
  M := fun _ _ _ x cs => cs = x ∧ x.length = 16 ∧ ∀ u ∈ x, u.oneCell' = true
  K_len := fun h => by rw [h.1]; exact h.2.1
  K_one := fun h u hu => h.2.2 u (by rw [← h.1]; exact hu)
  K_below := fun _ h => h
  K_of_M := fun h => h
  M_mono := fun _ h => h
  M_bound := fun h => h
  M_move := fun _ h => h
  M_lower := fun _ h => h
abbrev V3 := Value × Value × Value
def V3.has (t : V3) (k : Nat) : Prop := t.1.ownBlock = some k ∨ t.2.1.ownBlock = some k ∨ t.2.2.ownBlock = some k
/-- steps and their rows' values, all made from base on, no two alike -/
inductive OpList (w : World) (base : Nat) : List Sp.Op → List V3 → Prop
  | nil : OpList w base [] []
  | snoc {os : List Sp.Op} {ts : List V3} {o : Sp.Op} {t : V3} (h : OpList w base os ts) (ho : OpRows w base o t.1 t.2.1 t.2.2) (hd : ∀ u ∈ ts, ∀ k, u.has k → ¬ t.has k) : OpList w base (os ++ [o]) (ts ++ [t])
theorem OpList.len {w : World} {base : Nat} {os : List Sp.Op} {ts : List V3} (h : OpList w base os ts) : os.length = ts.length := by
  induction h with
  | nil => rfl
  | snoc _ _ _ ih => simp [ih]
theorem OpList.lt {w : World} {base : Nat} {os : List Sp.Op} {ts : List V3} (h : OpList w base os ts) : ∀ t ∈ ts, ∀ k, V3.has t k → base ≤ k ∧ k < w.heap.size := by
  induction h with
  | nil => intro t ht; simp at ht
  | snoc h ho hd ih =>
    intro t ht k hk
    rcases List.mem_append.1 ht with ht | ht
    · exact ih t ht k hk
    · obtain rfl := List.mem_singleton.1 ht
      exact ho.lt k hk
theorem OpRows.typed {w : World} {base : Nat} {o : Sp.Op} {v1 v2 v3 : Value} (h : OpRows w base o v1 v2 v3) : ∀ k, v1.ownBlock = some k ∨ v2.ownBlock = some k ∨ v3.ownBlock = some k → ∃ cells e fr, w.heap[k]? = some (.cells cells e fr) ∧ (e = 5 ∨ e = 4) := by
  rintro k (hk | hk | hk)
  · obtain ⟨c, fr, hh⟩ := h.1.typed k hk; exact ⟨c, 5, fr, hh, .inl rfl⟩
  · obtain ⟨c, fr, hh⟩ := h.2.1.typed k hk; exact ⟨c, 5, fr, hh, .inl rfl⟩
  · obtain ⟨c, fr, hh⟩ := h.2.2.1.typed k hk; exact ⟨c, 4, fr, hh, .inr rfl⟩
theorem OpList.typed {w : World} {base : Nat} {os : List Sp.Op} {ts : List V3} (h : OpList w base os ts) : ∀ t ∈ ts, ∀ k, V3.has t k → ∃ cells e fr, w.heap[k]? = some (.cells cells e fr) ∧ (e = 5 ∨ e = 4) := by
  induction h with
  | nil => intro t ht; simp at ht
  | snoc h ho hd ih =>
    intro t ht k hk
    rcases List.mem_append.1 ht with ht | ht
    · exact ih t ht k hk
    · obtain rfl := List.mem_singleton.1 ht
      exact ho.typed k hk
theorem OpList.step {w w1 : World} {base : Nat} {os : List Sp.Op} {ts : List V3} (h : OpList w base os ts) (hs : w.heap.size ≤ w1.heap.size) (hm : ∀ t ∈ ts, ∀ k, V3.has t k → w1.heap[k]? = w.heap[k]?) : OpList w1 base os ts := by
  induction h with
  | nil => exact .nil
  | snoc h ho hd ih =>
    exact .snoc (ih fun t ht k hk => hm t (List.mem_append_left _ ht) k hk) (ho.step hs fun k hk => hm _ (List.mem_append_right _ (List.mem_singleton.2 rfl)) k hk) hd
theorem OpList.under {w w1 : World} {base : Nat} {os : List Sp.Op} {ts : List V3} (h : OpList w base os ts) (hb : Below w.heap.size w w1) : OpList w1 base os ts :=
  h.step hb.size fun t ht k hk => hb.block k (h.lt t ht k hk).2
def rawOf (p : Sp.Op × V3) : List Value := opCells p.1 p.2.1 p.2.2.1 p.2.2.2
/-- a row of steps of the call's own -/
def OpsRow (w : World) (base : Nat) (v : Value) (os : List Sp.Op) : Prop := ∃ ts, OpList w base os ts ∧ kraw.R 80 w base (fun _ => True) v ((os.zip ts).map rawOf)
theorem OpsRow.nil (w : World) (base : Nat) : OpsRow w base (.slice none 0 0) [] := ⟨[], .nil, Kd.R_nil _ _ _ _ _⟩
theorem OpsRow.len {w : World} {base : Nat} {v : Value} {os : List Sp.Op} (h : OpsRow w base v os) : ∃ A c, v = .slice A os.length c ∧ os.length ≤ c := by
  obtain ⟨ts, h1, h2⟩ := h
  obtain ⟨A, c, e, hc, _⟩ := Kd.R_reads h2
  rw [List.length_map, List.length_zip, ← h1.len, Nat.min_self] at e hc
  exact ⟨A, c, e, hc⟩
theorem OpsRow.below {w w1 : World} {base : Nat} {v : Value} {os : List Sp.Op} (h : OpsRow w base v os) (hb : Below w.heap.size w w1) : OpsRow w1 base v os := by
  obtain ⟨ts, h1, h2⟩ := h
  exact ⟨ts, h1.under hb, Kd.R_below h2 hb⟩
theorem OpsRow.one {w : World} {base : Nat} {v : Value} {os : List Sp.Op} (h : OpsRow w base v os) : v.oneCell' = true := by
  obtain ⟨A, c, rfl, _⟩ := h.len; rfl
/-- the store of a value into a block of another type -/
theorem OpsRow.far {w : World} {base : Nat} {v : Value} {os : List Sp.Op} (h : OpsRow w base v os) {g : Nat} {cells : Array Value} {fr : Nat × Nat} (hg : w.heap[g]? = some (.cells cells 28 fr)) {w1 : World} (hs : w.heap.size ≤ w1.heap.size) (hm : ∀ k, k ≠ g → w1.heap[k]? = w.heap[k]?) : OpsRow w1 base v os := by
  obtain ⟨ts, h1, h2⟩ := h
  refine ⟨ts, h1.step hs (fun t ht k hk => hm k ?_), ?_⟩
  · rintro rfl
    obtain ⟨c, e, fr2, hh, he⟩ := h1.typed t ht k hk
    rw [hg] at hh
    injection hh with hh
    injection hh with _ hh _
    rcases he with rfl | rfl <;> exact absurd hh (by decide)
  · have h3 := Kd.R_bound h2
    refine Kd.R_mono (Kd.R_step h3 (fun k hk _ => hm k ?_)) (fun _ _ => trivial)
    rintro rfl
    obtain ⟨_, _, _, q, hq, cells2, hh⟩ := hk
    rw [hg] at hh
    injection hh with hh
    injection hh with _ hh _
    have : q = 80 := by simpa [kraw] using hq
    subst this
    exact absurd hh (by decide)
theorem opCells_len (o : Sp.Op) (v1 v2 v3 : Value) : (opCells o v1 v2 v3).length = 16 := rfl
theorem opCells_one (o : Sp.Op) {v1 v2 v3 : Value} (h1 : v1.oneCell' = true) (h2 : v2.oneCell' = true) (h3 : v3.oneCell' = true) : ∀ u ∈ opCells o v1 v2 v3, u.oneCell' = true := by
  have h := op_one o h1 h2 h3
  rw [List.all_toArray] at h
  exact fun u hu => List.all_eq_true.1 h u hu
section
variable {ops : Array Oper} {rest : List Oper} {o : Oper} {a : Act} {Q : Exit → Act → World → Prop}
/-- append(v, o) of one step -/
theorem ap_op {W : World} {base : Nat} {w0 : World} {s x : Operand} {v : Value} {os : List Sp.Op} {p : Sp.Op} {v1 v2 v3 : Value}
    (hgd : o.guard = none)
    (ho : o.op = .call { callee := .builtin .append, args := #[s, x], argTypes := #[26, 26] })
    (hs : a.eval s = v) (hx : a.eval x = .slice (some ⟨W.heap.size, 0, none⟩) 1 1)
    {ts : List V3} (h1 : OpList W base os ts) (h2 : kraw.R 80 W base (fun _ => True) v ((os.zip ts).map rawOf)) (HP : OpRows W base p v1 v2 v3) (hfr : ∀ u ∈ ts, ∀ k, u.has k → ¬ V3.has (v1, v2, v3) k)
    (HB : Below base w0 W) (hbase : base ≤ W.heap.size) (hl : os.length + 1 ≤ 100000)
    (h : ∀ v4 w1, OpsRow w1 base v4 (os ++ [p]) → Below base w0 w1 → W.grownBy w1 v.ownBlock → (∀ k, v.ownBlock = some k → ∃ cells, W.heap[k]? = some (.cells cells 80 (0, 0))) → wpList Tryz.prog ops Q rest (a.put o.dst v4) w1) :
    wpList Tryz.prog ops Q (o :: rest) a (W.alloc (.cells (opCells p v1 v2 v3).toArray 80)) := by
  have hone := opCells_one p HP.1.one HP.2.1.one HP.2.2.1.one
  have hty := Kd.R_typed h2
  refine Kd.R_append kraw (w0 := w0) base hgd s x 26 80 _ 200 ho Tryz.underlying26 info80 rfl (by decide) (by omega) v ((os.zip ts).map rawOf) (opCells p v1 v2 v3) (opCells p v1 v2 v3) (fun _ => True) (fun _ => False) hs hx ⟨rfl, rfl, hone⟩ (fun _ hk => hk.elim) (fun _ _ => trivial) h2 HB hbase (by rw [List.length_map, List.length_zip, ← h1.len, Nat.min_self]; omega) ?_
  intro v4 w1 g1 g2 g3 g4
  refine h v4 w1 ⟨ts ++ [(v1, v2, v3)], ?_, ?_⟩ g2 g3 hty
  · have hsz := g3.size
    have hne : ∀ k, (∃ cells e fr, W.heap[k]? = some (.cells cells e fr) ∧ (e = 5 ∨ e = 4)) → some k ≠ v.ownBlock := by
      rintro k ⟨c, e, fr, hh, he⟩ heq
      obtain ⟨c2, hh2⟩ := hty k heq.symm
      rw [hh] at hh2
      injection hh2 with hh2
      injection hh2 with _ hh2 _
      rcases he with rfl | rfl <;> exact absurd hh2 (by decide)
    refine .snoc (h1.step hsz (fun t ht k hk => g3.block k (h1.lt t ht k hk).2 (hne k (h1.typed t ht k hk)))) (HP.step hsz (fun k hk => g3.block k (HP.lt k hk).2 (hne k (HP.typed k hk)))) hfr
  · rw [List.zip_append h1.len, List.map_append]
    exact g1
end

set_option maxRecDepth 100000 in
theorem run_build_op (W : World) (o : Sp.Op) (v1 v2 v3 : Value) : (Instr.buildSlice 26 1 #[(0, .agg (opCells o v1 v2 v3).toArray)]).run Tryz.prog W = .ok (.slice (some ⟨W.heap.size, 0, none⟩) 1 1) (W.alloc (.cells (opCells o v1 v2 v3).toArray 80)) := by
  kernel_rfl
section
variable {ops : Array Oper} {rest : List Oper} {o : Oper} {a : Act} {Q : Exit → Act → World → Prop}
theorem wpList_build_op {W : World} {x : Operand} {p : Sp.Op} {v1 v2 v3 : Value} (hgd : o.guard = none) (ho : o.op = .buildSlice 26 1 #[(0, x)]) (hx : a.eval x = .agg (opCells p v1 v2 v3).toArray)
    (h : wpList Tryz.prog ops Q rest (a.put o.dst (.slice (some ⟨W.heap.size, 0, none⟩) 1 1)) (W.alloc (.cells (opCells p v1 v2 v3).toArray 80))) : wpList Tryz.prog ops Q (o :: rest) a W := by
  have hrun : (execOp a.eval o).run Tryz.prog W = .ok (.value (.slice (some ⟨W.heap.size, 0, none⟩) 1 1)) (W.alloc (.cells (opCells p v1 v2 v3).toArray 80)) := by
    unfold execOp
    simp only [ho]
    have hm : (#[(0, x)].map fun (i, x) => (i, a.eval x)) = #[(0, .agg (opCells p v1 v2 v3).toArray)] := by simp [hx]
    rw [hm, Sem.run_bind, run_build_op]
    rfl
  refine wpList_plain hgd fun K hK => ?_
  unfold Oper.wp
  rw [hrun]
  exact hK _ _ h
end
theorem grown_keeps {W w1 : World} {v : Value} (h : W.grownBy w1 v.ownBlock) (hty : ∀ k, v.ownBlock = some k → ∃ cells, W.heap[k]? = some (.cells cells 80 (0, 0))) {k : Nat} {cells : Array Value} {t : TypeId} {fr : Nat × Nat} (hk : W.heap[k]? = some (.cells cells t fr)) (ht : t ≠ 80) : w1.heap[k]? = some (.cells cells t fr) := by
  rw [h.block k (row_lt hk) (fun he => ?_)]
  · exact hk
  · obtain ⟨c6, h6⟩ := hty k he.symm
    rw [hk] at h6
    injection h6 with h6
    injection h6 with _ h6 _
    exact ht h6
/-! ### a line cut off -/
theorem takeWhile_all {p : UInt8 → Bool} : ∀ {t : Sp.Bs}, (∀ x ∈ t, p x = true) → t.takeWhile p = t
  | [], _ => rfl
  | c :: t, h => by rw [List.takeWhile_cons_of_pos (h c List.mem_cons_self), takeWhile_all fun x hx => h x (List.mem_cons_of_mem _ hx)]
theorem dropWhile_all {p : UInt8 → Bool} : ∀ {t : Sp.Bs}, (∀ x ∈ t, p x = true) → t.dropWhile p = []
  | [], _ => rfl
  | c :: t, h => by rw [List.dropWhile_cons_of_pos (h c List.mem_cons_self), dropWhile_all fun x hx => h x (List.mem_cons_of_mem _ hx)]
theorem idx10 : ∀ t : Sp.Bs, Lib.index t [10] = if (10 : UInt8) ∈ t then ((Sp.line1 t).length : Int) else -1
  | [] => by simp [Lib.index]
  | c :: t => by
    unfold Lib.index
    rw [idx10 t]
    by_cases hc : c = 10
    · subst hc
      simp [Sp.line1, List.isPrefixOf]
    · have h1 : List.isPrefixOf [10] (c :: t) = false := by simp [List.isPrefixOf, Ne.symm hc]
      have h2 : ((10 : UInt8) ∈ c :: t) ↔ ((10 : UInt8) ∈ t) := by simp [Ne.symm hc]
      rw [h1, if_neg (by decide)]
      simp only [h2]
      have h3 : (Sp.line1 (c :: t)).length = (Sp.line1 t).length + 1 := by simp [Sp.line1, hc]
      rw [h3]
      by_cases hm : (10 : UInt8) ∈ t
      · rw [if_pos hm, if_pos hm]
        have : (((Sp.line1 t).length : Int) == -1) = false := by rw [beq_eq_false_iff_ne]; omega
        rw [this]
        simp
      · rw [if_neg hm, if_neg hm]; rfl
theorem drop_of_app {A B t : Sp.Bs} (h : A ++ B = t) : t.drop A.length = B := by subst h; exact List.drop_left
theorem cut10 (t : Sp.Bs) : (Lib.cut t [10]).1 = Sp.line1 t ∧ (Lib.cut t [10]).2.1 = Sp.rest1 t := by
  unfold Lib.cut
  rw [idx10]
  by_cases hm : (10 : UInt8) ∈ t
  · rw [if_pos hm, if_pos (by omega)]
    simp only [Int.toNat_natCast]
    have h0 : Sp.line1 t ++ t.dropWhile (· ≠ 10) = t := List.takeWhile_append_dropWhile
    constructor
    · conv => lhs; rw [← h0]
      conv => lhs; rw [List.take_append_of_le_length (by rw [h0]; exact Nat.le_refl _)]
      rw [h0, List.take_of_length_le (Nat.le_refl _)]
    · unfold Sp.rest1
      rw [← List.drop_drop]
      congr 1
      exact drop_of_app h0
  · rw [if_neg hm, if_neg (by omega)]
    have hall : ∀ x ∈ t, decide (x ≠ 10) = true := fun x hx => by simp; rintro rfl; exact hm hx
    constructor
    · show t = Sp.line1 t
      unfold Sp.line1
      exact (takeWhile_all hall).symm
    · show [] = Sp.rest1 t
      unfold Sp.rest1
      rw [dropWhile_all hall]; rfl
end Go.Proofs.YthnhfddlmkhgkaaGreatDoor

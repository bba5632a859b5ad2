/- Walks: what some functions of the play package and its laws compute, as contracts. -/
import Derived.Test.YthnhfddlmkhgkaaGreatDoorZLineC
import Derived.Test.YthnhfddlmkhgkaaGreatDoorZToldAll
import Derived.Lib.AppendStr
import Derived.Lib.SlBytesConst
import Derived.Deep.AppendSrc
set_option linter.unusedVariables false
namespace Go.Proofs.YthnhfddlmkhgkaaGreatDoor
open Go.RowKit Go.Proofs.YthnhfddlmkhgkaaGreatDoorW.PrintWords

theorem encs_us (l : Sp.Bs) : encs (Value.int .u8) (us l) = l.map fun b => Value.int .u8 (b.toNat : Int) := by
  simp only [encs, us, List.map_map]; rfl
/-- a number appended to bytes -/
theorem appint_any (x : Int) (h : i64 x) (B : Nat) (v : Value) (out : Sp.Bs) (w : World) (ho : RowU w B v out) (hB : B ≤ w.heap.size) (hl : out.length + 21 ≤ 140737488355328) (ht : Lib.TabBelow Tryz.prog B w "internal/strconv.uint64pow10" .u64 Lib.pow10Tab) :
    Calls Tryz.prog 47 #[v, .int .i64 x, .int .i64 10] w (fun e w1 => ∃ v1, e = .returned v1 ∧ RowU w1 B v1 (out ++ Lib.itoa x) ∧ Below B w w1) := by
  have hown := Kd.own_of_R ho
  rw [us_len] at hown
  refine (Tryz.strconv_AppendInt_10 B out.length x h.1 h.2 v _ w hown hB hl ht).mono ?_
  rintro e w1 ⟨v1, h1, h2, h3, _⟩
  refine ⟨v1, h1, Kd.R_of_own ?_ (fun _ _ => trivial), h3⟩
  rw [us_len, List.length_append, encs_us, List.map_append]
  rw [encs_us] at h2
  exact h2
section
variable {ops : Array Oper} {rest : List Oper} {o : Oper} {a : Act} {Q : Exit → Act → World → Prop}
/-- append(v, s...) of a string -/
theorem ap_str {W : World} {base : Nat} {w0 : World} {s x : Operand} {v : Value} {l c : Sp.Bs}
    (hgd : o.guard = none)
    (ho : o.op = .call { callee := .builtin .append, args := #[s, x], argTypes := #[45, 9] })
    (hs : a.eval s = v) (hx : a.eval x = .string (str c))
    (HO : RowU W base v l) (HB : Below base w0 W) (hbase : base ≤ W.heap.size) (hl : l.length + c.length ≤ 140737488355328)
    (h : ∀ v1 w1, RowU w1 base v1 (l ++ c) → Below base w0 w1 → wpList Tryz.prog ops Q rest (a.put o.dst v1) w1) :
    wpList Tryz.prog ops Q (o :: rest) a W := by
  obtain ⟨i, hi, hz, hsz, hby⟩ : ∃ i, Tryz.prog.info? 5 = some i ∧ i.zero = some (.int .u8 0) ∧ i.size = 1 ∧ i.bytes = 1 := by
    have h := info5
    cases hq : Tryz.prog.info? 5 with
    | none => rw [hq] at h; cases h
    | some i =>
      rw [hq] at h
      simp only [Option.map_some, Option.some.injEq, Prod.mk.injEq] at h
      exact ⟨i, rfl, h.1, h.2.1, h.2.2⟩
  have hown := Kd.own_of_R HO
  rw [us_len] at hown
  refine Lib.wpList_append_own_string (w := W) hgd s x 45 9 ho base 5 i Tryz.underlying45 Tryz.underlying9 hi hz hsz hby v l.length _ hs hown (str c) hx (by rw [str_size]; unfold maxLen; omega) (by rw [str_size]; omega) hbase ?_
  intro v1 w1 h1 h2 _
  refine h v1 w1 (Kd.R_of_own ?_ (fun _ _ => trivial)) (HB.grown h2 hbase (fun k hk => ?_))
  · rw [us_len, List.length_append, encs_us, List.map_append]
    rw [encs_us, str_size] at h1
    exact h1
  · obtain ⟨cells, fr, q⟩ := (RowU.o HO).typed k hk
    exact ((RowU.o HO).lt k hk).1
end
/-- the literal's cells -/
def wcells : List Value := [.int .u8 119, .int .u8 111, .int .u8 114, .int .u8 108, .int .u8 100]
/-- bytes of the call's own, or the literal with which they begin -/
def BytesV (w : World) (base : Nat) (v : Value) (l : Sp.Bs) : Prop :=
  RowU w base v l ∨ ∃ g, v = .slice (some ⟨g, 0, none⟩) 5 5 ∧ l = Sp.wrld ∧ base ≤ g ∧ w.heap[g]? = some (.cells wcells.toArray 5 (5, 6))
theorem BytesV.below {w w1 : World} {base : Nat} {v : Value} {l : Sp.Bs} (h : BytesV w base v l) (hb : Below w.heap.size w w1) : BytesV w1 base v l := by
  rcases h with h | ⟨g, h1, h2, h3, h4⟩
  · exact .inl (Kd.R_below h hb)
  · exact .inr ⟨g, h1, h2, h3, (hb.block g (row_lt h4)).trans h4⟩
section
variable {ops : Array Oper} {rest : List Oper} {o : Oper} {a : Act} {Q : Exit → Act → World → Prop}
theorem ap_first {W : World} {base : Nat} {w0 : World} {s x : Operand} {g : Nat} {c : UInt8} {n : Int}
    (hgd : o.guard = none)
    (ho : o.op = .call { callee := .builtin .append, args := #[s, x], argTypes := #[45, 45] })
    (hs : a.eval s = .slice (some ⟨g, 0, none⟩) 5 5) (hx : a.eval x = .slice (some ⟨W.heap.size, 0, none⟩) 1 1) (hn : n = (c.toNat : Int))
    (HO : W.heap[g]? = some (.cells wcells.toArray 5 (5, 6))) (HB : Below base w0 W) (hbase : base ≤ W.heap.size)
    (h : ∀ v1 w1, RowU w1 base v1 (Sp.wrld ++ [c]) → Below base w0 w1 → wpList Tryz.prog ops Q rest (a.put o.dst v1) w1) :
    wpList Tryz.prog ops Q (o :: rest) a (W.alloc (.cells #[.int .u8 n] 5)) := by
  obtain ⟨i, hi, hz, hsz, hby⟩ : ∃ i, Tryz.prog.info? 5 = some i ∧ i.zero = some (.int .u8 0) ∧ i.size = 1 ∧ i.bytes = 1 := by
    have h := info5
    cases hq : Tryz.prog.info? 5 with
    | none => rw [hq] at h; cases h
    | some i =>
      rw [hq] at h
      simp only [Option.map_some, Option.some.injEq, Prod.mk.injEq] at h
      exact ⟨i, rfl, h.1, h.2.1, h.2.2⟩
  obtain ⟨w', hw'⟩ : ∃ w', w' = W.alloc (.cells #[.int .u8 n] 5) := ⟨_, rfl⟩
  have hlt := row_lt HO
  have hg' : w'.heap[g]? = some (.cells wcells.toArray 5 (5, 6)) := by rw [hw', heap_alloc_old _ _ hlt]; exact HO
  have hsz' : w'.heap.size = W.heap.size + 1 := by rw [hw']; exact World.size_alloc _ _
  have hold : (Builtin.firstCells i.size 5 (.slice (some ⟨g, 0, none⟩) 5 5)).run Tryz.prog w'.drew = .ok wcells.toArray w'.drew := by
    rw [hsz]
    exact run_firstCells_some w'.drew 1 5 ⟨g, 0, none⟩ 5 5 wcells rfl (fun j u hu => row_cells (w := w'.drew) hg' j u hu)
  have hsrc : Src Tryz.prog i.size 45 (.slice (some ⟨W.heap.size, 0, none⟩) 1 1) 1 [.int .u8 n] w' := by
    rw [hsz]
    refine Src.ofSlice w' Tryz.underlying45 ⟨W.heap.size, 0, none⟩ 1 1 _ rfl (fun j u hu => ?_) (fun u hu => by rw [List.mem_singleton.1 hu]; rfl)
    have hh : w'.heap[W.heap.size]? = some (.cells [Value.int .u8 n].toArray 5 (0, 0)) := by rw [hw']; exact heap_alloc_new _ _
    exact row_cells hh j u hu
  have hr := run_append_grow_src w' 45 45 o.type 5 i (.int .u8 0) Tryz.underlying45 hi hz (some ⟨g, 0, none⟩) 5 5 wcells hold _ 1 [.int .u8 n] hsrc (by omega) (by omega) (by rw [hby]; decide)
  have hge := grownCap_ge w' 6 5 5
  have hle := grownCap_le_maxLen w' 6 5 5 (by simp [maxLen])
  obtain ⟨cp, hcp⟩ : ∃ cp, cp = grownCap w' 6 5 5 := ⟨_, rfl⟩
  rw [← hcp] at hge hle
  simp only [← hcp] at hr
  rw [← hw']
  refine wpList_plain hgd fun K hK => ?_
  unfold Oper.wp execOp
  simp only [ho, resolve, invoke, builtin, Sem.run_bind, Sem.run_pure, Result.andThen_ok, List.map_toArray, List.map_cons, List.map_nil, hs, hx, hr]
  refine hK _ _ (h _ _ (Kd.R_of_own ⟨by rw [encs_length, us_len]; rfl, .inr ⟨w'.heap.size, cp, _, rfl, by omega, heap_alloc_new w'.drew _, hge, hle, ?_, ?_⟩⟩ (fun _ _ => trivial)) ?_)
  · rw [Array.size_append, size_zeroCells]
    have e : (Value.int .u8 0).cells.size = 1 := rfl
    rw [e]
    simp [wcells]
    omega
  · subst hn
    rw [encs_us]
    simp [wcells, Sp.wrld, us]
  · have hb1 : Below base w0 w' := by rw [hw']; exact HB.alloc hbase _
    exact hb1.drew.alloc (show base ≤ w'.heap.size by omega) _
theorem ap_b1 {W : World} {base : Nat} {w0 : World} {s x : Operand} {v : Value} {l : List UInt8} {c : UInt8} {n : Int}
    (hgd : o.guard = none)
    (ho : o.op = .call { callee := .builtin .append, args := #[s, x], argTypes := #[45, 45] })
    (hs : a.eval s = v) (hx : a.eval x = .slice (some ⟨W.heap.size, 0, none⟩) 1 1) (hn : n = (c.toNat : Int))
    (HO : BytesV W base v l) (HB : Below base w0 W) (hbase : base ≤ W.heap.size) (hl : l.length + 1 ≤ 140737488355328)
    (h : ∀ v1 w1, RowU w1 base v1 (l ++ [c]) → Below base w0 w1 → wpList Tryz.prog ops Q rest (a.put o.dst v1) w1) :
    wpList Tryz.prog ops Q (o :: rest) a (W.alloc (.cells #[.int .u8 n] 5)) := by
  rcases HO with HO | ⟨g, rfl, rfl, h3, h4⟩
  · exact ap_u8 hgd ho hs hx hn HO HB hbase hl (fun v1 w1 h1 h2 _ _ => h v1 w1 h1 h2)
  · exact ap_first hgd ho hs hx hn h4 HB hbase h
end
/-- a play whose texts are of 1048576 bytes each -/
structure PlayB (p : Sp.Play) : Prop where
  nums : ∀ x ∈ p.nums, i64 x
  ops : ∀ o ∈ p.ops, OpB o
theorem line_len {o : Sp.Op} (h : OpB o) : (Sp.line o).1.length ≤ 104857680 := by
  by_cases h0 : (Sp.line o).2 = 0
  · obtain ⟨h1, h2, h3, h4, Ws, h5, h6⟩ := Sp.line_open h0
    rw [h6]
    have hf : ∀ j, j < 15 → (Sp.stepRows.getD j ([], [])).2.length ≤ 4 ∧ (Sp.stepRows.getD j ([], [])).1.length ≤ 10 := by decide
    have hf := hf o.kind.toNat (by omega)
    have hl := Sp.wordsO_len h5
    refine join_small _ Ws hf.2 (by omega) (fun x hx => ?_)
    have hc : (if o.kind = 1 then (Sp.written o.call).1 else []).length ≤ 20971535 := by
      split
      · exact written_len h.call
      · simp
    have key : ∀ (ls : Sp.Bs) (Ws : List Sp.Bs), Sp.wordsO o (if o.kind = 1 then (Sp.written o.call).1 else []) ls = some Ws → ∀ x ∈ Ws, x.length ≤ 20971535 := by
      intro ls
      induction ls with
      | nil => intro Ws h x hx; simp only [Sp.wordsO] at h; injection h with h; subst h; simp at hx
      | cons l ls ih =>
        intro Ws h2 x hx
        simp only [Sp.wordsO] at h2
        cases hw : Sp.wordO o (if o.kind = 1 then (Sp.written o.call).1 else []) l with
        | none => rw [hw] at h2; cases h2
        | some W =>
          rw [hw] at h2
          simp only at h2
          cases hws : Sp.wordsO o (if o.kind = 1 then (Sp.written o.call).1 else []) ls with
          | none => rw [hws] at h2; cases h2
          | some Ws2 =>
            rw [hws] at h2
            simp only [Option.map_some] at h2
            injection h2 with h2
            subst h2
            rcases List.mem_cons.1 hx with rfl | hx
            · exact wordO_len h hc hw
            · exact ih Ws2 hws x hx
    exact key _ Ws h5 x hx
  · rw [Sp.line_bad h0]; simp
theorem linesP_snoc {os : List Sp.Op} {i : Nat} {out : Sp.Bs} (h : Sp.linesP os = ((Sp.linesP (os.drop i)).1, out ++ (Sp.linesP (os.drop i)).2)) (hlt : i < os.length) (hl : (Sp.line (os[i]'hlt)).2 = 0) :
    Sp.linesP os = ((Sp.linesP (os.drop (i + 1))).1, (out ++ ((Sp.line (os[i]'hlt)).1 ++ [10])) ++ (Sp.linesP (os.drop (i + 1))).2) := by
  rw [List.drop_eq_getElem_cons hlt] at h
  simp only [Sp.linesP] at h
  rw [if_neg (by omega)] at h
  rw [h]
  simp
theorem linesP_err {os : List Sp.Op} {i : Nat} {out : Sp.Bs} (h : Sp.linesP os = ((Sp.linesP (os.drop i)).1, out ++ (Sp.linesP (os.drop i)).2)) (hlt : i < os.length) (hl : (Sp.line (os[i]'hlt)).2 ≠ 0) :
    (Sp.linesP os).1 = some (Sp.line (os[i]'hlt)).2 := by
  rw [List.drop_eq_getElem_cons hlt] at h
  simp only [Sp.linesP] at h
  rw [if_pos hl] at h
  rw [h]
/-- a play laid into a box -/
def pbox (w : World) (a : List Int) (va : Value) : World := w.alloc (.cells (playCells a va).toArray 28)
theorem pbox_below (w : World) (a : List Int) (va : Value) : Below w.heap.size w (pbox w a va) := (Below.refl _ _).alloc (Nat.le_refl _) _
theorem pbox_row (w : World) (a : List Int) (va : Value) : (pbox w a va).heap[w.heap.size]? = some (.cells (playCells a va).toArray 28 (0, 0)) := heap_alloc_new w _
theorem play_num {w : World} {g : Nat} {a : List Int} {va : Value} (h : w.heap[g]? = some (.cells (playCells a va).toArray 28 (0, 0))) (i : Nat) (hi : i < a.length) : w.cell? ⟨g, i, none⟩ = some (.int .i64 (a[i]'hi)) := by
  rw [cell_of_row _ _ _ _ _ _ h]
  simp [playCells, hi, List.getElem?_append_left]
theorem play_ops {w : World} {g : Nat} {a : List Int} {va : Value} (h : w.heap[g]? = some (.cells (playCells a va).toArray 28 (0, 0))) (hl : a.length = 11) : w.cell? ⟨g, 11, none⟩ = some va := by
  rw [cell_of_row _ _ _ _ _ _ h]
  simp [playCells, hl]
end Go.Proofs.YthnhfddlmkhgkaaGreatDoor

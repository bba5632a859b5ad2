/- Walks: what some functions of the play package and its laws compute, as contracts. -/
import Derived.Test.YthnhfddlmkhgkaaGreatDoorZPrintP
set_option linter.unusedVariables false
namespace Go.Proofs.YthnhfddlmkhgkaaGreatDoor
open Go.RowKit Go.Proofs.YthnhfddlmkhgkaaGreatDoorW.PrintWords

theorem size_setFrom : ∀ (vs : List Value) (o : Nat) (cs : Array Value), (setFrom cs o vs).size = cs.size
  | [], _, _ => rfl
  | v :: r, o, cs => by rw [setFrom, size_setFrom r]; simp
theorem take_setFrom : ∀ (vs : List Value) (o : Nat) (cs : Array Value), o + vs.length ≤ cs.size → (setFrom cs o vs).toList.take (o + vs.length) = cs.toList.take o ++ vs
  | [], o, cs, _ => by simp [setFrom]
  | v :: r, o, cs, h => by
    simp only [List.length_cons] at h
    rw [setFrom, show o + (v :: r).length = (o + 1) + r.length by simp; omega, take_setFrom r (o + 1) _ (by simp; omega)]
    have e : (cs.setIfInBounds o v).toList.take (o + 1) = cs.toList.take o ++ [v] := by
      rw [Array.toList_setIfInBounds]
      apply List.ext_getElem
      · simp; omega
      · intro i h1 h2
        simp only [List.length_take, List.length_set, Array.length_toList] at h1
        rw [List.getElem_take, List.getElem_set]
        by_cases hi : o = i
        · subst hi
          rw [if_pos rfl, List.getElem_append_right (by simp; omega)]
          simp
        · rw [if_neg hi, List.getElem_append_left (by simp; omega), List.getElem_take]
    rw [e]
    simp
theorem strCells_us (c : Sp.Bs) : Lib.strCells (str c) = encs (Value.int .u8) (us c) := by
  rw [encs_us]; rfl
theorem encs_app (a b : Sp.Bs) : encs (Value.int .u8) (us (a ++ b)) = encs (Value.int .u8) (us a) ++ encs (Value.int .u8) (us b) := by
  rw [encs_us, encs_us, encs_us, List.map_append]
theorem encs_len (a : Sp.Bs) : (encs (Value.int .u8) (us a)).length = a.length := by rw [encs_length, us_len]
/-- append(v, s...) of a string to bytes that may have been a string's -/
theorem run_append_O (w : World) (base : Nat) (ty : TypeId) (v : Value) (l c : Sp.Bs) (h : OU w base v l) (hl : l.length + c.length ≤ 140737488355328) (hbase : base ≤ w.heap.size) :
    ∃ v' w', (Builtin.append_ #[45, 9] ty #[v, .string (str c)]).run Tryz.prog w = .ok v' w' ∧ OU w' base v' (l ++ c) ∧ w.grownBy w' v.ownBlock := by
  obtain ⟨i, hi, hz, hsz, hby⟩ : ∃ i, Tryz.prog.info? 5 = some i ∧ i.zero = some (.int .u8 0) ∧ i.size = 1 ∧ i.bytes = 1 := by
    have h := info5
    cases hq : Tryz.prog.info? 5 with
    | none => rw [hq] at h; cases h
    | some i =>
      rw [hq] at h
      simp only [Option.map_some, Option.some.injEq, Prod.mk.injEq] at h
      exact ⟨i, rfl, h.1, h.2.1, h.2.2⟩
  have hcs : (str c).size = c.length := str_size c
  rcases h with ⟨h0, rfl⟩ | ⟨g, cells, fr, rfl, h2, h3, h4, h5, h6, h7, h8⟩
  · have hl0 : l = [] := by
      have := congrArg List.length h0
      rw [encs_len] at this
      exact List.eq_nil_of_length_eq_zero this
    subst hl0
    obtain ⟨v', w', k1, k2, k3, _⟩ := Lib.run_append_own_string (P := Tryz.prog) w base 45 9 ty 5 i Tryz.underlying45 Tryz.underlying9 hi hz hsz hby (.slice none 0 0) 0 [] (World.ownsRow_nil w base 5 1) (str c) (by unfold maxLen; omega) (by omega) hbase
    refine ⟨v', w', k1, ?_, k3⟩
    rw [List.nil_append, strCells_us] at k2
    exact ORow.own k2
  · rw [encs_len] at *
    have hone : ∀ u ∈ Lib.strCells (str c), u.oneCell' = true := Lib.strCells_oneCell _
    have hsl : (Lib.strCells (str c)).length = c.length := by rw [Lib.strCells_length, hcs]
    by_cases hroom : l.length + c.length ≤ cells.size
    · have hst := run_storeCells_cells (P := Tryz.prog) g l.length (Lib.strCells (str c)) 0 w (fun j hj => by
          rw [cell_of_row _ _ _ _ _ _ h4, Array.getElem?_eq_getElem (show l.length + 0 + j < cells.size by omega)]; rfl) (fun j hj => by
          have hh := h5 (l.length + 0 + j) (by omega)
          simp only [World.frozen?, h4]
          simpa using hh) hone
      rw [Nat.add_zero] at hst
      have hf := Lib.run_firstCells_string (P := Tryz.prog) w 1 (str c)
      refine ⟨.slice (some ⟨g, 0, none⟩) (l.length + c.length) cells.size, w.setCells g l.length (Lib.strCells (str c)), ?_, ?_, ?_⟩
      · rw [hcs] at hf
        simp [Builtin.append_, run_underlying Tryz.underlying45, run_underlying Tryz.underlying9, sizeOf, typeInfo, hi, hsz, Builtin.lenOf, hcs, hroom, hf, Addr.add_lit, hst]
      · refine .inr ⟨g, setFrom cells l.length (Lib.strCells (str c)), fr, by rw [encs_len, List.length_append, size_setFrom], h2, by rw [size_setCells]; exact h3, row_setCells _ _ _ _ h4, fun j hj => h5 j (by rwa [size_setFrom] at hj), by rw [encs_len, List.length_append, size_setFrom]; exact hroom, by rw [size_setFrom]; exact h7, ?_⟩
        have ht := take_setFrom (Lib.strCells (str c)) l.length cells (by omega)
        rw [encs_len, List.length_append, ← hsl, ht, h8, encs_app, strCells_us]
      · have hb := below_setCells (Nat.le_refl g) (Lib.strCells (str c)) l.length w w (Below.refl _ _)
        exact ⟨hb.os, hb.tape, hb.output, hb.size, fun k _ hk => other_setCells (fun e => hk (by rw [e]; rfl)) _ _ _⟩
    · have holds : ∀ (j : Nat) (u : Value), (encs (Value.int .u8) (us l))[j]? = some u → w.cell? ((⟨g, 0, none⟩ : Addr).add j) = some u := fun j u hu => by
        have hj : j < l.length := by have := (List.getElem?_eq_some_iff.1 hu).1; rwa [encs_len] at this
        rw [add_plain, cell_of_row _ _ _ _ _ _ h4]
        have h9 : (cells.toList.take l.length)[j]? = (encs (Value.int .u8) (us l))[j]? := by rw [h8]
        rw [List.getElem?_take_of_lt hj, hu] at h9
        simpa using h9
      have hr := Lib.run_append_grow_string (P := Tryz.prog) w 45 9 ty 5 i (.int .u8 0) Tryz.underlying45 Tryz.underlying9 hi hz ⟨g, 0, none⟩ l.length cells.size (encs (Value.int .u8) (us l)) (by rw [hsz, encs_len]; omega) holds (str c) (by omega) (by omega) (by rw [hby]; exact growslice_fits (by omega) (by omega))
      rw [hcs] at hr
      have hz1 : (Value.int IntKind.u8 0).cells.size = 1 := rfl
      have hge := grownCap_ge w (l.length + c.length) cells.size 5
      have hle := grownCap_le_maxLen w (l.length + c.length) cells.size 5 (by unfold maxLen; omega)
      obtain ⟨cap, hcap⟩ : ∃ cap, cap = grownCap w (l.length + c.length) cells.size 5 := ⟨_, rfl⟩
      rw [← hcap] at hr hge hle
      obtain ⟨CS, hCS⟩ : ∃ CS, CS = (encs (Value.int .u8) (us l)).toArray ++ (Lib.strCells (str c)).toArray ++ Builtin.zeroCells (Value.int .u8 0).cells (cap - (l.length + c.length)) := ⟨_, rfl⟩
      rw [← hCS] at hr
      have hsz2 : CS.size = cap := by
        rw [hCS]
        simp only [Array.size_append, List.size_toArray, size_zeroCells, hz1, encs_len, hsl]
        omega
      refine ⟨_, _, hr, .inr ⟨w.heap.size, CS, (0, 0), by rw [encs_len, List.length_append, hsz2], hbase, by simp, heap_alloc_new w.drew _, fun _ _ => by omega, by rw [encs_len, List.length_append, hsz2]; exact hge, by rw [hsz2]; exact hle, ?_⟩, ⟨rfl, rfl, rfl, by simp, fun k hk _ => heap_alloc_old w.drew _ hk⟩⟩
      rw [encs_app, ← strCells_us c, hCS]
      simp only [Array.toList_append, List.append_assoc]
      rw [← List.append_assoc]
      exact List.take_left
section
variable {ops : Array Oper} {rest : List Oper} {o : Oper} {a : Act} {Q : Exit → Act → World → Prop}
theorem ap_strO {W : World} {base : Nat} {w0 : World} {s x : Operand} {v : Value} {l c : Sp.Bs}
    (hgd : o.guard = none)
    (ho : o.op = .call { callee := .builtin .append, args := #[s, x], argTypes := #[45, 9] })
    (hs : a.eval s = v) (hx : a.eval x = .string (str c))
    (HO : OU W base v l) (HB : Below base w0 W) (hbase : base ≤ W.heap.size) (hl : l.length + c.length ≤ 140737488355328)
    (h : ∀ v1 w1, OU w1 base v1 (l ++ c) → Below base w0 w1 → wpList Tryz.prog ops Q rest (a.put o.dst v1) w1) :
    wpList Tryz.prog ops Q (o :: rest) a W := by
  refine wpList_plain hgd fun K hK => ?_
  obtain ⟨v', w', hr, h2, h3⟩ := run_append_O W base o.type v l c HO hl hbase
  unfold Oper.wp execOp
  simp only [ho, resolve, invoke, builtin, Sem.run_bind, Sem.run_pure, Result.andThen_ok, List.map_toArray, List.map_cons, List.map_nil, hs, hx, hr]
  exact hK _ _ (h v' w' h2 (HB.grown h3 hbase (fun k hk => (HO.lt k hk).1)))
end
end Go.Proofs.YthnhfddlmkhgkaaGreatDoor

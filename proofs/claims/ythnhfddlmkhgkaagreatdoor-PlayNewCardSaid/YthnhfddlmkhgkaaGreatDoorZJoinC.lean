/- Walks: what some functions of the play package and its laws compute, as contracts. -/
import Derived.Test.YthnhfddlmkhgkaaGreatDoorZToldAll
import Derived.Test.YthnhfddlmkhgkaaGreatDoorZLawAll
import Derived.Lib.ItoaLen
set_option linter.unusedVariables false
namespace Go.Proofs.YthnhfddlmkhgkaaGreatDoor
open Go.RowKit Go.Proofs.YthnhfddlmkhgkaaGreatDoorW.PrintWords

theorem RowS.lit {W : World} {base : Nat} {cs : List Sp.Bs} {cells : List Value} {n : Nat} (hb : base ≤ W.heap.size) (hn : cs.length = n) (hl : n ≤ 65536) (hc : cells = (cs.map str).map Value.string) :
    RowS (W.alloc (.cells cells.toArray 9)) base (.slice (some ⟨W.heap.size, 0, none⟩) n n) cs := by
  subst hc
  subst hn
  have hh : (W.alloc (.cells ((cs.map str).map Value.string).toArray 9)).heap[W.heap.size]? = some (.cells ((cs.map str).map Value.string).toArray 9 (0, 0)) := heap_alloc_new W _
  refine Kd.R_of_own ⟨by rw [encs_length, List.length_map]; omega, .inr ⟨W.heap.size, cs.length, _, by rw [List.length_map], hb, hh, by rw [List.length_map]; omega, by simp only [maxLen]; omega, by simp, ?_⟩⟩ (fun _ _ => trivial)
  rw [List.length_map]
  simp only [encs]
  exact List.take_of_length_le (by simp)
theorem RowS.o {w : World} {base : Nat} {v : Value} {l : List Sp.Bs} (h : RowS w base v l) : ORow 9 w base v (encs Value.string (l.map str)) := ORow.own (Kd.own_of_R h)
theorem RowS.typed {w : World} {base : Nat} {v : Value} {l : List Sp.Bs} (h : RowS w base v l) : ∀ k, v.ownBlock = some k → ∃ cells, w.heap[k]? = some (.cells cells 9 (0, 0)) := Kd.R_typed h
/-- what append leaves of a block of another type -/
theorem grown_far {W w1 : World} {v : Value} (h : W.grownBy w1 v.ownBlock) (hty : ∀ k, v.ownBlock = some k → ∃ cells, W.heap[k]? = some (.cells cells 9 (0, 0))) {k : Nat} {cells : Array Value} {t : TypeId} {fr : Nat × Nat} (hk : W.heap[k]? = some (.cells cells t fr)) (ht : t ≠ 9) : w1.heap[k]? = W.heap[k]? := by
  rw [h.block k (row_lt hk) (fun he => ?_)]
  obtain ⟨c6, h6⟩ := hty k he.symm
  rw [hk] at h6
  injection h6 with h6
  injection h6 with _ h6 _
  exact ht h6
theorem CallAt.grown {W w1 : World} {base g : Nat} {c : Sp.Call} {v : Value} (hc : CallAt W base g c) (h : W.grownBy w1 v.ownBlock) (hty : ∀ k, v.ownBlock = some k → ∃ cells, W.heap[k]? = some (.cells cells 9 (0, 0))) : CallAt w1 base g c := by
  obtain ⟨u, h1, h2, h3⟩ := hc
  refine ⟨u, (grown_far h hty h1 (by decide)).trans h1, h2.step h.size (fun k hk => ?_), h3⟩
  obtain ⟨cells, fr, q⟩ := h2.typed k hk
  exact grown_far h hty q (by decide)
theorem join_lib (ws : List Sp.Bs) : Lib.join ((ws.map str).map (·.data.toList)) (⟨#[32]⟩ : ByteArray).data.toList = Sp.join ws := by
  have e : (ws.map str).map (·.data.toList) = ws := by rw [List.map_map]; exact (List.map_congr_left (g := id) fun x _ => rfl).trans (List.map_id ws)
  rw [e, show (⟨#[32]⟩ : ByteArray).data.toList = [32] from rfl]
  cases ws with
  | nil => rfl
  | cons x r =>
    rw [Lib.join_cons, Sp.join_cons, Lib.joinTail, List.flatMap_def]
    rfl
theorem join_any (ws : List Sp.Bs) (base : Nat) (v : Value) (w : World) (h : RowS w base v ws) (hne : ws ≠ []) (hn : ws.length ≤ 65536) (hl : (Sp.join ws).length ≤ 140737488355328) :
    Calls Tryz.prog 92 #[v, .string ⟨#[32]⟩] w (BRet w (.string (str (Sp.join ws)))) := by
  rcases h.o with ⟨h0, _⟩ | ⟨g, cells, fr, rfl, h2, h3, h4, h5, h6, h7, h8⟩
  · cases ws with
    | nil => exact absurd rfl hne
    | cons a b => simp [encs] at h0
  · rw [encs_length, List.length_map] at *
    have hj := Tryz.strings_Join g 0 cells.size (ws.map str) ⟨#[32]⟩ w (fun j x hx => ?_) h3 (by rw [List.length_map]; omega) (by rw [List.length_map]; exact h6) (by rw [join_lib]; exact hl)
    · rw [List.length_map, join_lib] at hj
      exact hj.mono fun e w1 ⟨q1, q2⟩ => ⟨q1, q2⟩
    · have hjl : j < ws.length := by have := (List.getElem?_eq_some_iff.1 hx).1; rwa [List.length_map] at this
      rw [Nat.zero_add, cell_of_row _ _ _ _ _ _ h4]
      have h9 : (cells.toList.take ws.length)[j]? = (encs Value.string (ws.map str))[j]? := by rw [h8]
      rw [List.getElem?_take_of_lt hjl] at h9
      have h10 : (encs Value.string (ws.map str))[j]? = some (.string x) := by simp only [encs, List.getElem?_map, hx]; rfl
      rw [h10] at h9
      simpa using h9
section
variable {P : Program} {ops : Array Oper} {rest : List Oper} {o : Oper} {a : Act} {Q : Exit → Act → World → Prop}
/-- a whole struct loaded from any address -/
theorem wpList_load_any {w : World} (hgd : o.guard = none) (ty : TypeId) (x : Operand) (ho : o.op = .load ty x)
    (p : Addr) (hx : a.eval x = .pointer (some p)) (cs : List Value) (d : TypeDesc) (hc : ∀ j v, cs[j]? = some v → w.cell? (p.add j) = some v)
    (hu : P.underlying ty = some d) (hd : d.isRow = true) (hi : (P.info? ty).map (·.size) = some cs.length)
    (h : wpList P ops Q rest (a.put o.dst (.agg cs.toArray)) w) : wpList P ops Q (o :: rest) a w := by
  have hrun : (execOp a.eval o).run P w = .ok (.value (.agg cs.toArray)) w := by
    unfold execOp
    simp only [ho, hx]
    rw [Sem.run_bind, run_loadAt_any w p ty cs d hc hu hd hi]
    rfl
  refine wpList_plain hgd fun K hK => ?_
  unfold Oper.wp
  rw [hrun]
  exact hK _ _ h
end
theorem text_len (s : Sp.Bs) : (Sp.text s).length ≤ 4 * s.length + 2 := by
  unfold Sp.text
  split
  · omega
  · have : ∀ l : Sp.Bs, (l.flatMap Sp.quo).length ≤ 4 * l.length := by
      intro l
      induction l with
      | nil => simp
      | cons c l ih => have := quo_len c; simp only [List.flatMap_cons, List.length_append, List.length_cons] at *; omega
    have := this s
    simp only [List.length_append, List.length_cons, List.length_nil]
    omega
theorem join_len (ws : List Sp.Bs) (n : Nat) (h : ∀ x ∈ ws, x.length ≤ n) : (Sp.join ws).length ≤ ws.length * (n + 1) := by
  induction ws with
  | nil => simp [Sp.join]
  | cons x r ih =>
    have h1 := h x List.mem_cons_self
    have h2 := ih fun y hy => h y (List.mem_cons_of_mem _ hy)
    rw [Sp.join_cons]
    cases r with
    | nil => simp; omega
    | cons y r =>
      rw [Sp.join_cons] at h2
      simp only [List.flatMap_cons, List.length_append, List.length_cons, Nat.add_mul] at *
      omega
/-- numbers that an int may be -/
def i64 (x : Int) : Prop := -9223372036854775808 ≤ x ∧ x ≤ 9223372036854775807
/-- a call of texts to 1048576 bytes each -/
structure CallB (c : Sp.Call) : Prop where
  h : i64 c.h
  h2 : i64 c.h2
  off : i64 c.off
  len : i64 c.len
  path : c.path.length ≤ 1048576
  name : c.name.length ≤ 1048576
  name2 : c.name2.length ≤ 1048576
  data : c.data.length ≤ 1048576
theorem CallB.num {c : Sp.Call} (h : CallB c) (k : Nat) : i64 (c.getN k) := by
  unfold Sp.Call.getN
  repeat' split
  · exact h.h
  · exact h.h2
  · exact h.off
  · exact h.len
theorem CallB.txt {c : Sp.Call} (h : CallB c) (l : UInt8) : (c.getT l).length ≤ 1048576 := by
  unfold Sp.Call.getT
  repeat' split
  · exact h.path
  · exact h.name
  · exact h.name2
  · exact h.data
theorem CallB.word {c : Sp.Call} (h : CallB c) (l : UInt8) : (Sp.wordC c l).length ≤ 4194306 := by
  unfold Sp.wordC
  split
  · rename_i k hk
    have := Lib.itoa_length_le _ (h.num k).1 (h.num k).2
    omega
  · have := text_len (c.getT l)
    have := h.txt l
    omega
end Go.Proofs.YthnhfddlmkhgkaaGreatDoor

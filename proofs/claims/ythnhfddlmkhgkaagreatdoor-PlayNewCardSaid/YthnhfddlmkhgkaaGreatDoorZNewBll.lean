/- PlayNew: words of the book: its box, its rows of lists. A region that draws its order, with loads beside a call: what yields its value in every world that meets a condition goes first; then the chain that keeps the condition; then a forced tail. PlayNew: a list of bytes is kept. PlayNew: a list of bits is kept (turned from NewO by replacing words). PlayNew: the book's lists of steps, written over. PlayNew: words for the keeping of steps. PlayNew: a row of steps is kept, and all lists in it. PlayNew: all lists are as they were. -/
import Derived.Test.YthnhfddlmkhgkaaGreatDoorZNewAll
import Derived.Test.YthnhfddlmkhgkaaGreatDoorZReg
import Derived.OrdersHeld
import Derived.RegionTactic
set_option linter.unusedVariables false
namespace Go.Proofs.YthnhfddlmkhgkaaGreatDoor
open Go.RowKit Go.Proofs.YthnhfddlmkhgkaaGreatDoorW.PrintWords

/-- one cell, whatever it is -/
def kone : Kd Value where
  sz := 1
  E := []
  K := fun _ x cs => cs = [x] ∧ x.oneCell' = true
  M := fun _ _ _ x cs => cs = [x] ∧ x.oneCell' = true
  K_len := fun h => by rw [h.1]; rfl
  K_one := fun h u hu => by
    rw [h.1] at hu
    rw [List.mem_singleton.1 hu]
    exact h.2
  K_below := fun _ h => h
  K_of_M := fun h => h
  M_mono := fun _ h => h
  M_bound := fun h => h
  M_move := fun _ h => h
  M_lower := fun _ h => h
/-- a row of values of the call's own -/
abbrev RV (e : TypeId) (w : World) (base : Nat) (v : Value) (vs : List Value) : Prop := kone.R e w base (fun _ => True) v vs
theorem kone_inner {vs inner : List Value} {w : World} {base : Nat} {ok : Nat → Prop} (h : Reps (kone.M w base ok) 1 vs inner) : inner = vs := by
  apply List.ext_getElem?
  intro j
  have hl := h.1
  rcases Nat.lt_or_ge j vs.length with hj | hj
  · have h2 := (h.2 j _ (List.getElem?_eq_getElem hj)).1
    have hl2 : j < inner.length := by omega
    rw [Nat.mul_one, List.drop_eq_getElem_cons hl2] at h2
    simp only [List.take_succ_cons, List.take_zero] at h2
    injection h2 with h2 _
    rw [List.getElem?_eq_getElem hl2, List.getElem?_eq_getElem hj, h2]
  · rw [List.getElem?_eq_none hj, List.getElem?_eq_none (by omega)]
theorem RV.o {e : TypeId} {w : World} {base : Nat} {v : Value} {vs : List Value} (h : RV e w base v vs) : ORow e w base v vs := by
  obtain ⟨_, inner, ho, hr⟩ := h
  have e := kone_inner hr
  subst e
  exact ORow.own ho
theorem RV.slice {e : TypeId} {w : World} {base : Nat} {v : Value} {vs : List Value} (h : RV e w base v vs) : ∃ A c, v = .slice A vs.length c := Kd.R_slice h
theorem RV.slc {e : TypeId} {w : World} {base : Nat} {v : Value} {vs : List Value} (h : RV e w base v vs) : ∃ A n c, v = .slice A n c := by
  obtain ⟨A, c, h⟩ := Kd.R_slice h
  exact ⟨A, _, c, h⟩
theorem RV.typed {e : TypeId} {w : World} {base : Nat} {v : Value} {vs : List Value} (h : RV e w base v vs) : ∀ k, v.ownBlock = some k → ∃ cells, w.heap[k]? = some (.cells cells e (0, 0)) := Kd.R_typed h
theorem RV.step {e : TypeId} {w w1 : World} {base : Nat} {v : Value} {vs : List Value} (h : RV e w base v vs) (hm : ∀ k, v.ownBlock = some k → w1.heap[k]? = w.heap[k]?) : RV e w1 base v vs := by
  obtain ⟨h0, inner, ho, hr⟩ := h
  exact ⟨h0, inner, own_move ho hm, hr⟩
theorem RV.nil (e : TypeId) (w : World) (base : Nat) : RV e w base (.slice none 0 0) [] := Kd.R_nil _ _ _ _ _
theorem info45 : (Tryz.prog.info? 45).map (fun i => (i.zero, i.size, i.bytes)) = some (some (.slice none 0 0), 1, 24) := by kernel_rfl
theorem info78 : (Tryz.prog.info? 78).map (fun i => (i.zero, i.size, i.bytes)) = some (some (.slice none 0 0), 1, 24) := by kernel_rfl
theorem info26 : (Tryz.prog.info? 26).map (fun i => (i.zero, i.size, i.bytes)) = some (some (.slice none 0 0), 1, 24) := by kernel_rfl
section
variable {ops : Array Oper} {rest : List Oper} {o : Oper} {a : Act} {Q : Exit → Act → World → Prop}
/-- append(v, u) of one list to a row of lists -/
theorem ap_v {W : World} {base : Nat} {w0 : World} {s x : Operand} {v u : Value} {vs : List Value} {t e : TypeId}
    (hgd : o.guard = none)
    (ho : o.op = .call { callee := .builtin .append, args := #[s, x], argTypes := #[t, t] })
    (ht : Tryz.prog.underlying t = some (.slice e)) (hinfo : (Tryz.prog.info? e).map (fun i => (i.zero, i.size, i.bytes)) = some (some (.slice none 0 0), 1, 24))
    (hs : a.eval s = v) (hx : a.eval x = .slice (some ⟨W.heap.size, 0, none⟩) 1 1) (hu : u.oneCell' = true)
    (HO : RV e W base v vs) (HB : Below base w0 W) (hbase : base ≤ W.heap.size) (hl : vs.length + 1 ≤ 100000000)
    (h : ∀ v1 w1, RV e w1 base v1 (vs ++ [u]) → Below base w0 w1 → W.grownBy w1 v.ownBlock → (v1.ownBlock = v.ownBlock ∨ ∃ b, v1.ownBlock = some b ∧ W.heap.size ≤ b) → wpList Tryz.prog ops Q rest (a.put o.dst v1) w1) :
    wpList Tryz.prog ops Q (o :: rest) a (W.alloc (.cells #[u] e)) :=
  Kd.R_append kone (w0 := w0) base hgd s x t e (.slice none 0 0) 24 ho ht hinfo rfl (by decide) (by omega) v vs u [u] (fun _ => True) (fun _ => False) hs hx ⟨rfl, hu⟩ (fun _ hk => hk.elim) (fun _ _ => trivial) HO HB hbase (by omega) h
/-- the same, as a step of a region that draws -/
theorem ap_v_step {K : Act → World → Prop} {E : Prop} {W : World} {base : Nat} {w0 : World} {s x : Operand} {v u : Value} {vs : List Value} {t e : TypeId}
    (hgd : o.guard = none)
    (ho : o.op = .call { callee := .builtin .append, args := #[s, x], argTypes := #[t, t] })
    (ht : Tryz.prog.underlying t = some (.slice e)) (hinfo : (Tryz.prog.info? e).map (fun i => (i.zero, i.size, i.bytes)) = some (some (.slice none 0 0), 1, 24))
    (hs : a.eval s = v) (hx : a.eval x = .slice (some ⟨W.heap.size, 0, none⟩) 1 1) (hu : u.oneCell' = true)
    (HO : RV e W base v vs) (HB : Below base w0 W) (hbase : base ≤ W.heap.size) (hl : vs.length + 1 ≤ 100000000)
    (h : ∀ v1 w1, RV e w1 base v1 (vs ++ [u]) → Below base w0 w1 → W.grownBy w1 v.ownBlock → (v1.ownBlock = v.ownBlock ∨ ∃ b, v1.ownBlock = some b ∧ W.heap.size ≤ b) → K (a.put o.dst v1) w1) :
    if Region.wanted o (yielded ops a.tmps) = true then Oper.wp Tryz.prog o a (W.alloc (.cells #[u] e)) K Q else E := by
  have hw : Region.wanted o (yielded ops a.tmps) = true := by simp [Region.wanted, hgd]
  have H := Kd.R_append_step (P := Tryz.prog) (ops := ops) (o := o) (a := a) (Q := Q) (Kc := K) kone (w0 := w0) (W := W) base hw s x t e (.slice none 0 0) 24 ho ht hinfo rfl (by decide) (by omega) v vs u [u] (fun _ => True) (fun _ => False) hs hx ⟨rfl, hu⟩ (fun _ hk => hk.elim) (fun _ _ => trivial) HO HB hbase (by omega) h
  rw [if_pos hw] at H ⊢
  exact H
end
/-- the types of the book's own blocks -/
def bookT (e : TypeId) : Bool := e == 45 || e == 78 || e == 26 || e == 71
/-- what is none of the book's own blocks is as it was -/
def Aside (w w' : World) : Prop := w.heap.size ≤ w'.heap.size ∧ ∀ (k : Nat) (c : Array Value) (e : TypeId) (fr : Nat × Nat), w.heap[k]? = some (Obj.cells c e fr) → bookT e = false → w'.heap[k]? = w.heap[k]?
theorem Aside.refl (w : World) : Aside w w := ⟨Nat.le_refl _, fun _ _ _ _ _ _ => rfl⟩
theorem Aside.trans {a b c : World} (h : Aside a b) (k : Aside b c) : Aside a c := ⟨Nat.le_trans h.1 k.1, fun i cs e fr hi he => by
  have h1 := h.2 i cs e fr hi he
  rw [k.2 i cs e fr (h1.trans hi) he, h1]⟩
theorem Aside.below {w w' : World} (h : Below w.heap.size w w') : Aside w w' := ⟨h.size, fun k c e fr hk _ => h.block k (row_lt hk)⟩
theorem Aside.set {w : World} {g : Nat} {cells : Array Value} {t : TypeId} {fr : Nat × Nat} (hg : w.heap[g]? = some (.cells cells t fr)) (ht : bookT t = true) (i : Nat) (u : Value) : Aside w (w.setCell ⟨g, i, none⟩ u) :=
  ⟨by simp [World.setCell], fun k c e fr2 hk he => Below.heap_setCell w ⟨g, i, none⟩ u k (by
    intro e2
    simp only at e2
    subst e2
    rw [hg] at hk
    injection hk with hk
    injection hk with _ hk _
    subst hk
    rw [ht] at he
    cases he)⟩
theorem Aside.grown {w w' : World} {row : Option Nat} (h : w.grownBy w' row) (hr : ∀ k, row = some k → ∃ c e fr, w.heap[k]? = some (.cells c e fr) ∧ bookT e = true) : Aside w w' :=
  ⟨h.size, fun k c e fr hk he => h.block k (row_lt hk) (by
    intro e2
    obtain ⟨c2, e3, fr2, hk2, he2⟩ := hr k e2.symm
    rw [hk] at hk2
    injection hk2 with hk2
    injection hk2 with _ hk2 _
    subst hk2
    rw [he] at he2
    cases he2)⟩
theorem ORow.aside {e : TypeId} {w w1 : World} {base : Nat} {v : Value} {vs : List Value} (h : ORow e w base v vs) (ha : Aside w w1) (he : bookT e = false) : ORow e w1 base v vs :=
  h.step ha.1 fun k hk => by
    obtain ⟨c, fr, hh⟩ := h.typed k hk
    exact ha.2 k c e fr hh he
theorem OpList.aside {w w1 : World} {base : Nat} {os : List Sp.Op} {ts : List V3} (h : OpList w base os ts) (ha : Aside w w1) : OpList w1 base os ts :=
  h.step ha.1 fun t ht k hk => by
    obtain ⟨c, e, fr, hh, he⟩ := h.typed t ht k hk
    exact ha.2 k c e fr hh (by rcases he with rfl | rfl <;> decide)
theorem OpsRow.aside {w w1 : World} {base : Nat} {v : Value} {os : List Sp.Op} (h : OpsRow w base v os) (ha : Aside w w1) : OpsRow w1 base v os := by
  obtain ⟨ts, h1, h2⟩ := h
  refine ⟨ts, h1.aside ha, ?_⟩
  refine Kd.R_mono (Kd.R_step (Kd.R_bound h2) (fun k hk _ => ?_)) (fun _ _ => trivial)
  obtain ⟨_, _, _, q, hq, cells, hh⟩ := hk
  have : q = 80 := by simpa [kraw] using hq
  subst this
  exact ha.2 k cells 80 _ hh (by decide)
theorem heap_aside {w w1 : World} {k : Nat} {c : Array Value} {e : TypeId} {fr : Nat × Nat} (h : w.heap[k]? = some (.cells c e fr)) (ha : Aside w w1) (he : bookT e = false) : w1.heap[k]? = some (.cells c e fr) := (ha.2 k c e fr h he).trans h

def isRow (i : Nat) : Bool := (2 ≤ i && i ≤ 7) || (17 ≤ i && i ≤ 19)
def rowT (i : Nat) : TypeId := if i ≤ 4 then 45 else if i ≤ 7 then 78 else 26
theorem rowT_book (i : Nat) : bookT (rowT i) = true := by
  unfold rowT
  split
  · decide
  · split <;> decide
theorem rowT_71 (i : Nat) : rowT i ≠ 71 := by
  unfold rowT
  split
  · decide
  · split <;> decide
def put (L : Nat → List Value) (i : Nat) (l : List Value) : Nat → List Value := fun j => if j = i then l else L j
theorem put_same (L : Nat → List Value) (i : Nat) (l : List Value) : put L i l i = l := by simp [put]
theorem put_other (L : Nat → List Value) (i : Nat) (l : List Value) {j : Nat} (h : j ≠ i) : put L i l j = L j := by simp [put, h]
/-- the book's box and its rows -/
structure BkR (w : World) (base g ps : Nat) (cs : List Value) (L : Nat → List Value) : Prop where
  box : w.heap[g]? = some (.cells cs.toArray 71 (0, 0))
  len : cs.length = 20
  ge : base ≤ g
  c0 : cs[0]? = some (.int .i64 0)
  c1 : cs[1]? = some (.int .i64 (ps : Int))
  nils : ∀ i, 8 ≤ i → i < 17 → cs[i]? = some (.slice none 0 0)
  row : ∀ i, isRow i = true → ∃ v, cs[i]? = some v ∧ RV (rowT i) w base v (L i)
  apart : ∀ i j v u, isRow i = true → isRow j = true → i ≠ j → cs[i]? = some v → cs[j]? = some u → ∀ k, v.ownBlock = some k → u.ownBlock ≠ some k
theorem BkR.cell {w : World} {base g ps : Nat} {cs : List Value} {L : Nat → List Value} (h : BkR w base g ps cs L) {i : Nat} {v : Value} (hv : cs[i]? = some v) : w.cell? ⟨g, i, none⟩ = some v := by
  rw [cell_of_row _ _ _ _ _ _ h.box]; simpa using hv
/-- the row of a number, told -/
theorem BkR.get {w : World} {base g ps : Nat} {cs : List Value} {L : Nat → List Value} (h : BkR w base g ps cs L) (i : Nat) (hi : isRow i = true) : ∃ A c, cs[i]? = some (.slice A (L i).length c) ∧ w.cell? ⟨g, i, none⟩ = some (.slice A (L i).length c) ∧ RV (rowT i) w base (.slice A (L i).length c) (L i) := by
  obtain ⟨v, hv, hr⟩ := h.row i hi
  obtain ⟨A, c, rfl⟩ := hr.slice
  exact ⟨A, c, hv, h.cell hv, hr⟩
theorem BkR.step {w w1 : World} {base g ps : Nat} {cs : List Value} {L : Nat → List Value} (h : BkR w base g ps cs L) (hm : ∀ (k : Nat) (c : Array Value) (e : TypeId) (fr : Nat × Nat), w.heap[k]? = some (Obj.cells c e fr) → bookT e = true → w1.heap[k]? = w.heap[k]?) : BkR w1 base g ps cs L where
  box := (hm g _ _ _ h.box (by decide)).trans h.box
  len := h.len
  ge := h.ge
  c0 := h.c0
  c1 := h.c1
  nils := h.nils
  row := fun i hi => by
    obtain ⟨v, hv, hr⟩ := h.row i hi
    refine ⟨v, hv, hr.step fun k hk => ?_⟩
    obtain ⟨c, hc⟩ := hr.typed k hk
    exact hm k c _ _ hc (rowT_book i)
  apart := h.apart
theorem BkR.below {w w1 : World} {base g ps : Nat} {cs : List Value} {L : Nat → List Value} (h : BkR w base g ps cs L) (hb : Below w.heap.size w w1) : BkR w1 base g ps cs L :=
  h.step fun k c e fr hk _ => hb.block k (row_lt hk)
/-- a list laid into a row -/
theorem BkR.app {w w1 : World} {base g ps : Nat} {cs : List Value} {L : Nat → List Value} (h : BkR w base g ps cs L) {i : Nat} (hi : isRow i = true) {v v1 : Value} {l : List Value} (hv : cs[i]? = some v) (hr : RV (rowT i) w1 base v1 l) (hg : w.grownBy w1 v.ownBlock) (ho : v1.ownBlock = v.ownBlock ∨ ∃ b, v1.ownBlock = some b ∧ w.heap.size ≤ b) :
    BkR (w1.setCell ⟨g, i, none⟩ v1) base g ps (cs.set i v1) (put L i l) ∧ Aside w (w1.setCell ⟨g, i, none⟩ v1) := by
  obtain ⟨v', hv', hrv⟩ := h.row i hi
  have e : v = v' := Option.some.inj (hv.symm.trans hv')
  subst e
  have hgr : some g ≠ v.ownBlock := fun e => by
    obtain ⟨c, hc⟩ := hrv.typed g e.symm
    rw [h.box] at hc
    injection hc with hc
    injection hc with _ hc _
    exact rowT_71 i hc.symm
  have hbox : w1.heap[g]? = some (.cells cs.toArray 71 (0, 0)) := (hg.block g (row_lt h.box) hgr).trans h.box
  have hil : i < cs.length := (List.getElem?_eq_some_iff.1 hv).1
  have old : ∀ j u, isRow j = true → j ≠ i → cs[j]? = some u → ∀ k, u.ownBlock = some k → k < w.heap.size ∧ some k ≠ v.ownBlock ∧ k ≠ g := by
    intro j u hj hji hu k hk
    obtain ⟨u', hu', hru⟩ := h.row j hj
    have e : u = u' := Option.some.inj (hu.symm.trans hu')
    subst e
    obtain ⟨c, hc⟩ := hru.typed k hk
    refine ⟨row_lt hc, fun e => h.apart i j v u hi hj (Ne.symm hji) hv hu k e.symm hk, ?_⟩
    rintro rfl
    rw [h.box] at hc
    injection hc with hc
    injection hc with _ hc _
    exact rowT_71 j hc.symm
  have hv1 : ∀ k, v1.ownBlock = some k → k ≠ g := by
    rintro k hk rfl
    obtain ⟨c, hc⟩ := hr.typed k hk
    rw [hbox] at hc
    injection hc with hc
    injection hc with _ hc _
    exact rowT_71 i hc.symm
  refine ⟨⟨?_, by rw [List.length_set]; exact h.len, h.ge, ?_, ?_, ?_, ?_, ?_⟩, ?_⟩
  · rw [row_set hbox]; simp
  · rw [List.getElem?_set_ne (by rintro rfl; revert hi; decide)]; exact h.c0
  · rw [List.getElem?_set_ne (by rintro rfl; revert hi; decide)]; exact h.c1
  · intro j h8 h17
    have hne : i ≠ j := by
      rintro rfl
      unfold isRow at hi
      simp at hi
      omega
    rw [List.getElem?_set_ne hne]; exact h.nils j h8 h17
  · intro j hj
    by_cases hji : j = i
    · subst hji
      refine ⟨v1, by rw [List.getElem?_set_self hil], ?_⟩
      rw [put_same]
      exact hr.step fun k hk => Below.heap_setCell w1 ⟨g, j, none⟩ _ k (hv1 k hk)
    · obtain ⟨u, hu, hru⟩ := h.row j hj
      refine ⟨u, by rw [List.getElem?_set_ne (Ne.symm hji)]; exact hu, ?_⟩
      rw [put_other _ _ _ hji]
      refine hru.step fun k hk => ?_
      obtain ⟨o1, o2, o3⟩ := old j u hj hji hu k hk
      exact (Below.heap_setCell w1 ⟨g, i, none⟩ _ k o3).trans (hg.block k o1 o2)
  · intro p q x y hp hq hpq hx hy k hk hk2
    by_cases h1 : p = i
    · subst h1
      rw [List.getElem?_set_self hil] at hx
      injection hx with hx
      subst hx
      rw [List.getElem?_set_ne hpq] at hy
      obtain ⟨o1, o2, o3⟩ := old q y hq (Ne.symm hpq) hy k hk2
      rcases ho with ho | ⟨b, hb, hb2⟩
      · exact o2 (by rw [← ho]; exact hk.symm)
      · rw [hb] at hk
        injection hk with hk
        omega
    · rw [List.getElem?_set_ne (Ne.symm h1)] at hx
      by_cases h2 : q = i
      · subst h2
        rw [List.getElem?_set_self hil] at hy
        injection hy with hy
        subst hy
        obtain ⟨o1, o2, o3⟩ := old p x hp h1 hx k hk
        rcases ho with ho | ⟨b, hb, hb2⟩
        · exact o2 (by rw [← ho]; exact hk2.symm)
        · rw [hb] at hk2
          injection hk2 with hk2
          omega
      · rw [List.getElem?_set_ne (Ne.symm h2)] at hy
        exact h.apart p q x y hp hq hpq hx hy k hk hk2
  · refine (Aside.grown hg fun k hk => ?_).trans (Aside.set hbox (by decide) _ _)
    obtain ⟨c, hc⟩ := hrv.typed k hk
    exact ⟨c, _, _, hc, rowT_book i⟩
end Go.Proofs.YthnhfddlmkhgkaaGreatDoor

set_option linter.unusedVariables false
set_option linter.unnecessarySimpa false
namespace Go.Proofs.YthnhfddlmkhgkaaGreatDoor
open Go

section
variable {P : Program} {ops : Array Oper} {Q : Exit → Act → World → Prop} {md : Region.Mode} {S : World → Prop} {T : List Nat}

/-- whatever order is picked, and S holds behind those of T -/
def wpAnyT (P : Program) (md : Region.Mode) (ops : Array Oper) (Q : Exit → Act → World → Prop) (S : World → Prop) (T : List Nat) : Nat → Array Bool → Act → World → Prop
  | 0, listed, a, w => Region.ready md ops listed = [] ∧ Q .normal a w
  | f + 1, listed, a, w =>
    (Region.ready md ops listed = [] → Q .normal a w) ∧
    ∀ i ∈ Region.ready md ops listed, wpOp P ops Q i (fun a' w' => (i ∈ T → S w') ∧ wpAnyT P md ops Q S T f (listed.setIfInBounds i true) a' w') a w
theorem wpAny_of_T : ∀ (f : Nat) (listed : Array Bool) (a : Act) (w : World), wpAnyT P md ops Q S T f listed a w → wpAny P md ops Q f listed a w
  | 0, _, _, _, h => h
  | f + 1, _, _, _, h => ⟨h.1, fun i hi => wpOp_mono (fun a' w' h' => wpAny_of_T f _ a' w' h'.2) (h.2 i hi)⟩
theorem wpAnyT_first {i : Nat} {oi : Oper} {v : Value} (hi : ops[i]? = some oi) (hsel : ∀ (j : Nat) (o : Oper) cs b, ops[j]? = some o → o.op ≠ .select cs b)
    (hQ : ∀ c a w, Q (.panic c) (a.put oi.dst v) w → Q (.panic c) a w) :
    ∀ (fuel : Nat) (listed : Array Bool) (a : Act) (w : World),
      (∀ j oj, ops[j]? = some oj → j ≠ i → listed.getD j true = false → (∀ e ∈ oj.after, Region.binds md e = true → e.on ≠ i) → oi.apart ops oj = true ∧ j ∈ T) →
      i ∈ Region.ready md ops listed → YieldsIf P ops S oi v a → S w →
      wpAnyT P md ops Q S T fuel (listed.setIfInBounds i true) (a.put oi.dst v) w → wpAnyT P md ops Q S T (fuel + 1) listed a w := by
  intro fuel
  induction fuel with
  | zero =>
    intro listed a w _ hr hy hS H
    refine ⟨fun h => (by rw [h] at hr; cases hr), fun j hj => ?_⟩
    by_cases hji : j = i
    · subst hji; exact hy.wpOp hi hS ⟨fun _ => hS, H⟩
    · have := ready_mono hj hji
      rw [H.1] at this
      cases this
  | succ fuel ih =>
    intro listed a w hfree hr hy hS H
    refine ⟨fun h => (by rw [h] at hr; cases hr), fun j hj => ?_⟩
    by_cases hji : j = i
    · subst hji; exact hy.wpOp hi hS ⟨fun _ => hS, H⟩
    · have h1 := H.2 j (ready_mono hj hji)
      obtain ⟨hjun, oj, hoj, hall⟩ := mem_ready.1 hj
      have hnot : ∀ e ∈ oj.after, Region.binds md e = true → e.on ≠ i := fun e he hb heq => by
        have h1 := hall e he hb
        have h0 := (mem_ready.1 hr).1
        rw [heq] at h1
        rcases Nat.lt_or_ge i listed.size with h' | h'
        · simp [h'] at h0 h1; rw [h0] at h1; cases h1
        · simp [Array.getElem?_eq_none h'] at h1
      have hap := hfree j oj hoj hji hjun hnot
      have h2 := wpOp_putIf hoj hap.1 (fun cs b => hsel i oi cs b hi) (fun cs b => hsel j oj cs b hoj) hQ hy h1
      have hfree' : ∀ k ok, ops[k]? = some ok → k ≠ i → (listed.setIfInBounds j true).getD k true = false →
          (∀ e ∈ ok.after, Region.binds md e = true → e.on ≠ i) → oi.apart ops ok = true ∧ k ∈ T := fun k ok hk hki hun hno => by
        refine hfree k ok hk hki ?_ hno
        by_cases hjk : j = k
        · subst hjk; exact hjun
        · rw [getD_set_ne true hjk] at hun; exact hun
      refine wpOp_mono (fun a' w' h3 => ⟨h3.2.1, ih (listed.setIfInBounds j true) a' w' hfree' (ready_mono hr (Ne.symm hji)) h3.1 (h3.2.1 hap.2) ?_⟩) h2
      rw [Array.setIfInBounds_comm _ _ hji]
      exact h3.2.2

/-- number i is apart from all that could come up ahead of it, and those are of T -/
def freeT (md : Region.Mode) (ops : Array Oper) (T : List Nat) (listed : Array Bool) (i : Nat) : Bool :=
  Region.free md ops listed i && (List.range ops.size).all fun j => j == i || listed.getD j true || T.contains j || match ops[j]? with
    | some oj => oj.after.any (fun e => Region.binds md e && e.on == i)
    | none => true
theorem freeT_spec {i : Nat} {oi : Oper} {listed : Array Bool} (hi : ops[i]? = some oi) (h : freeT md ops T listed i = true) (j : Nat) (oj : Oper)
    (hj : ops[j]? = some oj) (hne : j ≠ i) (hun : listed.getD j true = false) (hno : ∀ e ∈ oj.after, Region.binds md e = true → e.on ≠ i) : oi.apart ops oj = true ∧ j ∈ T := by
  unfold freeT at h
  rw [Bool.and_eq_true] at h
  refine ⟨Region.free_spec hi h.1 j oj hj hne hun hno, ?_⟩
  have h1 := List.all_eq_true.1 h.2 j (List.mem_range.2 (Array.getElem?_eq_some_iff.1 hj).1)
  simp only [hj, Bool.or_eq_true, beq_iff_eq, hne, false_or, hun, Bool.false_eq_true] at h1
  rcases h1 with h1 | h1
  · simpa using h1
  · rw [Array.any_eq_true] at h1
    obtain ⟨k, hk, h1⟩ := h1
    simp only [Bool.and_eq_true, beq_iff_eq] at h1
    exact absurd h1.2 (hno _ (Array.getElem_mem hk) h1.1)
def hdOk (md : Region.Mode) (ops : Array Oper) (T : List Nat) : List Nat → Array Bool → Bool
  | [], _ => true
  | i :: r, l => freeT md ops T l i && (Region.ready md ops l).contains i && hdOk md ops T r (l.setIfInBounds i true)
def wpHd (P : Program) (ops : Array Oper) (S : World → Prop) (K : Act → Prop) : List Oper → Act → Prop
  | [], a => K a
  | o :: r, a => ∃ d v, o.dst = some d ∧ YieldsIf P ops S o v a ∧ wpHd P ops S K r (a.put (some d) v)
theorem wpHd_nil {K : Act → Prop} {a : Act} (h : K a) : wpHd P ops S K [] a := h
theorem wpHd_cons {K : Act → Prop} {a : Act} {o : Oper} {r : List Oper} {d : Tmp} {v : Value} (hd : o.dst = some d) (hw : Region.wanted o (yielded ops a.tmps) = true) (hy : ∀ w, S w → (execOp a.eval o).run P w = .ok (.value v) w)
    (h : wpHd P ops S K r (a.put (some d) v)) : wpHd P ops S K (o :: r) a := ⟨d, v, hd, .inl ⟨hw, hy⟩, h⟩
theorem wpAnyT_hd {l : List Oper} {w : World} (hs : Region.noSelect l.toArray = true) (hQ : ∀ c d v a w, Q (.panic c) (a.put (some d) v) w → Q (.panic c) a w) (hS : S w) :
    ∀ (hd : List Nat) (fuel : Nat) (listed : Array Bool) (a : Act), inside l.length hd = true → hdOk md l.toArray T hd listed = true →
      wpHd P l.toArray S (fun a' => wpAnyT P md l.toArray Q S T fuel (listAll hd listed) a' w) (pick l hd) a → wpAnyT P md l.toArray Q S T (hd.length + fuel) listed a w
  | [], fuel, listed, a, _, _, h => by simpa only [pick, wpHd, listAll, List.length_nil, Nat.zero_add] using h
  | i :: r, fuel, listed, a, hin, hp, h => by
    simp only [inside, List.all_cons, Bool.and_eq_true, decide_eq_true_eq] at hin
    simp only [hdOk, Bool.and_eq_true] at hp
    obtain ⟨⟨h1, h2⟩, h3⟩ := hp
    have hi : l[i]? = some (l[i]'hin.1) := List.getElem?_eq_getElem hin.1
    have hi2 : l.toArray[i]? = some (l[i]'hin.1) := by simpa using hi
    simp only [pick, hi, wpHd] at h
    obtain ⟨d, v, hd, hy, hk⟩ := h
    rw [show (i :: r).length + fuel = (r.length + fuel) + 1 by simp; omega]
    refine wpAnyT_first hi2 (Region.noSelect_spec hs) (by rw [hd]; exact fun c a w => hQ c d v a w) _ listed a w (freeT_spec hi2 h1) (by simpa using h2) hy hS ?_
    rw [hd]
    exact wpAnyT_hd hs hQ hS r fuel _ _ (by simpa [inside] using hin.2) h3 hk
/-- the chain that keeps S -/
def chainT (P : Program) (ops : Array Oper) (Q : Exit → Act → World → Prop) (S : World → Prop) (K : Act → World → Prop) : List Nat → Act → World → Prop
  | [], a, w => K a w
  | i :: r, a, w => wpOp P ops Q i (fun a' w' => S w' ∧ chainT P ops Q S K r a' w') a w
theorem chainT_nil {K : Act → World → Prop} {a : Act} {w : World} (h : K a w) : chainT P ops Q S K [] a w := h
theorem chainT_cons {K : Act → World → Prop} {a : Act} {w : World} {i : Nat} {r : List Nat} {o : Oper} (ho : ops[i]? = some o)
    (h : ∀ K' : Act → World → Prop, Shut (∀ a w, S w → chainT P ops Q S K r a w → K' a w) → if Region.wanted o (yielded ops a.tmps) = true then Oper.wp P o a w K' Q else K' (a.put o.dst undef) w) : chainT P ops Q S K (i :: r) a w :=
  wpOp_step ho (fun K' hK => h K' (fun a w hS hW => hK a w ⟨hS, hW⟩))
theorem wpAnyT_tail {l : List Oper} : ∀ (tl : List Nat) (listed : Array Bool) (a : Act) (w : World), inside l.length tl = true → (tl.all fun i => !T.contains i) = true →
    seqL md l.toArray tl listed = true → wpList P l.toArray Q (pick l tl) a w → wpAnyT P md l.toArray Q S T tl.length listed a w
  | [], _, _, _, _, _, hB, h => ⟨by simpa [seqL] using hB, h⟩
  | k :: r, listed, a, w, hin, hT, hB, h => by
    simp only [inside, List.all_cons, Bool.and_eq_true, decide_eq_true_eq] at hin
    simp only [List.all_cons, Bool.and_eq_true] at hT
    have hi : l[k]? = some (l[k]'hin.1) := List.getElem?_eq_getElem hin.1
    simp only [pick, hi] at h
    simp only [seqL, Bool.and_eq_true, decide_eq_true_eq] at hB
    refine ⟨fun h1 => (by rw [hB.1] at h1; cases h1), fun i hi' => ?_⟩
    rw [hB.1] at hi'
    have hik : i = k := by simpa using hi'
    subst hik
    have hi2 : l.toArray[i]? = some (l[i]'hin.1) := by simpa using hi
    have hw : wpOp P l.toArray Q i (wpList P l.toArray Q (pick l r)) a w := by unfold wpOp; simp only [hi2]; exact h
    have hn : i ∉ T := by simpa using hT.1
    exact wpOp_mono (fun a' w' h' => ⟨fun hm => absurd hm hn, wpAnyT_tail r _ a' w' (by simpa [inside] using hin.2) hT.2 hB.2 h'⟩) hw
theorem wpAnyT_chain {l : List Oper} (tl : List Nat) (hin : inside l.length tl = true) (hT : (tl.all fun i => !T.contains i) = true) : ∀ (ts : List Nat) (listed : Array Bool) (a : Act) (w : World),
    seqL md l.toArray (ts ++ tl) listed = true → chainT P l.toArray Q S (fun a2 w2 => wpList P l.toArray Q (pick l tl) a2 w2) ts a w → wpAnyT P md l.toArray Q S T (ts.length + tl.length) listed a w
  | [], listed, a, w, hB, h => by simpa using wpAnyT_tail tl listed a w hin hT hB h
  | k :: r, listed, a, w, hB, h => by
    simp only [List.cons_append, seqL, Bool.and_eq_true, decide_eq_true_eq] at hB
    rw [show (k :: r).length + tl.length = (r.length + tl.length) + 1 by simp; omega]
    refine ⟨fun h1 => (by rw [hB.1] at h1; cases h1), fun i hi' => ?_⟩
    rw [hB.1] at hi'
    have hik : i = k := by simpa using hi'
    subst hik
    exact wpOp_mono (fun a' w' h' => ⟨fun _ => h'.1, wpAnyT_chain tl hin hT r _ a' w' hB.2 h'.2⟩) h
theorem wpPre_cons {K : Act → Prop} {a : Act} {o : Oper} {r : List Oper} {d : Tmp} {v : Value} (hd : o.dst = some d) (hw : Region.wanted o (yielded ops a.tmps) = true) (hy : ∀ w, (execOp a.eval o).run P w = .ok (.value v) w)
    (h : wpPre P ops K r (a.put (some d) v)) : wpPre P ops K (o :: r) a := ⟨d, v, hd, .inl ⟨hw, hy⟩, h⟩
def holdB (md : Region.Mode) (ops : Array Oper) (pre hd ts tl : List Nat) : Bool :=
  let l0 := Array.replicate ops.size false
  let l1 := listAll pre l0
  Region.noSelect ops && inside ops.size pre && inside ops.size hd && inside ops.size tl && decide (pre.length + (hd.length + (ts.length + tl.length)) = ops.size) && preOk md ops pre l0 && hdOk md ops (hd ++ ts) hd l1 && (tl.all fun i => !(hd ++ ts).contains i) && seqL md ops (ts ++ tl) (listAll hd l1)
theorem region_hold {id : Nat} {a : Act} {w : World} {l : List Oper} (S : World → Prop) (pre hd ts tl : List Nat) (hm : P.follows .mixedOrders = true) (hB : holdB .any l.toArray pre hd ts tl = true)
    (hQ : ∀ c d v a w, Q (.panic c) (a.put (some d) v) w → Q (.panic c) a w) (hS : S w.drew)
    (h : wpPre P l.toArray (fun a0 => wpHd P l.toArray S (fun a1 => chainT P l.toArray Q S (fun a2 w2 => wpList P l.toArray Q (pick l tl) a2 w2) ts a1 w.drew) (pick l hd) a0) (pick l pre) a) : (Code.region id l.toArray true).wp P Q a w := by
  simp only [holdB, Bool.and_eq_true, decide_eq_true_eq] at hB
  obtain ⟨⟨⟨⟨⟨⟨⟨⟨h1, h2⟩, h3⟩, h4⟩, h5⟩, h6⟩, h7⟩, h8⟩, h9⟩ := hB
  rw [List.size_toArray] at h2 h3 h4 h5
  refine wp_region_any hm ?_
  rw [List.size_toArray, ← h5]
  rw [List.size_toArray] at h6 h7 h9
  refine wpAny_pre h1 hQ pre (hd.length + (ts.length + tl.length)) _ a h2 (by rw [h5]; exact h6) ?_
  have mono : ∀ (os : List Oper) (a : Act) (K K' : Act → Prop), (∀ a, K a → K' a) → wpPre P l.toArray K os a → wpPre P l.toArray K' os a := by
    intro os
    induction os with
    | nil => exact fun a K K' hk h => hk a h
    | cons o r ih => exact fun a K K' hk ⟨d, v, hd, hy, h⟩ => ⟨d, v, hd, hy, ih _ K K' hk h⟩
  refine mono _ _ _ _ (fun a0 hs => ?_) h
  refine wpAny_of_T (S := S) (T := hd ++ ts) _ _ _ _ ?_
  refine wpAnyT_hd h1 hQ hS hd (ts.length + tl.length) _ a0 h3 (by rw [h5]; exact h7) ?_
  have mono2 : ∀ (os : List Oper) (a : Act) (K K' : Act → Prop), (∀ a, K a → K' a) → wpHd P l.toArray S K os a → wpHd P l.toArray S K' os a := by
    intro os
    induction os with
    | nil => exact fun a K K' hk h => hk a h
    | cons o r ih => exact fun a K K' hk ⟨d, v, hd, hy, h⟩ => ⟨d, v, hd, hy, ih _ K K' hk h⟩
  refine mono2 _ _ _ _ (fun a1 hs => ?_) hs
  exact wpAnyT_chain tl h4 h8 ts _ a1 w.drew (by rw [h5]; exact h9) hs
end
end Go.Proofs.YthnhfddlmkhgkaaGreatDoor

set_option linter.unusedVariables false
namespace Go.Proofs.YthnhfddlmkhgkaaGreatDoor
open Go.RowKit Go.Proofs.YthnhfddlmkhgkaaGreatDoorW.PrintWords

/-- lists that are kept, each in a block of its own, and how they were -/
structure Pairs {α : Type} (Own : World → Nat → Value → α → Prop) (sm : α → Prop) (w : World) (base : Nat) (K : Nat → Prop) (vs ws : List Value) : Prop where
  len : ws.length = vs.length
  at_ : ∀ (j : Nat) (v u : Value), vs[j]? = some v → ws[j]? = some u → ∃ l, Own w base v l ∧ Own w base u l ∧ sm l
  kept : ∀ v ∈ vs, ∀ k : Nat, v.ownBlock = some k → K k
  apart : Apart vs
theorem Pairs.nil {α : Type} (Own : World → Nat → Value → α → Prop) (sm : α → Prop) (w : World) (base : Nat) (K : Nat → Prop) : Pairs Own sm w base K [] [] :=
  ⟨rfl, fun j v u h => by simp at h, fun v h => by simp at h, fun i j vi vj h => by simp at h⟩
theorem Pairs.step {α : Type} {Own : World → Nat → Value → α → Prop} {sm : α → Prop} {w w1 : World} {base : Nat} {K : Nat → Prop} {vs ws : List Value} (h : Pairs Own sm w base K vs ws) (hm : ∀ v l, Own w base v l → Own w1 base v l) : Pairs Own sm w1 base K vs ws :=
  ⟨h.len, fun j v u hv hu => by
    obtain ⟨l, h1, h2, h3⟩ := h.at_ j v u hv hu
    exact ⟨l, hm _ _ h1, hm _ _ h2, h3⟩, h.kept, h.apart⟩
theorem Pairs.wider {α : Type} {Own : World → Nat → Value → α → Prop} {sm : α → Prop} {w : World} {base : Nat} {K K' : Nat → Prop} {vs ws : List Value} (h : Pairs Own sm w base K vs ws) (hk : ∀ k, K k → K' k) : Pairs Own sm w base K' vs ws :=
  ⟨h.len, h.at_, fun v hv k hk2 => hk k (h.kept v hv k hk2), h.apart⟩
theorem Pairs.snoc {α : Type} {Own : World → Nat → Value → α → Prop} {sm : α → Prop} {w : World} {base : Nat} {K : Nat → Prop} {vs ws : List Value} {v u : Value} {l : α} (h : Pairs Own sm w base K vs ws) (hv : Own w base v l) (hu : Own w base u l) (hs : sm l) (hk : ∀ k : Nat, v.ownBlock = some k → ¬ K k) :
    Pairs Own sm w base (fun k => K k ∨ v.ownBlock = some k) (vs ++ [v]) (ws ++ [u]) := by
  have hlast : ∀ (j : Nat) (x : Value) (xs : List Value) (y : Value), (xs ++ [y])[j]? = some x → (j < xs.length ∧ xs[j]? = some x) ∨ (j = xs.length ∧ x = y) := by
    intro j x xs y hj
    rcases Nat.lt_or_ge j xs.length with hl | hl
    · rw [List.getElem?_append_left hl] at hj; exact .inl ⟨hl, hj⟩
    · rw [List.getElem?_append_right hl] at hj
      have h0 : j - xs.length = 0 := by
        have := (List.getElem?_eq_some_iff.1 hj).1
        simp at this; omega
      rw [h0] at hj
      simp at hj
      exact .inr ⟨by omega, hj.symm⟩
  refine ⟨by simp [h.len], ?_, ?_, ?_⟩
  · intro j x y hx hy
    rcases hlast j x vs v hx with ⟨h1, h2⟩ | ⟨h1, rfl⟩
    · rcases hlast j y ws u hy with ⟨h3, h4⟩ | ⟨h3, _⟩
      · exact h.at_ j x y h2 h4
      · have := h.len; omega
    · rcases hlast j y ws u hy with ⟨h3, _⟩ | ⟨h3, rfl⟩
      · have := h.len; omega
      · exact ⟨l, hv, hu, hs⟩
  · intro x hx k hk2
    rcases List.mem_append.1 hx with hx | hx
    · exact .inl (h.kept x hx k hk2)
    · obtain rfl := List.mem_singleton.1 hx
      exact .inr hk2
  · intro i j x y hx hy hij k hk2 hk3
    rcases hlast i x vs v hx with ⟨h1, h2⟩ | ⟨h1, rfl⟩
    · rcases hlast j y vs v hy with ⟨h3, h4⟩ | ⟨h3, rfl⟩
      · exact h.apart i j x y h2 h4 hij k hk2 hk3
      · exact hk k hk3 (h.kept x (List.mem_of_getElem? h2) k hk2)
    · rcases hlast j y vs x hy with ⟨h3, h4⟩ | ⟨h3, rfl⟩
      · exact hk k hk2 (h.kept y (List.mem_of_getElem? h4) k hk3)
      · omega
abbrev PairsU (w : World) (base : Nat) (K : Nat → Prop) (vs ws : List Value) : Prop := Pairs OU (fun l => l.length ≤ 1048576) w base K vs ws
abbrev PairsB (w : World) (base : Nat) (K : Nat → Prop) (vs ws : List Value) : Prop := Pairs OB (fun l => l.length ≤ 1048576) w base K vs ws
theorem OU.aside {w w1 : World} {base : Nat} {v : Value} {l : Sp.Bs} (h : OU w base v l) (ha : Aside w w1) : OU w1 base v l := ORow.aside h ha (by decide)
theorem OB.aside {w w1 : World} {base : Nat} {v : Value} {l : List Bool} (h : OB w base v l) (ha : Aside w w1) : OB w1 base v l := ORow.aside h ha (by decide)
theorem PairsU.aside {w w1 : World} {base : Nat} {K : Nat → Prop} {vs ws : List Value} (h : PairsU w base K vs ws) (ha : Aside w w1) : PairsU w1 base K vs ws := Pairs.step h fun v l hl => OU.aside hl ha
theorem PairsB.aside {w w1 : World} {base : Nat} {K : Nat → Prop} {vs ws : List Value} (h : PairsB w base K vs ws) (ha : Aside w w1) : PairsB w1 base K vs ws := Pairs.step h fun v l hl => OB.aside hl ha
/-- the bits of a list, laid anew -/
def NewB (w : World) (l : List Bool) (e : Ending) (w' : World) : Prop := ∃ B k, e = .returned (.slice B l.length k) ∧ OB w' w.heap.size (.slice B l.length k) l ∧ Below w.heap.size w w'
theorem new_bools (A : Option Addr) (l : List Bool) (c : Nat) (w : World) (h : ReadB w A l) (hl : l.length ≤ 1048576) : Calls Tryz.prog 62 #[.slice A l.length c] w (NewB w l) := by
  refine (keptBools_any A l c w h (by omega)).mono ?_
  rintro e w1 ⟨v, rfl, hv, hb⟩
  obtain ⟨B, k, rfl, _, _⟩ := OB.reads (RowB.o hv)
  exact ⟨B, k, rfl, RowB.o hv, hb⟩
/-- one list more of that kind is kept -/
def KeptU (w : World) (base g ps : Nat) (L : Nat → List Value) (K : Nat → Prop) (v : Value) (w' : World) : Prop :=
  ∃ cs' L', BkR w' base g ps cs' L' ∧ (∀ i, i ≠ 2 → i ≠ 3 → L' i = L i) ∧ (L' 2).length = (L 2).length + 1 ∧ PairsU w' base (fun k => K k ∨ v.ownBlock = some k) (L' 2) (L' 3) ∧ Aside w w' ∧ Below base w w'
theorem OU.read_ {w : World} {base n c : Nat} {A : Option Addr} {l : Sp.Bs} (h : OU w base (.slice A n c) l) : n = l.length ∧ n ≤ c ∧ ReadU w A l := by
  obtain ⟨A', c', e, h1, h2⟩ := h.reads
  injection e with e1 e2 e3
  subst e1 e2 e3
  exact ⟨rfl, h1, h2⟩
theorem OB.read_ {w : World} {base n c : Nat} {A : Option Addr} {l : List Bool} (h : OB w base (.slice A n c) l) : n = l.length ∧ n ≤ c ∧ ReadB w A l := by
  obtain ⟨A', c', e, h1, h2⟩ := h.reads
  injection e with e1 e2 e3
  subst e1 e2 e3
  exact ⟨rfl, h1, h2⟩
set_option maxHeartbeats 4000000 in
set_option maxRecDepth 100000 in
theorem keepBytes_any (g base ps : Nat) (cs : List Value) (L : Nat → List Value) (K : Nat → Prop) (v : Value) (l : Sp.Bs) (w : World) (h : BkR w base g ps cs L) (hp : PairsU w base K (L 2) (L 3)) (hv : OU w base v l) (hl : l.length ≤ 1048576) (hk : ∀ k : Nat, v.ownBlock = some k → ¬ K k) (hn : (L 2).length + 1 ≤ 10000000) (hbase : base ≤ w.heap.size) :
    Calls Tryz.prog 31 #[.pointer (some ⟨g, 0, none⟩), v] w (fun e w' => (∃ x, e = .returned x) ∧ KeptU w base g ps L K v w') := by
  obtain ⟨A2, c2, hv2, hx2, hr2⟩ := h.get 2 rfl
  have hv0 := hv
  obtain ⟨A, c, rfl, hc, hrd⟩ := hv.reads
  have HH := Lib.hid h
  have HP := Lib.hid hp
  have HV := Lib.hid hv0
  have HK := Lib.hid hk
  have HR2 := Lib.hid hr2
  have HV2 := Lib.hid hv2
  have HN := Lib.hid hn
  have HN3 : Hid ((L 3).length + 1 ≤ 10000000) := Lib.hid (by rw [hp.len]; exact hn)
  clear h hp hv hv0 hk hr2 hrd hv2 hn
  go_enter Tryz.func31, Tryz.ntmps31
  go_upto_region 1 with (at_builtin; refine ap_v (W := w) (base := base) (w0 := w) (u := .slice A l.length c) (vs := L 2) rfl rfl Tryz.underlying64 info45 rfl rfl rfl HR2.out (Below.refl _ _) hbase (by have := HN.out; omega) ?_; intro v1 w1 a1 a2 a3 a4; obtain ⟨A1, n1, c1, hv1⟩ := a1.slc; subst hv1; have hb1 : w1.heap[g]? = some (.cells cs.toArray 71 (0, 0)) := (a3.block g (row_lt HH.out.box) (Kd.R_ne HR2.out HH.out.box (by decide))).trans HH.out.box; have hcx : w1.cell? ⟨g, 2, none⟩ = some (.slice A2 (L 2).length c2) := (by rw [cell_of_row _ _ _ _ _ _ hb1]; simpa using HV2.out); have hfx := row_frozen hb1 2; have HA := Lib.hid (And.intro a1 (And.intro a2 (And.intro a3 a4))); clear a1 a2 a3 a4 hb1)
  obtain ⟨k1, k2⟩ := HH.out.app (i := 2) rfl HV2.out HA.out.1 HA.out.2.2.1 HA.out.2.2.2
  have hB2 : Below base w (w1.setCell ⟨g, 2, none⟩ (.slice A1 n1 c1)) := HA.out.2.1.setCell HH.out.ge _
  obtain ⟨W2, hW2⟩ : ∃ W2, W2 = w1.setCell ⟨g, 2, none⟩ (.slice A1 n1 c1) := ⟨_, rfl⟩
  rw [← hW2] at k1 k2 hB2 ⊢
  obtain ⟨A3, c3, hv3, hx3, hr3⟩ := k1.get 3 rfl
  rw [put_other _ _ _ (by decide)] at hv3 hx3 hr3
  have hx3d : W2.drew.cell? ⟨g, 3, none⟩ = some (.slice A3 (L 3).length c3) := hx3
  have HC24 := Lib.hid (new_bytes A l c W2.drew ((HV.out.aside k2).read_.2.2.below ((Below.refl _ _).drew)) hl)
  have HX := Lib.hid (And.intro k1 (And.intro k2 (And.intro hB2 (And.intro hv3 hr3))))
  clear k1 k2 hB2 hv3 hr3 hW2 HA hcx hfx hx2 hx3
  refine region_hold (fun w' => w'.cell? ⟨g, 3, none⟩ = some (.slice A3 (L 3).length c3)) [0, 1, 2, 3, 5] [4] [6, 7] [8, 9, 10, 11] mixed (by kernel_rfl) (fun _ _ _ _ _ h => h) hx3d ?_
  simp only [pick, List.getElem?_cons_zero, List.getElem?_cons_succ]
  iterate 5 ((refine wpPre_cons (v := ?_) rfl (by rfl) ?_ ?_); rotate_left 1; focus ((intro w'; go_simp); try with_reducible rfl); try simp only [Act.put, List.setIfInBounds_toArray, List.set_cons_zero, List.set_cons_succ])
  refine wpPre_nil ?_
  (refine wpHd_cons (v := ?_) rfl (by rfl) ?_ ?_); rotate_left 1; focus ((intro w' hSw; (try dsimp only at hSw); go_simp); try with_reducible rfl)
  try simp only [Act.put, List.setIfInBounds_toArray, List.set_cons_zero, List.set_cons_succ]
  refine wpHd_nil ?_
  refine chainT_cons rfl (fun K' hK => ?_)
  go_simp
  refine HC24.out.mono ?_
  rintro e w3 ⟨B, k, rfl, hu, hb⟩
  have hx3w := pw_cell_below hb hx3d
  have hb3 : Below W2.heap.size W2 w3 := (Below.refl _ _).drew.trans hb
  refine hK.out _ _ hx3w ?_
  clear hK K'
  refine chainT_cons rfl (fun K' hK => ?_)
  go_simp
  refine hK.out _ _ (pw_cell_below ((Below.refl _ _).alloc (Nat.le_refl _) _) hx3w) ?_
  clear hK K'
  refine chainT_nil ?_
  try simp only [Act.put, List.setIfInBounds_toArray, List.set_cons_zero, List.set_cons_succ]
  have HU := Lib.hid (And.intro hu hb3)
  clear hu hb hb3 hx3w hx3d
  have hr3w : RV 45 w3 base (.slice A3 (L 3).length c3) (L 3) := Kd.R_below HX.out.2.2.2.2 HU.out.2
  have hbw : Below base w w3 := HX.out.2.2.1.trans (HU.out.2.mono (Nat.le_trans hbase HX.out.2.2.1.size))
  go_wp2_with (at_builtin; refine ap_v (W := w3) (base := base) (w0 := w) (u := .slice B l.length k) (vs := L 3) rfl rfl Tryz.underlying64 info45 rfl rfl rfl hr3w hbw (Nat.le_trans hbase hbw.size) (by have := HN3.out; omega) ?_; intro v4 w4 a1 a2 a3 a4; obtain ⟨A4, n4, c4, hv4⟩ := a1.slc; subst hv4; have hk3 := HX.out.1.below HU.out.2; have hb4 := (a3.block g (row_lt hk3.box) (Kd.R_ne hr3w hk3.box (by decide))).trans hk3.box; have hcx : w4.cell? ⟨g, 3, none⟩ = some (.slice A3 (L 3).length c3) := (by rw [cell_of_row _ _ _ _ _ _ hb4]; simpa using HX.out.2.2.2.1); have hfx := row_frozen hb4 3; have HA := Lib.hid (And.intro a1 (And.intro a2 (And.intro a3 a4))); clear a1 a2 a3 a4 hb4 hk3)
  refine bodyPost_end (results_none rfl _ _ _) rfl ⟨⟨_, rfl⟩, ?_⟩
  obtain ⟨k1, k2, k3, k4, k5⟩ := HX.out
  obtain ⟨m1, m2⟩ := (k1.below HU.out.2).app (i := 3) rfl k4 HA.out.1 HA.out.2.2.1 HA.out.2.2.2
  have ha : Aside w (w4.setCell ⟨g, 3, none⟩ (.slice A4 n4 c4)) := k2.trans ((Aside.below HU.out.2).trans m2)
  refine ⟨_, _, m1, fun i h2 h3 => by rw [put_other _ _ _ h3, put_other _ _ _ h2], ?_, ?_, ha, HA.out.2.1.setCell k1.ge _⟩
  · rw [put_other _ _ _ (by decide), put_same, List.length_append]; rfl
  · rw [put_other _ _ _ (show 2 ≠ 3 by decide), put_same, put_same]
    exact (PairsU.aside HP.out ha).snoc (HV.out.aside ha) ((ORow.lower HU.out.1 (Nat.le_trans hbase HX.out.2.2.1.size)).aside m2 (by decide)) hl HK.out
end Go.Proofs.YthnhfddlmkhgkaaGreatDoor

set_option linter.unusedVariables false
namespace Go.Proofs.YthnhfddlmkhgkaaGreatDoor
open Go.RowKit Go.Proofs.YthnhfddlmkhgkaaGreatDoorW.PrintWords

/-- one list more of that kind is kept -/
def KeptB (w : World) (base g ps : Nat) (L : Nat → List Value) (K : Nat → Prop) (v : Value) (w' : World) : Prop :=
  ∃ cs' L', BkR w' base g ps cs' L' ∧ (∀ i, i ≠ 5 → i ≠ 6 → L' i = L i) ∧ (L' 5).length = (L 5).length + 1 ∧ PairsB w' base (fun k => K k ∨ v.ownBlock = some k) (L' 5) (L' 6) ∧ Aside w w' ∧ Below base w w'
set_option maxHeartbeats 4000000 in
set_option maxRecDepth 100000 in
theorem keepBools_any (g base ps : Nat) (cs : List Value) (L : Nat → List Value) (K : Nat → Prop) (v : Value) (l : List Bool) (w : World) (h : BkR w base g ps cs L) (hp : PairsB w base K (L 5) (L 6)) (hv : OB w base v l) (hl : l.length ≤ 1048576) (hk : ∀ k : Nat, v.ownBlock = some k → ¬ K k) (hn : (L 5).length + 1 ≤ 10000000) (hbase : base ≤ w.heap.size) :
    Calls Tryz.prog 61 #[.pointer (some ⟨g, 0, none⟩), v] w (fun e w' => (∃ x, e = .returned x) ∧ KeptB w base g ps L K v w') := by
  obtain ⟨A2, c2, hv2, hx2, hr2⟩ := h.get 5 rfl
  have hv0 := hv
  obtain ⟨A, c, rfl, hc, hrd⟩ := hv.reads
  have HH := Lib.hid h
  have HP := Lib.hid hp
  have HV := Lib.hid hv0
  have HK := Lib.hid hk
  have HR2 := Lib.hid hr2
  have HV2 := Lib.hid hv2
  have HN := Lib.hid hn
  have HN3 : Hid ((L 6).length + 1 ≤ 10000000) := Lib.hid (by rw [hp.len]; exact hn)
  clear h hp hv hv0 hk hr2 hrd hv2 hn
  go_enter Tryz.func61, Tryz.ntmps61
  go_upto_region 1 with (at_builtin; refine ap_v (W := w) (base := base) (w0 := w) (u := .slice A l.length c) (vs := L 5) rfl rfl Tryz.underlying65 info78 rfl rfl rfl HR2.out (Below.refl _ _) hbase (by have := HN.out; omega) ?_; intro v1 w1 a1 a2 a3 a4; obtain ⟨A1, n1, c1, hv1⟩ := a1.slc; subst hv1; have hb1 : w1.heap[g]? = some (.cells cs.toArray 71 (0, 0)) := (a3.block g (row_lt HH.out.box) (Kd.R_ne HR2.out HH.out.box (by decide))).trans HH.out.box; have hcx : w1.cell? ⟨g, 5, none⟩ = some (.slice A2 (L 5).length c2) := (by rw [cell_of_row _ _ _ _ _ _ hb1]; simpa using HV2.out); have hfx := row_frozen hb1 5; have HA := Lib.hid (And.intro a1 (And.intro a2 (And.intro a3 a4))); clear a1 a2 a3 a4 hb1)
  obtain ⟨k1, k2⟩ := HH.out.app (i := 5) rfl HV2.out HA.out.1 HA.out.2.2.1 HA.out.2.2.2
  have hB2 : Below base w (w1.setCell ⟨g, 5, none⟩ (.slice A1 n1 c1)) := HA.out.2.1.setCell HH.out.ge _
  obtain ⟨W2, hW2⟩ : ∃ W2, W2 = w1.setCell ⟨g, 5, none⟩ (.slice A1 n1 c1) := ⟨_, rfl⟩
  rw [← hW2] at k1 k2 hB2 ⊢
  obtain ⟨A3, c3, hv3, hx3, hr3⟩ := k1.get 6 rfl
  rw [put_other _ _ _ (by decide)] at hv3 hx3 hr3
  have hx3d : W2.drew.cell? ⟨g, 6, none⟩ = some (.slice A3 (L 6).length c3) := hx3
  have HC24 := Lib.hid (new_bools A l c W2.drew ((HV.out.aside k2).read_.2.2.below ((Below.refl _ _).drew)) hl)
  have HX := Lib.hid (And.intro k1 (And.intro k2 (And.intro hB2 (And.intro hv3 hr3))))
  clear k1 k2 hB2 hv3 hr3 hW2 HA hcx hfx hx2 hx3
  refine region_hold (fun w' => w'.cell? ⟨g, 6, none⟩ = some (.slice A3 (L 6).length c3)) [0, 1, 2, 3, 5] [4] [6, 7] [8, 9, 10, 11] mixed (by kernel_rfl) (fun _ _ _ _ _ h => h) hx3d ?_
  simp only [pick, List.getElem?_cons_zero, List.getElem?_cons_succ]
  iterate 5 ((refine wpPre_cons (v := ?_) rfl (by rfl) ?_ ?_); rotate_left 1; focus ((intro w'; go_simp); try with_reducible rfl); try simp only [Act.put, List.setIfInBounds_toArray, List.set_cons_zero, List.set_cons_succ])
  refine wpPre_nil ?_
  (refine wpHd_cons (v := ?_) rfl (by rfl) ?_ ?_); rotate_left 1; focus ((intro w' hSw; (try dsimp only at hSw); go_simp); try with_reducible rfl)
  try simp only [Act.put, List.setIfInBounds_toArray, List.set_cons_zero, List.set_cons_succ]
  refine wpHd_nil ?_
  refine chainT_cons rfl (fun K' hK => ?_)
  go_simp
  refine HC24.out.mono ?_
  rintro e w3 ⟨B, k, rfl, hu, hb⟩
  have hx3w := pw_cell_below hb hx3d
  have hb3 : Below W2.heap.size W2 w3 := (Below.refl _ _).drew.trans hb
  refine hK.out _ _ hx3w ?_
  clear hK K'
  refine chainT_cons rfl (fun K' hK => ?_)
  go_simp
  refine hK.out _ _ (pw_cell_below ((Below.refl _ _).alloc (Nat.le_refl _) _) hx3w) ?_
  clear hK K'
  refine chainT_nil ?_
  try simp only [Act.put, List.setIfInBounds_toArray, List.set_cons_zero, List.set_cons_succ]
  have HU := Lib.hid (And.intro hu hb3)
  clear hu hb hb3 hx3w hx3d
  have hr3w : RV 78 w3 base (.slice A3 (L 6).length c3) (L 6) := Kd.R_below HX.out.2.2.2.2 HU.out.2
  have hbw : Below base w w3 := HX.out.2.2.1.trans (HU.out.2.mono (Nat.le_trans hbase HX.out.2.2.1.size))
  go_wp2_with (at_builtin; refine ap_v (W := w3) (base := base) (w0 := w) (u := .slice B l.length k) (vs := L 6) rfl rfl Tryz.underlying65 info78 rfl rfl rfl hr3w hbw (Nat.le_trans hbase hbw.size) (by have := HN3.out; omega) ?_; intro v4 w4 a1 a2 a3 a4; obtain ⟨A4, n4, c4, hv4⟩ := a1.slc; subst hv4; have hk3 := HX.out.1.below HU.out.2; have hb4 := (a3.block g (row_lt hk3.box) (Kd.R_ne hr3w hk3.box (by decide))).trans hk3.box; have hcx : w4.cell? ⟨g, 6, none⟩ = some (.slice A3 (L 6).length c3) := (by rw [cell_of_row _ _ _ _ _ _ hb4]; simpa using HX.out.2.2.2.1); have hfx := row_frozen hb4 6; have HA := Lib.hid (And.intro a1 (And.intro a2 (And.intro a3 a4))); clear a1 a2 a3 a4 hb4 hk3)
  refine bodyPost_end (results_none rfl _ _ _) rfl ⟨⟨_, rfl⟩, ?_⟩
  obtain ⟨k1, k2, k3, k4, k5⟩ := HX.out
  obtain ⟨m1, m2⟩ := (k1.below HU.out.2).app (i := 6) rfl k4 HA.out.1 HA.out.2.2.1 HA.out.2.2.2
  have ha : Aside w (w4.setCell ⟨g, 6, none⟩ (.slice A4 n4 c4)) := k2.trans ((Aside.below HU.out.2).trans m2)
  refine ⟨_, _, m1, fun i h2 h3 => by rw [put_other _ _ _ h3, put_other _ _ _ h2], ?_, ?_, ha, HA.out.2.1.setCell k1.ge _⟩
  · rw [put_other _ _ _ (by decide), put_same, List.length_append]; rfl
  · rw [put_other _ _ _ (show 5 ≠ 6 by decide), put_same, put_same]
    exact (PairsB.aside HP.out ha).snoc (HV.out.aside ha) ((ORow.lower HU.out.1 (Nat.le_trans hbase HX.out.2.2.1.size)).aside m2 (by decide)) hl HK.out
end Go.Proofs.YthnhfddlmkhgkaaGreatDoor

set_option linter.unusedVariables false
namespace Go.Proofs.YthnhfddlmkhgkaaGreatDoor
open Go.RowKit Go.Proofs.YthnhfddlmkhgkaaGreatDoorW.PrintWords

/-- a step without lists, as cells -/
def bareCells (o : Sp.Op) : List Value := opCells o (.slice none 0 0) (.slice none 0 0) (.slice none 0 0)
theorem bareCells_len (o : Sp.Op) : (bareCells o).length = 16 := rfl
theorem bareCells_one (o : Sp.Op) : ∀ u ∈ bareCells o, u.oneCell' = true := opCells_one o rfl rfl rfl
theorem opMs_succ (ps id j : Nat) : Sp.opMs ps id (j + 1) = Sp.opMs ps id j ++ [Sp.opM ps id j] := by simp [Sp.opMs, List.range_succ]
abbrev RK (w : World) (base : Nat) (v : Value) (xs : List (List Value)) : Prop := kraw.R 80 w base (fun _ => True) v xs
theorem RK.step {w w1 : World} {base : Nat} {v : Value} {xs : List (List Value)} (h : RK w base v xs) (hm : ∀ k, v.ownBlock = some k → w1.heap[k]? = w.heap[k]?) : RK w1 base v xs := by
  obtain ⟨h0, inner, ho, hr⟩ := h
  exact ⟨h0, inner, own_move ho hm, hr⟩
theorem marks_list (w : World) (base ps id : Nat) : ∀ n, OpList w base (Sp.opMs ps id n) (List.replicate n (.slice none 0 0, .slice none 0 0, .slice none 0 0)) ∧ ((Sp.opMs ps id n).zip (List.replicate n ((.slice none 0 0, .slice none 0 0, .slice none 0 0) : V3))).map rawOf = (Sp.opMs ps id n).map bareCells
  | 0 => ⟨.nil, rfl⟩
  | n + 1 => by
    obtain ⟨h1, h2⟩ := marks_list w base ps id n
    rw [opMs_succ, List.replicate_succ']
    refine ⟨.snoc h1 (OpRows.zero _ _ _ ⟨rfl, rfl, rfl⟩) (fun u _ k _ hk => ?_), ?_⟩
    · rcases hk with hk | hk | hk <;> cases hk
    · rw [List.zip_append (by simp [Sp.opMs_len]), List.map_append, h2, List.map_append]
      rfl
theorem OpsRow.marks {w : World} {base ps id n : Nat} {v : Value} (h : RK w base v ((Sp.opMs ps id n).map bareCells)) : OpsRow w base v (Sp.opMs ps id n) := by
  obtain ⟨h1, h2⟩ := marks_list w base ps id n
  exact ⟨_, h1, by rw [h2]; exact h⟩
/-- the walk of opsWrite: so many lists bear their marks -/
def WrO (w wr : World) (base : Nat) (vs : List Value) (ps id i : Nat) : Prop :=
  Below base w wr ∧ (∀ k : Nat, k < w.heap.size → (∀ v ∈ vs, v.ownBlock ≠ some k) → wr.heap[k]? = w.heap[k]?) ∧ ∀ (j : Nat) (v : Value), vs[j]? = some v → (j < i → RK wr base v ((Sp.opMs ps (id + j + 1) (lenV v)).map bareCells)) ∧ (i ≤ j → ∃ xs, RK wr base v xs)
theorem marksO_put (ps id j : Nat) (xs : List (List Value)) (h : j < xs.length) : ((Sp.opMs ps id j).map bareCells ++ xs.drop j).set j (bareCells (Sp.opM ps id j)) = (Sp.opMs ps id (j + 1)).map bareCells ++ xs.drop (j + 1) := by
  rw [opMs_succ, List.drop_eq_getElem_cons h, List.map_append, List.append_assoc]
  rw [List.set_append_right _ _ (by rw [List.length_map, Sp.opMs_len]; exact Nat.le_refl _), List.length_map, Sp.opMs_len, Nat.sub_self]
  rfl
set_option maxHeartbeats 4000000 in
set_option maxRecDepth 100000 in
theorem opsWrite_any (g base ps id : Nat) (A2 : Option Addr) (c2 : Nat) (vs : List Value) (bx : Array Value) (w : World) (hg : w.heap[g]? = some (.cells bx 71 (0, 0))) (h1 : bx[1]? = some (.int .i64 (ps : Int))) (h2 : bx[17]? = some (.slice A2 vs.length c2))
    (hr : ORow 26 w base (.slice A2 vs.length c2) vs) (hv : ∀ (j : Nat) (v : Value), vs[j]? = some v → ∃ xs, RK w base v xs ∧ xs.length ≤ 1099511627776) (ha : Apart vs) (hid : id + vs.length ≤ 1099511627776) (hps : ps ≤ 1) :
    Calls Tryz.prog 116 #[.pointer (some ⟨g, 0, none⟩), .int .i64 (id : Int)] w (fun e w' => e = .returned (.int .i64 ((id + vs.length : Nat) : Int)) ∧ WrO w w' base vs ps id vs.length) := by
  have hfar : ∀ v ∈ vs, ∀ (k : Nat), v.ownBlock = some k → ∃ cells fr, w.heap[k]? = some (.cells cells 80 fr) := fun v hm k hk => by
    obtain ⟨j, hj⟩ := List.getElem?_of_mem hm
    obtain ⟨xs, hl, _⟩ := hv j v hj
    obtain ⟨c, hc⟩ := Kd.R_typed hl k hk
    exact ⟨c, _, hc⟩
  have HGB : Hid (∀ wr : World, w.heap.size ≤ wr.heap.size → (∀ k : Nat, k < w.heap.size → (∀ v ∈ vs, v.ownBlock ≠ some k) → wr.heap[k]? = w.heap[k]?) → wr.heap[g]? = some (.cells bx 71 (0, 0)) ∧ ORow 26 wr base (.slice A2 vs.length c2) vs) := Lib.hid (fun wr k1 k3 => by
    refine ⟨(k3 g (row_lt hg) (fun v hm e => ?_)).trans hg, hr.step k1 (fun k hk => k3 k (hr.lt k hk).2 (fun v hm e => ?_))⟩
    · obtain ⟨c, fr, hh⟩ := hfar v hm g e
      rw [hg] at hh
      injection hh with hh
      injection hh with _ hh _
      exact absurd hh (by decide)
    · obtain ⟨c, fr, hh⟩ := hfar v hm k e
      obtain ⟨c3, fr3, hh3⟩ := hr.typed k hk
      rw [hh3] at hh
      injection hh with hh
      injection hh with _ hh _
      exact absurd hh (by decide))
  have HL : Hid (∀ (j : Nat) (v : Value), vs[j]? = some v → lenV v ≤ 1099511627776) := Lib.hid (fun j v hj => by
    obtain ⟨xs, hl, hb⟩ := hv j v hj
    obtain ⟨A, c, rfl⟩ := Kd.R_slice hl
    exact hb)
  have HLT : Hid (∀ v ∈ vs, ∀ k : Nat, v.ownBlock = some k → k < w.heap.size) := Lib.hid (fun v hm k hk => by
    obtain ⟨c, fr, hh⟩ := hfar v hm k hk
    exact row_lt hh)
  have HBX := Lib.hid (And.intro h1 h2)
  have HAP := Lib.hid ha
  have HST : Hid (WrO w w base vs ps id 0) := Lib.hid ⟨Below.refl _ _, fun _ _ _ => rfl, fun j v hj => ⟨fun h => absurd h (by omega), fun _ => by obtain ⟨xs, hl, _⟩ := hv j v hj; exact ⟨xs, hl⟩⟩⟩
  clear hg h1 h2 hr hv ha hfar
  go_enter Tryz.func116, Tryz.ntmps116
  go_wp2
  go_loopw [1, 5] (fun v1 v5 wr => ∃ (i : Nat), v1 = .int .i64 ((id : Int) + i) ∧ v5 = .int .i64 (i : Int) ∧ i ≤ vs.length ∧ Hid (WrO w wr base vs ps id i)) (fun _ v5 _ => vs.length - (intOf v5).toNat)
  case atStart => exact ⟨0, by simp, rfl, Nat.zero_le _, HST⟩
  case round =>
    obtain ⟨i, rfl, rfl, hi, HS⟩ := hrel
    obtain ⟨W3, rfl⟩ : ∃ W3, W3 = wr := ⟨_, rfl⟩
    have hx1 : W3.cell? ⟨g, 1, none⟩ = some (.int .i64 (ps : Int)) := by rw [cell_of_row _ _ _ _ _ _ (HGB.out W3 HS.out.1.size HS.out.2.1).1]; exact HBX.out.1
    have hx2 : W3.cell? ⟨g, 17, none⟩ = some (.slice A2 vs.length c2) := by rw [cell_of_row _ _ _ _ _ _ (HGB.out W3 HS.out.1.size HS.out.2.1).1]; exact HBX.out.2
    by_cases hlt : i < vs.length
    · obtain ⟨b2, hA2, _, _, hcell, _⟩ := (HGB.out W3 HS.out.1.size HS.out.2.1).2.at_ i hlt
      obtain ⟨v, hv⟩ : ∃ v, v = vs[i]'hlt := ⟨_, rfl⟩
      have hvi : vs[i]? = some v := by rw [hv]; exact List.getElem?_eq_getElem hlt
      obtain ⟨xs, hl⟩ := (HS.out.2.2 i v hvi).2 (Nat.le_refl _)
      obtain ⟨A, c, hve⟩ := Kd.R_slice hl
      have hll : xs.length ≤ 1099511627776 := by have h := HL.out i v hvi; rw [hve] at h; exact h
      have HVI := Lib.hid hvi
      have HOL := Lib.hid hl
      have HVE := Lib.hid hve
      have hmem : v ∈ vs := by rw [hv]; exact List.getElem_mem _
      have HMEM := Lib.hid hmem
      have HCB : Hid (∀ wr : World, w.heap.size ≤ wr.heap.size → (∀ k : Nat, k < w.heap.size → (∀ v ∈ vs, v.ownBlock ≠ some k) → wr.heap[k]? = w.heap[k]?) → wr.cell? ⟨g, 1, none⟩ = some (.int .i64 (ps : Int)) ∧ wr.cell? ⟨g, 17, none⟩ = some (.slice A2 vs.length c2) ∧ wr.cell? ⟨b2, i, none⟩ = some (.slice A xs.length c)) := Lib.hid (fun wr k1 k3 => by
        obtain ⟨m1, m2⟩ := HGB.out wr k1 k3
        obtain ⟨b3, e3, _, _, hc3, _⟩ := m2.at_ i hlt
        rw [hA2] at e3
        injection e3 with e3
        injection e3 with e3 _ _
        subst e3
        exact ⟨by rw [cell_of_row _ _ _ _ _ _ m1]; exact HBX.out.1, by rw [cell_of_row _ _ _ _ _ _ m1]; exact HBX.out.2, by rw [hc3, ← hv, hve]⟩)
      have HFR : Hid (∀ wr : World, (∀ k : Nat, k < W3.heap.size → v.ownBlock ≠ some k → wr.heap[k]? = W3.heap[k]?) → ∀ k : Nat, k < w.heap.size → (∀ v ∈ vs, v.ownBlock ≠ some k) → wr.heap[k]? = w.heap[k]?) := Lib.hid (fun wr h k hlt hk => (h k (Nat.lt_of_lt_of_le hlt HS.out.1.size) (hk v HMEM.out)).trans (HS.out.2.1 k hlt hk))
      rw [← hv, hve] at hcell
      clear hv hvi hl hve hmem
      subst hA2
      have q2 : (0 : Int) ≤ (i : Int) ∧ (i : Int) < (vs.length : Int) := ⟨by omega, by omega⟩
      have hid2 : (id : Int) + i + 1 ≤ 1099511627776 := by omega
      go_wp2
      go_loopw [6] (fun v6 wr => ∃ (j : Nat), v6 = .int .i64 (j : Int) ∧ j ≤ xs.length ∧ Hid (W3.heap.size ≤ wr.heap.size ∧ Below base w wr ∧ (∀ k : Nat, k < W3.heap.size → v.ownBlock ≠ some k → wr.heap[k]? = W3.heap[k]?) ∧ RK wr base v ((Sp.opMs ps (id + i + 1) j).map bareCells ++ xs.drop j))) (fun v6 _ => xs.length - (intOf v6).toNat)
      case atStart => exact ⟨0, rfl, Nat.zero_le _, Lib.hid ⟨Nat.le_refl _, HS.out.1, fun _ _ _ => rfl, by simpa [Sp.opMs] using HOL.out⟩⟩
      case round =>
        obtain ⟨j, rfl, hj, HI⟩ := hrel
        obtain ⟨y1, y2, y3⟩ := HCB.out wr (Nat.le_trans HS.out.1.size HI.out.1) (HFR.out wr HI.out.2.2.1)
        clear hcell hx1 hx2
        by_cases hltj : j < xs.length
        · have HY := Lib.hid (And.intro y1 (And.intro y2 y3))
          have hlm : ((Sp.opMs ps (id + i + 1) j).map bareCells ++ xs.drop j).length = xs.length := by rw [List.length_append, List.length_map, Sp.opMs_len, List.length_drop]; omega
          obtain ⟨b, capb, hvb, hbb, _⟩ := Kd.R_form HI.out.2.2.2 (by rw [hlm]; omega)
          rw [HVE.out, hlm] at hvb
          injection hvb with hA _ hcp
          subst hcp
          have HBB := Lib.hid hbb
          have HAE := Lib.hid hA
          go_wp2
          subst hA
          have q4 : (0 : Int) ≤ (j : Int) ∧ (j : Int) < (xs.length : Int) := ⟨by omega, by omega⟩
          obtain ⟨C, hC⟩ : ∃ C, C = bareCells (Sp.opM ps (id + i + 1) j) := ⟨_, rfl⟩
          have hcast : ((id + i + 1 : Nat) : Int) = (id : Int) + i + 1 := by omega
          have hmark : Calls Tryz.prog 159 #[.pointer (some ⟨g, 0, none⟩), .int .i64 ((id : Int) + i + 1), .int .i64 (j : Int)] wr.drew (BRet wr.drew (.agg C.toArray)) := by
            have h := opMark_any g ps (id + i + 1) j wr.drew y1 (by omega) (by omega) hps
            rw [hcast] at h
            rw [hC]
            exact h
          have HM := Lib.hid hmark
          have HCC := Lib.hid hC
          have y2d : wr.drew.cell? ⟨g, 17, none⟩ = some (.slice (some ⟨b2, 0, none⟩) vs.length c2) := y2
          have y3d : wr.drew.cell? ⟨b2, i, none⟩ = some (.slice (some ⟨b, 0, none⟩) xs.length c) := y3
          clear hmark hC hbb hlm hcast y1 y2 y3
          refine region_hold (fun w' => w'.cell? ⟨g, 17, none⟩ = some (.slice (some ⟨b2, 0, none⟩) vs.length c2) ∧ w'.cell? ⟨b2, i, none⟩ = some (.slice (some ⟨b, 0, none⟩) xs.length c)) [0, 1, 2, 4, 7, 8, 9, 10] [3, 5, 6] [11] [12, 13] mixed (by kernel_rfl) (fun _ _ _ _ _ h => h) ⟨y2d, y3d⟩ ?_
          simp only [pick, List.getElem?_cons_zero, List.getElem?_cons_succ]
          iterate 8 ((refine wpPre_cons (v := ?_) rfl (by rfl) ?_ ?_); rotate_left 1; focus ((intro w'; go_simp); try with_reducible rfl); try simp only [Act.put, List.setIfInBounds_toArray, List.set_cons_zero, List.set_cons_succ])
          refine wpPre_nil ?_
          iterate 3 ((refine wpHd_cons (v := ?_) rfl (by rfl) ?_ ?_); rotate_left 1; focus ((intro w' hSw; (try dsimp only at hSw); go_simp); try with_reducible rfl); try simp only [Act.put, List.setIfInBounds_toArray, List.set_cons_zero, List.set_cons_succ])
          refine wpHd_nil ?_
          refine chainT_cons rfl (fun K' hK => ?_)
          go_simp
          refine HM.out.mono ?_
          rintro e w1 ⟨rfl, hb1⟩
          refine hK.out _ _ ⟨pw_cell_below hb1 y2d, pw_cell_below hb1 y3d⟩ ?_
          clear hK K'
          refine chainT_nil ?_
          try simp only [Act.put, List.setIfInBounds_toArray, List.set_cons_zero, List.set_cons_succ]
          have hbw : Below wr.heap.size wr w1 := (Below.refl _ _).drew.trans hb1
          have HW := Lib.hid hbw
          have hrk : RK w1 base (.slice (some ⟨b, 0, none⟩) xs.length c) ((Sp.opMs ps (id + i + 1) j).map bareCells ++ xs.drop j) := by
            have h := Kd.R_below HI.out.2.2.2 hbw
            rw [HVE.out] at h
            exact h
          have HRK := Lib.hid hrk
          have HBW : Hid (Below base w w1) := Lib.hid (HI.out.2.1.trans (hbw.mono (Nat.le_trans HBB.out (by have := (Kd.R_lt HRK.out b rfl); have := HW.out.size; have := (Kd.R_lt HI.out.2.2.2 b (by rw [HVE.out]; rfl)); omega))))
          have hCL : C.length = 16 := by rw [HCC.out]; rfl
          have HCL := Lib.hid hCL
          have HC1 : Hid (∀ q ∈ C, q.oneCell' = true) := Lib.hid (by rw [HCC.out]; exact bareCells_one _)
          obtain ⟨old, o1, _, o3, _⟩ := Kd.R_elem hrk [] (j : Int) (by omega) (by omega)
          have HOLD := Lib.hid (And.intro o1 o3)
          clear o1 o3 hrk hbw hb1 hCL y2d y3d HM
          have hM : kraw.M w1 base (fun _ => False) C (old.take 0 ++ C ++ old.drop (0 + C.length)) := ⟨by rw [List.take_zero, List.nil_append, Nat.zero_add, HCL.out, List.drop_of_length_le (by rw [HOLD.out.1]; decide), List.append_nil], HCL.out, HC1.out⟩
          have HMM := Lib.hid hM
          have ht80 : (Tryz.prog.info? 80).map (·.size) = some C.length := by rw [HCL.out]; kernel_rfl
          have HT80 := Lib.hid ht80
          clear hM ht80
          go_wp2_with (refine gate_ (.store 80 (.tmp 42) (.tmp 41)) rfl ?_; refine Kd.R_store kraw (w0 := w) (W := w1) base rfl rfl 80 (.tmp 42) (.tmp 41) rfl 80 (j : Int) 0 ((Sp.opMs ps (id + i + 1) j).map bareCells ++ xs.drop j) C (.agg C.toArray) C old (fun _ => True) (fun _ => False) rfl (by simp [kraw]) rfl rfl HT80.out HC1.out HRK.out (by omega) (by omega) HOLD.out.1 HOLD.out.2 (by rw [HCL.out]; exact Nat.le_refl _) HMM.out (fun _ hk => hk.elim) HBW.out ?_; intro w2 z1 z2 z3; have HZ := Lib.hid (And.intro z1 (And.intro z2 z3)); clear z1 z2 z3)
          go_roundw
          case rel =>
            obtain ⟨z1, z2, z3⟩ := HZ.out
            obtain ⟨m1, m2, m3, m4⟩ := HI.out
            have hsz := HW.out.size
            refine ⟨j + 1, by go_num, by omega, Lib.hid ⟨Nat.le_trans m1 (Nat.le_trans hsz z3.size), z2, fun k hk hkv => ?_, ?_⟩⟩
            · refine (z3.block k (by omega) (fun e => hkv ?_)).trans ((HW.out.block k (by omega)).trans (m3 k hk hkv))
              injection e with e
              rw [HVE.out, e]
              rfl
            · rw [HVE.out]
              have h := z1
              rw [HCC.out, Int.toNat_natCast, marksO_put _ _ _ _ hltj] at h
              exact h
          case measure => simp [intOf]; omega
        · have hjl : j = xs.length := by omega
          go_wp2
          go_roundw
          case rel =>
            obtain ⟨m1, m2, m3, m4⟩ := HI.out
            obtain ⟨r1, r2, r3⟩ := HS.out
            refine ⟨i + 1, ?_, by go_num, by omega, Lib.hid ⟨m2, HFR.out wr m3, fun j2 v2 hj2 => ⟨fun hlt2 => ?_, fun hge => ?_⟩⟩⟩
            · exact congrArg (Value.int .i64) (by omega)
            · by_cases q : j2 = i
              · subst q
                have e : v2 = v := Option.some.inj (hj2.symm.trans HVI.out)
                subst e
                have hlv : lenV v2 = xs.length := by rw [HVE.out]; rfl
                rw [hlv, ← hjl]
                rw [hjl, List.drop_length, List.append_nil, ← hjl] at m4
                exact m4
              · have hl2 := (r3 j2 v2 hj2).1 (by omega)
                exact RK.step hl2 (fun k hk => m3 k (Kd.R_lt hl2 k hk) (HAP.out j2 i v2 v hj2 HVI.out q k hk))
            · obtain ⟨xs2, hl2⟩ := (r3 j2 v2 hj2).2 (by omega)
              exact ⟨xs2, RK.step hl2 (fun k hk => m3 k (Kd.R_lt hl2 k hk) (HAP.out j2 i v2 v hj2 HVI.out (by omega) k hk))⟩
          case measure => simp [intOf]; omega
    · go_wp2
      go_ret
      have e : i = vs.length := by omega
      subst e
      exact ⟨by rfl, HS.out⟩
end Go.Proofs.YthnhfddlmkhgkaaGreatDoor

set_option linter.unusedVariables false
namespace Go.Proofs.YthnhfddlmkhgkaaGreatDoor
open Go.RowKit Go.Proofs.YthnhfddlmkhgkaaGreatDoorW.PrintWords

/-- all blocks but those of steps are as they were -/
def But80 (w w' : World) : Prop := w.heap.size ≤ w'.heap.size ∧ ∀ (k : Nat) (c : Array Value) (e : TypeId) (fr : Nat × Nat), w.heap[k]? = some (Obj.cells c e fr) → e ≠ 80 → w'.heap[k]? = w.heap[k]?
theorem But80.refl (w : World) : But80 w w := ⟨Nat.le_refl _, fun _ _ _ _ _ _ => rfl⟩
theorem But80.trans {a b c : World} (h : But80 a b) (k : But80 b c) : But80 a c := ⟨Nat.le_trans h.1 k.1, fun i cs e fr hi he => by
  have h1 := h.2 i cs e fr hi he
  rw [k.2 i cs e fr (h1.trans hi) he, h1]⟩
theorem But80.below {w w' : World} (h : Below w.heap.size w w') : But80 w w' := ⟨h.size, fun k c e fr hk _ => h.block k (row_lt hk)⟩
theorem But80.set {w : World} {g : Nat} {cells : Array Value} {fr : Nat × Nat} (hg : w.heap[g]? = some (.cells cells 80 fr)) (i : Nat) (u : Value) : But80 w (w.setCell ⟨g, i, none⟩ u) :=
  ⟨by simp [World.setCell], fun k c e fr2 hk he => Below.heap_setCell w ⟨g, i, none⟩ u k (by
    intro e2
    simp only at e2
    subst e2
    rw [hg] at hk
    injection hk with hk
    injection hk with _ hk _
    exact he hk.symm)⟩
theorem But80.grown {w w' : World} {row : Option Nat} (h : w.grownBy w' row) (hr : ∀ k, row = some k → ∃ c, w.heap[k]? = some (.cells c 80 (0, 0))) : But80 w w' :=
  ⟨h.size, fun k c e fr hk he => h.block k (row_lt hk) (by
    intro e2
    obtain ⟨c2, hk2⟩ := hr k e2.symm
    rw [hk] at hk2
    injection hk2 with hk2
    injection hk2 with _ hk2 _
    exact he hk2)⟩
theorem ORow.but80 {e : TypeId} {w w1 : World} {base : Nat} {v : Value} {vs : List Value} (h : ORow e w base v vs) (ha : But80 w w1) (he : e ≠ 80) : ORow e w1 base v vs :=
  h.step ha.1 fun k hk => by
    obtain ⟨c, fr, hh⟩ := h.typed k hk
    exact ha.2 k c e fr hh he
theorem PairsU.but80 {w w1 : World} {base : Nat} {K : Nat → Prop} {vs ws : List Value} (h : PairsU w base K vs ws) (ha : But80 w w1) : PairsU w1 base K vs ws := Pairs.step h fun v l hl => ORow.but80 hl ha (by decide)
theorem PairsB.but80 {w w1 : World} {base : Nat} {K : Nat → Prop} {vs ws : List Value} (h : PairsB w base K vs ws) (ha : But80 w w1) : PairsB w1 base K vs ws := Pairs.step h fun v l hl => ORow.but80 hl ha (by decide)
theorem BkR.but80 {w w1 : World} {base g ps : Nat} {cs : List Value} {L : Nat → List Value} (h : BkR w base g ps cs L) (ha : But80 w w1) : BkR w1 base g ps cs L :=
  h.step fun k c e fr hk he => ha.2 k c e fr hk (by rintro rfl; revert he; decide)
theorem Aside.under {w W W' : World} (h : Aside w W) (hb : Below w.heap.size W W') : Aside w W' := ⟨Nat.le_trans h.1 hb.size, fun k c e fr hk he => (hb.block k (row_lt hk)).trans (h.2 k c e fr hk he)⟩
/-- the bounds of a play's steps -/
def SmallO (os : List Sp.Op) : Prop := os.length ≤ 2000 ∧ ∀ o ∈ os, o.data.length ≤ 1048576 ∧ o.keep.length ≤ 1048576 ∧ o.call.data.length ≤ 1048576
abbrev PairsO (w : World) (base : Nat) (K : Nat → Prop) (vs ws : List Value) : Prop := Pairs OpsRow SmallO w base K vs ws
theorem PairsO.aside {w w1 : World} {base : Nat} {K : Nat → Prop} {vs ws : List Value} (h : PairsO w base K vs ws) (ha : Aside w w1) : PairsO w1 base K vs ws := Pairs.step h fun v l hl => OpsRow.aside hl ha
theorem OpList.lower {w : World} {base lo : Nat} {os : List Sp.Op} {ts : List V3} (h : OpList w lo os ts) (hb : base ≤ lo) : OpList w base os ts := by
  induction h with
  | nil => exact .nil
  | snoc h ho hd ih => exact .snoc ih (ho.lower hb) hd
theorem OpsRow.lower {w : World} {base lo : Nat} {v : Value} {os : List Sp.Op} (h : OpsRow w lo v os) (hb : base ≤ lo) : OpsRow w base v os := by
  obtain ⟨ts, h1, h2⟩ := h
  exact ⟨ts, h1.lower hb, Kd.R_lower h2 hb⟩
theorem OpList.get {w : World} {base : Nat} {os : List Sp.Op} {ts : List V3} (h : OpList w base os ts) : ∀ (j : Nat) (p : Sp.Op) (t : V3), os[j]? = some p → ts[j]? = some t → OpRows w base p t.1 t.2.1 t.2.2 := by
  induction h with
  | nil => intro j p t hj; simp at hj
  | @snoc os ts o t h ho hd ih =>
    intro j p t' hj ht
    have hl := h.len
    rcases Nat.lt_or_ge j os.length with hlt | hge
    · rw [List.getElem?_append_left hlt] at hj
      rw [List.getElem?_append_left (by omega)] at ht
      exact ih j p t' hj ht
    · rw [List.getElem?_append_right hge] at hj
      rw [List.getElem?_append_right (by omega)] at ht
      have hj0 : j - os.length = 0 := by
        have := (List.getElem?_eq_some_iff.1 hj).1
        simp at this; omega
      rw [hj0] at hj
      rw [show j - ts.length = 0 by omega] at ht
      simp at hj ht
      subst hj ht
      exact ho
/-- no two steps' rows alike -/
theorem OpList.two {w : World} {base : Nat} {os : List Sp.Op} {ts : List V3} (h : OpList w base os ts) : ∀ (i j : Nat) (a b : V3), i < j → ts[i]? = some a → ts[j]? = some b → ∀ k, a.has k → ¬ b.has k := by
  induction h with
  | nil => intro i j a b _ hi; simp at hi
  | @snoc os ts o t h ho hd ih =>
    intro i j a b hij hi hj
    rcases Nat.lt_or_ge j ts.length with hlt | hge
    · rw [List.getElem?_append_left hlt] at hj
      rw [List.getElem?_append_left (by omega)] at hi
      exact ih i j a b hij hi hj
    · rw [List.getElem?_append_right hge] at hj
      have hj0 : j - ts.length = 0 := by
        have := (List.getElem?_eq_some_iff.1 hj).1
        simp at this; omega
      rw [hj0] at hj
      simp at hj
      subst hj
      rw [List.getElem?_append_left (by omega)] at hi
      exact hd a (List.mem_of_getElem? hi)
/-- a row of steps all of whose blocks are of D -/
def OpsIn (w : World) (lo : Nat) (D : Nat → Prop) (v : Value) (os : List Sp.Op) (ts : List V3) : Prop :=
  OpList w lo os ts ∧ RK w lo v ((os.zip ts).map rawOf) ∧ (∀ t ∈ ts, ∀ k, V3.has t k → D k) ∧ ∀ k : Nat, v.ownBlock = some k → D k
theorem OpsIn.row {w : World} {lo : Nat} {D : Nat → Prop} {v : Value} {os : List Sp.Op} {ts : List V3} (h : OpsIn w lo D v os ts) : OpsRow w lo v os := ⟨ts, h.1, h.2.1⟩
theorem OpsIn.aside {w w1 : World} {lo : Nat} {D : Nat → Prop} {v : Value} {os : List Sp.Op} {ts : List V3} (h : OpsIn w lo D v os ts) (ha : Aside w w1) : OpsIn w1 lo D v os ts :=
  ⟨h.1.aside ha, h.2.1.step fun k hk => by
    obtain ⟨c, hc⟩ := Kd.R_typed h.2.1 k hk
    exact ha.2 k c 80 _ hc (by decide), h.2.2⟩
/-- an element of it: its rows, its cells -/
theorem OpsIn.at_ {w : World} {lo : Nat} {D : Nat → Prop} {A : Option Addr} {n c : Nat} {os : List Sp.Op} {ts : List V3} (h : OpsIn w lo D (.slice A n c) os ts) (j : Nat) (hj : j < os.length) :
    ∃ ad u1 u2 u3, A = some ad ∧ ts[j]? = some (u1, u2, u3) ∧ OpRows w lo (os[j]'hj) u1 u2 u3 ∧ ∀ i v, (opCells (os[j]'hj) u1 u2 u3)[i]? = some v → w.cell? ((ad.add (j * 16)).add i) = some v := by
  obtain ⟨h1, h2, _, _⟩ := h
  obtain ⟨A', c', e, hc, hr⟩ := Kd.R_reads h2
  injection e with e _ _
  subst e
  have hlen : ((os.zip ts).map rawOf).length = os.length := by rw [List.length_map, List.length_zip, ← h1.len, Nat.min_self]
  rw [hlen] at hr
  obtain ⟨ad, ha, hcell⟩ := hr.2.2 (by omega)
  have hjt : j < ts.length := by rw [← h1.len]; exact hj
  have hraw : ((os.zip ts).map rawOf)[j]? = some (rawOf (os[j]'hj, ts[j]'hjt)) := by
    rw [List.getElem?_map, show (os.zip ts)[j]? = some (os[j]'hj, ts[j]'hjt) from List.getElem?_zip_eq_some.2 ⟨List.getElem?_eq_getElem hj, List.getElem?_eq_getElem hjt⟩]; rfl
  obtain ⟨cs, q1, q2, q3⟩ := hcell j _ hraw
  refine ⟨ad, (ts[j]'hjt).1, (ts[j]'hjt).2.1, (ts[j]'hjt).2.2, ha, List.getElem?_eq_getElem hjt, h1.get j _ _ (List.getElem?_eq_getElem hj) (List.getElem?_eq_getElem hjt), fun i v hv => ?_⟩
  rw [Addr.add_add]
  refine q3 i v ?_
  rw [q2.1]
  exact hv
/-- so many steps of a row are kept -/
def KUpto (K : Nat → Prop) (ts : List V3) (i : Nat) (k : Nat) : Prop := K k ∨ ∃ t ∈ ts.take i, V3.has t k
theorem KUpto.zero {K : Nat → Prop} {ts : List V3} (k : Nat) : K k → KUpto K ts 0 k := .inl
theorem KUpto.next {K : Nat → Prop} {ts : List V3} {i : Nat} {t : V3} (ht : ts[i]? = some t) (k : Nat) : KUpto K ts i k ∨ V3.has t k → KUpto K ts (i + 1) k := by
  have hi := (List.getElem?_eq_some_iff.1 ht).1
  have e : ts.take (i + 1) = ts.take i ++ [t] := by
    rw [List.take_succ_eq_append_getElem hi]
    have := (List.getElem?_eq_some_iff.1 ht).2
    rw [this]
  rintro ((h | ⟨u, hu, hk⟩) | h)
  · exact .inl h
  · exact .inr ⟨u, by rw [e]; exact List.mem_append_left _ hu, hk⟩
  · exact .inr ⟨t, by rw [e]; simp, h⟩
/-- the step at hand is none of those kept -/
theorem KUpto.new {w : World} {lo : Nat} {K D : Nat → Prop} {v : Value} {os : List Sp.Op} {ts : List V3} (h : OpsIn w lo D v os ts) (hK : ∀ k, K k → ¬ D k) {i : Nat} {t : V3} (ht : ts[i]? = some t) (k : Nat) (hk : V3.has t k) : ¬ KUpto K ts i k := by
  rintro (h1 | ⟨u, hu, hk2⟩)
  · exact hK k h1 (h.2.2.1 t (List.mem_of_getElem? ht) k hk)
  · obtain ⟨j, hj⟩ := List.getElem?_of_mem hu
    have hjl := (List.getElem?_eq_some_iff.1 hj).1
    rw [List.length_take] at hjl
    rw [List.getElem?_take_of_lt (by omega)] at hj
    exact h.1.two j i u t (by omega) hj ht k hk2 hk
end Go.Proofs.YthnhfddlmkhgkaaGreatDoor

set_option linter.unusedVariables false
namespace Go.Proofs.YthnhfddlmkhgkaaGreatDoor
open Go.RowKit Go.Proofs.YthnhfddlmkhgkaaGreatDoorW.PrintWords

/-- the walk of Ops: so many steps are kept -/
structure OpsSt (w wr : World) (base g ps : Nat) (L : Nat → List Value) (K : Nat → Prop) (ts : List V3) (os : List Sp.Op) (i : Nat) (v4 : Value) : Prop where
  st : ∃ cs' L', BkR wr base g ps cs' L' ∧ (∀ n, n ≠ 2 → n ≠ 3 → n ≠ 5 → n ≠ 6 → L' n = L n) ∧ (L' 2).length = (L 2).length + 2 * i ∧ (L' 5).length = (L 5).length + i ∧ PairsU wr base (KUpto K ts i) (L' 2) (L' 3) ∧ PairsB wr base (KUpto K ts i) (L' 5) (L' 6)
  was : OpsRow wr w.heap.size v4 (os.take i)
  aside : Aside w wr
  below : Below base w wr
/-- all steps of a row are kept, and the row -/
def KeptO (w : World) (base g ps : Nat) (L : Nat → List Value) (K D : Nat → Prop) (n : Nat) (w' : World) : Prop :=
  ∃ cs' L', BkR w' base g ps cs' L' ∧ (∀ n, n ≠ 2 → n ≠ 3 → n ≠ 5 → n ≠ 6 → n ≠ 17 → n ≠ 18 → L' n = L n) ∧ (L' 2).length = (L 2).length + 2 * n ∧ (L' 5).length = (L 5).length + n ∧ (L' 17).length = (L 17).length + 1 ∧
    PairsU w' base (fun k => K k ∨ D k) (L' 2) (L' 3) ∧ PairsB w' base (fun k => K k ∨ D k) (L' 5) (L' 6) ∧ PairsO w' base (fun k => K k ∨ D k) (L' 17) (L' 18) ∧ Aside w w' ∧ Below base w w'
set_option maxHeartbeats 8000000 in
set_option maxRecDepth 100000 in
theorem keepOps_any (g base ps lo : Nat) (cs : List Value) (L : Nat → List Value) (K D : Nat → Prop) (v : Value) (os : List Sp.Op) (ts : List V3) (w : World) (h : BkR w base g ps cs L) (hu : PairsU w base K (L 2) (L 3)) (hb : PairsB w base K (L 5) (L 6)) (ho : PairsO w base K (L 17) (L 18))
    (hv : OpsIn w lo D v os ts) (hlo : base ≤ lo) (hbase : base ≤ w.heap.size) (hK : ∀ k, K k → ¬ D k) (hsm : SmallO os) (hn2 : (L 2).length + 2 * os.length + 2 ≤ 10000000) (hn5 : (L 5).length + os.length + 2 ≤ 10000000) (hn17 : (L 17).length + 2 ≤ 10000000) :
    Calls Tryz.prog 30 #[.pointer (some ⟨g, 0, none⟩), v] w (fun e w' => (∃ x, e = .returned x) ∧ KeptO w base g ps L K D os.length w') := by
  obtain ⟨A, c, rfl, hlc⟩ := hv.row.len
  have HV := Lib.hid hv
  have HO := Lib.hid ho
  have HK := Lib.hid hK
  have HSM := Lib.hid hsm
  have HN := Lib.hid (And.intro hn2 (And.intro hn5 hn17))
  have HH := Lib.hid h
  have HST : Hid (OpsSt w w base g ps L K ts os 0 (.slice none 0 0)) := Lib.hid ⟨⟨cs, L, h, fun _ _ _ _ _ => rfl, by simp, by simp, hu.wider KUpto.zero, hb.wider KUpto.zero⟩, by simpa using OpsRow.nil _ _, Aside.refl _, Below.refl _ _⟩
  have hol : os.length ≤ 2000 := hsm.1
  clear h hu hb ho hv hK hsm hn2 hn5 hn17
  go_enter Tryz.func30, Tryz.ntmps30
  go_wp2
  go_loopw [4, 5] (fun v4 v5 wr => ∃ (i : Nat) (Av : Option Addr) (cv : Nat), v4 = .slice Av i cv ∧ v5 = .int .i64 (i : Int) ∧ i ≤ os.length ∧ Hid (OpsSt w wr base g ps L K ts os i (.slice Av i cv))) (fun _ v5 _ => os.length - (intOf v5).toNat)
  case atStart => exact ⟨0, none, 0, rfl, rfl, Nat.zero_le _, HST⟩
  case round =>
    obtain ⟨i, Av, cv, rfl, rfl, hi, HS⟩ := hrel
    clear HST
    obtain ⟨W3, rfl⟩ : ∃ W3, W3 = wr := ⟨_, rfl⟩
    by_cases hlt : i < os.length
    · obtain ⟨ad, u1, u2, u3, hA, ht, hrw, hcell⟩ := (HV.out.aside HS.out.aside).at_ i hlt
      obtain ⟨o, hoo⟩ : ∃ o, o = os[i]'hlt := ⟨_, rfl⟩
      rw [← hoo] at hrw hcell
      have HBO := Lib.hid (HSM.out.2 o (by rw [hoo]; exact List.getElem_mem _))
      have HTK : Hid (os.take (i + 1) = os.take i ++ [o]) := Lib.hid (by rw [List.take_succ_eq_append_getElem hlt, hoo])
      clear hoo
      have HT := Lib.hid ht
      have HRW := Lib.hid hrw
      have HCC := Lib.hid hcell
      obtain ⟨A1, k1, e1, _, _⟩ := hrw.1.reads
      obtain ⟨A2, k2, e2, _, _⟩ := hrw.2.1.reads
      obtain ⟨A3, k3, e3, _, _⟩ := hrw.2.2.1.reads
      subst e1 e2 e3
      clear ht hrw hcell
      obtain ⟨cs1, L1, p1, p2, p3, p4, p5, p6⟩ := HS.out.st
      have HP := Lib.hid (And.intro p1 (And.intro p2 (And.intro p3 (And.intro p4 (And.intro p5 p6)))))
      have hbW3 : base ≤ W3.heap.size := Nat.le_trans hbase HS.out.below.size
      clear p1 p2 p3 p4 p5 p6
      subst hA
      have q2 : (0 : Int) ≤ (i : Int) ∧ (i : Int) < (os.length : Int) := ⟨by omega, by omega⟩
      have hone2 : ((opCells o (.slice A1 o.call.data.length k1) (.slice A2 o.data.length k2) (.slice A3 o.keep.length k3)).toArray.all (·.oneCell')) = true := by rw [List.all_toArray]; exact List.all_eq_true.2 (opCells_one o rfl rfl rfl)
      go_upto_region 5 with (first | (refine wpList_load_any rfl 80 (.tmp 15) rfl (ad.add (i * 16)) rfl (opCells o (.slice A1 o.call.data.length k1) (.slice A2 o.data.length k2) (.slice A3 o.keep.length k3)) _ HCC.out Tryz.underlying80 rfl (by kernel_rfl) ?_) | (refine wpList_store_row rfl 80 (.tmp 6) (.tmp 16) rfl W3.heap.size (opCells o (.slice A1 o.call.data.length k1) (.slice A2 o.data.length k2) (.slice A3 o.keep.length k3)).toArray rfl rfl 80 _ (heap_alloc_new W3 _) (by kernel_rfl) rfl hone2 ?_; rw [World.setRow_alloc_new]))
      obtain ⟨W5, hW5⟩ : ∃ W5, W5 = W3.alloc (.cells (opCells o (.slice A1 o.call.data.length k1) (.slice A2 o.data.length k2) (.slice A3 o.keep.length k3)).toArray 80) := ⟨_, rfl⟩
      rw [← hW5]
      have hr5 : W5.heap[W3.heap.size]? = some (.cells (opCells o (.slice A1 o.call.data.length k1) (.slice A2 o.data.length k2) (.slice A3 o.keep.length k3)).toArray 80 (0, 0)) := by rw [hW5]; exact heap_alloc_new W3 _
      have hb35 : Below W3.heap.size W3 W5 := by rw [hW5]; exact (Below.refl _ _).alloc (Nat.le_refl _) _
      have hb5 : base ≤ W5.heap.size := Nat.le_trans hbW3 hb35.size
      clear hW5 hone2
      -- the step's own bytes
      have H31 := Lib.hid (keepBytes_any g base ps cs1 L1 (KUpto K ts i) (.slice A2 o.data.length k2) o.data W5 (HP.out.1.below hb35) (HP.out.2.2.2.2.1.aside (Aside.below hb35)) ((HRW.out.2.1.below hb35).lower hlo) HBO.out.1 (fun k hk => KUpto.new HV.out HK.out HT.out k (.inr (.inl hk))) (by rw [HP.out.2.2.1]; have := HN.out.1; omega) hb5)
      have y14 : W5.cell? ⟨W3.heap.size, 14, none⟩ = some (.slice A2 o.data.length k2) := by rw [cell_of_row _ _ _ _ _ _ hr5]; rfl
      have HB5 := Lib.hid (And.intro hr5 (And.intro hb35 hb5))
      clear hr5 hb35 hb5
      go_upto_region 6 with (go_at_call 31; refine H31.out.mono ?_; rintro e w6 ⟨⟨x6, rfl⟩, hk6⟩)
      obtain ⟨cs2, L2, m1, m2, m3, m4, m5, m6⟩ := hk6
      have hr6 := heap_aside HB5.out.1 m5 (by decide)
      have hb6 : base ≤ w6.heap.size := Nat.le_trans HB5.out.2.2 m6.size
      -- the call's bytes
      have H31b := Lib.hid (keepBytes_any g base ps cs2 L2 _ (.slice A1 o.call.data.length k1) o.call.data w6 m1 m4 (OU.aside (ORow.lower (ORow.below HRW.out.1 HB5.out.2.1) hlo) m5) HBO.out.2.2 (by
        rintro k hk (h1 | h1)
        · exact KUpto.new HV.out HK.out HT.out k (.inl hk) h1
        · exact HRW.out.2.2.2 k hk h1) (by rw [m3, HP.out.2.2.1]; have := HN.out.1; omega) hb6)
      have y13 : w6.cell? ⟨W3.heap.size, 13, none⟩ = some (.slice A1 o.call.data.length k1) := by rw [cell_of_row _ _ _ _ _ _ hr6]; rfl
      have H6 := Lib.hid (And.intro m1 (And.intro m2 (And.intro m3 (And.intro m4 (And.intro m5 (And.intro m6 (And.intro hr6 hb6)))))))
      clear m1 m2 m3 m4 m5 m6 hr6 hb6 y14 H31
      go_upto_region 7 with (go_at_call 31; refine H31b.out.mono ?_; rintro e w7 ⟨⟨x7, rfl⟩, hk7⟩)
      obtain ⟨cs3, L3, n1, n2, n3, n4, n5, n6⟩ := hk7
      obtain ⟨m1, m2, m3, m4, m5, m6, hr6, hb6⟩ := H6.out
      have hr7 := heap_aside hr6 n5 (by decide)
      have hb7 : base ≤ w7.heap.size := Nat.le_trans hb6 n6.size
      have ha37 : Aside W3 w7 := (Aside.below HB5.out.2.1).trans (m5.trans n5)
      have e5 : L3 5 = L1 5 := by rw [n2 5 (by decide) (by decide), m2 5 (by decide) (by decide)]
      have e6 : L3 6 = L1 6 := by rw [n2 6 (by decide) (by decide), m2 6 (by decide) (by decide)]
      -- the step's bits
      have H61 := Lib.hid (keepBools_any g base ps cs3 L3 (KUpto K ts i) (.slice A3 o.keep.length k3) o.keep w7 n1 (by rw [e5, e6]; exact HP.out.2.2.2.2.2.aside ha37) ((ORow.lower HRW.out.2.2.1 hlo).aside ha37 (by decide)) HBO.out.2.1 (fun k hk => KUpto.new HV.out HK.out HT.out k (.inr (.inr hk))) (by rw [e5, HP.out.2.2.2.1]; have := HN.out.2.1; omega) hb7)
      have y15 : w7.cell? ⟨W3.heap.size, 15, none⟩ = some (.slice A3 o.keep.length k3) := by rw [cell_of_row _ _ _ _ _ _ hr7]; rfl
      have H7 := Lib.hid (And.intro n1 (And.intro n2 (And.intro n3 (And.intro n4 (And.intro n5 (And.intro n6 (And.intro hr7 (And.intro hb7 ha37))))))))
      clear n1 n2 n3 n4 n5 n6 m1 m2 m3 m4 m5 m6 hr6 hb6 hr7 hb7 ha37 y13 H31b e5 e6
      go_upto_region 8 with (go_at_call 61; refine H61.out.mono ?_; rintro e w8 ⟨⟨x8, rfl⟩, hk8⟩)
      obtain ⟨cs4, L4, q1, q2, q3, q4, q5, q6⟩ := hk8
      have HQ : Hid (BkR w8 base g ps cs4 L4 ∧ (∀ n, n ≠ 2 → n ≠ 3 → n ≠ 5 → n ≠ 6 → L4 n = L n) ∧ (L4 2).length = (L 2).length + 2 * (i + 1) ∧ (L4 5).length = (L 5).length + (i + 1) ∧ PairsU w8 base (KUpto K ts (i + 1)) (L4 2) (L4 3) ∧ PairsB w8 base (KUpto K ts (i + 1)) (L4 5) (L4 6) ∧ Aside w w8 ∧ Aside W3 w8 ∧ Below base w w8 ∧ w8.heap[W3.heap.size]? = some (.cells (opCells o (.slice A1 o.call.data.length k1) (.slice A2 o.data.length k2) (.slice A3 o.keep.length k3)).toArray 80 (0, 0))) := Lib.hid (by
        obtain ⟨m1, m2, m3, m4, m5, m6, hr6, hb6⟩ := H6.out
        obtain ⟨n1, n2, n3, n4, n5, n6, hr7, hb7, ha37⟩ := H7.out
        obtain ⟨p1, p2, p3, p4, p5, p6⟩ := HP.out
        have b2 : L4 2 = L3 2 := q2 2 (by decide) (by decide)
        have b3 : L4 3 = L3 3 := q2 3 (by decide) (by decide)
        have b5 : L3 5 = L1 5 := by rw [n2 5 (by decide) (by decide), m2 5 (by decide) (by decide)]
        have hb3 : Below base W3 W5 := HB5.out.2.1.mono hbW3
        refine ⟨q1, fun n h2 h3 h5 h6 => ?_, ?_, ?_, ?_, ?_, HS.out.aside.trans (ha37.trans q5), ha37.trans q5, HS.out.below.trans (hb3.trans (m6.trans (n6.trans q6))), heap_aside hr7 q5 (by decide)⟩
        · rw [q2 n h5 h6, n2 n h2 h3, m2 n h2 h3, p2 n h2 h3 h5 h6]
        · rw [b2, n3, m3, p3]; omega
        · rw [q3, b5, p4]; omega
        · rw [b2, b3]
          refine (n4.aside q5).wider fun k hk => KUpto.next HT.out k ?_
          rcases hk with (hk | hk) | hk
          · exact .inl hk
          · exact .inr (.inr (.inl hk))
          · exact .inr (.inl hk)
        · refine q4.wider fun k hk => KUpto.next HT.out k ?_
          rcases hk with hk | hk
          · exact .inl hk
          · exact .inr (.inr (.inr hk)))
      have HR8 : Hid (ReadU w8 A2 o.data ∧ ReadU w8 A1 o.call.data ∧ ReadB w8 A3 o.keep) := Lib.hid (by
        have ha := HQ.out.2.2.2.2.2.2.2.1
        exact ⟨(OU.aside HRW.out.2.1 ha).read_.2.2, (OU.aside HRW.out.1 ha).read_.2.2, (OB.aside HRW.out.2.2.1 ha).read_.2.2⟩)
      clear q1 q2 q3 q4 q5 q6 H6 H7 H61 y15 HB5 HP hbW3
      have hl3 : W3.heap.size < w8.heap.size := row_lt HQ.out.2.2.2.2.2.2.2.2.2
      have HL3 := Lib.hid hl3
      clear hl3
      have H24 := Lib.hid (new_bytes A2 o.data k2 w8 HR8.out.1 HBO.out.1)
      have y14 : w8.cell? ⟨W3.heap.size, 14, none⟩ = some (.slice A2 o.data.length k2) := by rw [cell_of_row _ _ _ _ _ _ HQ.out.2.2.2.2.2.2.2.2.2]; rfl
      go_upto_region 9 with (go_at_call 24; refine H24.out.mono ?_; rintro e w9 ⟨B2, c2, rfl, hv2, hb9⟩; have hr9 := (hb9.block _ HL3.out).trans HQ.out.2.2.2.2.2.2.2.2.2; have y14b := (show w9.cell? ⟨W3.heap.size, 14, none⟩ = some (.slice A2 o.data.length k2) by rw [cell_of_row _ _ _ _ _ _ hr9]; rfl); have f14 := row_frozen hr9 14; have HV2 := Lib.hid (And.intro hv2 (And.intro hb9 hr9)); clear hv2 hb9 hr9 y14)
      obtain ⟨W9, hW9⟩ : ∃ W9, W9 = w9.setCell ⟨W3.heap.size, 14, none⟩ (.slice B2 o.data.length c2) := ⟨_, rfl⟩
      rw [← hW9]
      have HR9 : Hid (W9.heap[W3.heap.size]? = some (.cells (opCells o (.slice A1 o.call.data.length k1) (.slice B2 o.data.length c2) (.slice A3 o.keep.length k3)).toArray 80 (0, 0)) ∧ Below W3.heap.size w8 W9 ∧ OU W9 w8.heap.size (.slice B2 o.data.length c2) o.data ∧ But80 w8 W9 ∧ w8.heap.size ≤ W9.heap.size) := Lib.hid (by
        obtain ⟨hv, hb, hr⟩ := HV2.out
        have h3 := HL3.out
        refine ⟨by rw [hW9, row_set hr, op_put14], by rw [hW9]; exact (hb.mono (Nat.le_of_lt h3)).setCell (Nat.le_refl _) _, ?_, by rw [hW9]; exact (But80.below hb).trans (But80.set hr _ _), by rw [hW9]; simpa [World.setCell] using hb.size⟩
        rw [hW9]
        refine hv.far (fun k hk e2 => ?_) _
        have := (hv.lt k hk).1
        simp only at e2
        omega)
      clear hW9 f14 y14b HV2 H24
      have H24b := Lib.hid (new_bytes A1 o.call.data k1 W9 (OU.read_ (ORow.but80 (OU.aside HRW.out.1 HQ.out.2.2.2.2.2.2.2.1) HR9.out.2.2.2.1 (by decide))).2.2 HBO.out.2.2)
      have y13 : W9.cell? ⟨W3.heap.size, 13, none⟩ = some (.slice A1 o.call.data.length k1) := by rw [cell_of_row _ _ _ _ _ _ HR9.out.1]; rfl
      go_upto_region 10 with (go_at_call 24; refine H24b.out.mono ?_; rintro e w10 ⟨B1, c1, rfl, hv1, hb10⟩; have hr10 := (hb10.block _ (row_lt HR9.out.1)).trans HR9.out.1; have y13b := (show w10.cell? ⟨W3.heap.size, 13, none⟩ = some (.slice A1 o.call.data.length k1) by rw [cell_of_row _ _ _ _ _ _ hr10]; rfl); have f13 := row_frozen hr10 13; have HV1 := Lib.hid (And.intro hv1 (And.intro hb10 hr10)); clear hv1 hb10 hr10 y13)
      obtain ⟨W10, hW10⟩ : ∃ W10, W10 = w10.setCell ⟨W3.heap.size, 13, none⟩ (.slice B1 o.call.data.length c1) := ⟨_, rfl⟩
      rw [← hW10]
      have HR10 : Hid (W10.heap[W3.heap.size]? = some (.cells (opCells o (.slice B1 o.call.data.length c1) (.slice B2 o.data.length c2) (.slice A3 o.keep.length k3)).toArray 80 (0, 0)) ∧ Below W3.heap.size w8 W10 ∧ OU W10 w8.heap.size (.slice B2 o.data.length c2) o.data ∧ OU W10 W9.heap.size (.slice B1 o.call.data.length c1) o.call.data ∧ But80 w8 W10 ∧ W9.heap.size ≤ W10.heap.size) := Lib.hid (by
        obtain ⟨hv, hb, hr⟩ := HV1.out
        obtain ⟨g1, g2, g3, g4, g5⟩ := HR9.out
        have h3 := HL3.out
        refine ⟨by rw [hW10, row_set hr, op_put13], by rw [hW10]; exact (g2.trans (hb.mono (show W3.heap.size ≤ W9.heap.size by omega))).setCell (Nat.le_refl _) _, ?_, ?_, by rw [hW10]; exact g4.trans ((But80.below hb).trans (But80.set hr _ _)), by rw [hW10]; simpa [World.setCell] using hb.size⟩
        · rw [hW10]
          refine (g3.below hb).far (fun k hk e2 => ?_) _
          have := (g3.lt k hk).1
          simp only at e2
          omega
        · rw [hW10]
          refine hv.far (fun k hk e2 => ?_) _
          have := (hv.lt k hk).1
          simp only at e2
          omega)
      clear hW10 f13 y13b HV1 H24b
      have H62 := Lib.hid (new_bools A3 o.keep k3 W10 (OB.read_ (ORow.but80 (OB.aside HRW.out.2.2.1 HQ.out.2.2.2.2.2.2.2.1) HR10.out.2.2.2.2.1 (by decide))).2.2 HBO.out.2.1)
      have y15 : W10.cell? ⟨W3.heap.size, 15, none⟩ = some (.slice A3 o.keep.length k3) := by rw [cell_of_row _ _ _ _ _ _ HR10.out.1]; rfl
      go_upto_region 11 with (go_at_call 62; refine H62.out.mono ?_; rintro e w11 ⟨B3, c3, rfl, hv3, hb11⟩; have hr11 := (hb11.block _ (row_lt HR10.out.1)).trans HR10.out.1; have y15b := (show w11.cell? ⟨W3.heap.size, 15, none⟩ = some (.slice A3 o.keep.length k3) by rw [cell_of_row _ _ _ _ _ _ hr11]; rfl); have f15 := row_frozen hr11 15; have HV3 := Lib.hid (And.intro hv3 (And.intro hb11 hr11)); clear hv3 hb11 hr11 y15)
      obtain ⟨W11, hW11⟩ : ∃ W11, W11 = w11.setCell ⟨W3.heap.size, 15, none⟩ (.slice B3 o.keep.length c3) := ⟨_, rfl⟩
      rw [← hW11]
      have HR11 : Hid (W11.heap[W3.heap.size]? = some (.cells (opCells o (.slice B1 o.call.data.length c1) (.slice B2 o.data.length c2) (.slice B3 o.keep.length c3)).toArray 80 (0, 0)) ∧ Below W3.heap.size w8 W11 ∧ OpRows W11 w8.heap.size o (.slice B1 o.call.data.length c1) (.slice B2 o.data.length c2) (.slice B3 o.keep.length c3) ∧ But80 w8 W11) := Lib.hid (by
        obtain ⟨hv, hb, hr⟩ := HV3.out
        obtain ⟨g1, g2, g3, g4, g5, g6⟩ := HR10.out
        have h3 := HL3.out
        have h98 := HR9.out.2.2.2.2
        have hlt := row_lt hr
        refine ⟨by rw [hW11, row_set hr, op_put15], by rw [hW11]; exact (g2.trans (hb.mono (show W3.heap.size ≤ W10.heap.size by omega))).setCell (Nat.le_refl _) _, ⟨?_, ?_, ?_, ?_⟩, by rw [hW11]; exact g5.trans ((But80.below hb).trans (But80.set hr _ _))⟩
        · rw [hW11]
          refine (ORow.lower (g4.below hb) h98).far (fun k hk e2 => ?_) _
          have := (g4.lt k hk).1
          simp only at e2
          omega
        · rw [hW11]
          refine (g3.below hb).far (fun k hk e2 => ?_) _
          have := (g3.lt k hk).1
          simp only at e2
          omega
        · rw [hW11]
          refine (ORow.lower hv (by omega)).far (fun k hk e2 => ?_) _
          have := (hv.lt k hk).1
          simp only at e2
          omega
        · intro k hk hk2
          have h1 := (g4.lt k hk).1
          have h2 := ((HR9.out.2.2.1).lt k hk2).2
          omega)
      clear hW11 f15 y15b HV3 H62
      have HH : Hid (∃ ts, OpList W11 w.heap.size (os.take i) ts ∧ kraw.R 80 W11 w.heap.size (fun _ => True) (.slice Av i cv) (((os.take i).zip ts).map rawOf) ∧ OpRows W11 w.heap.size o (.slice B1 o.call.data.length c1) (.slice B2 o.data.length c2) (.slice B3 o.keep.length c3) ∧ (∀ u ∈ ts, ∀ k, u.has k → ¬ V3.has ((.slice B1 o.call.data.length c1), (.slice B2 o.data.length c2), (.slice B3 o.keep.length c3)) k) ∧ Below w.heap.size w8 W11) := Lib.hid (by
        obtain ⟨g1, g2, g3, g4⟩ := HR11.out
        have ha : Aside W3 W11 := HQ.out.2.2.2.2.2.2.2.1.under g2
        have h3w : w.heap.size ≤ W3.heap.size := HS.out.below.size
        have h3 := HL3.out
        obtain ⟨ts2, z1, z2⟩ := HS.out.was
        refine ⟨ts2, z1.aside ha, RK.step z2 (fun k hk => ?_), g3.lower (by omega), ?_, g2.mono h3w⟩
        · obtain ⟨c, hc⟩ := Kd.R_typed z2 k hk
          exact ha.2 k c 80 _ hc (by decide)
        · intro u hu k hk hk2
          have := (z1.lt u hu k hk).2
          have := (g3.lt k hk2).1
          omega)
      obtain ⟨ts2, t1, t2, t3, t4, t5⟩ := HH.out
      have HT1 := Lib.hid t1
      have HT2 := Lib.hid t2
      have HT3 := Lib.hid t3
      have HT4 := Lib.hid t4
      have HT5 := Lib.hid t5
      have HL8 : Hid (w.heap.size ≤ W11.heap.size) := Lib.hid (Nat.le_trans HQ.out.2.2.2.2.2.2.2.2.1.size t5.size)
      have HTL : Hid ((os.take i).length = i) := Lib.hid (by rw [List.length_take]; omega)
      clear t1 t2 t3 t4 t5 HH HR9 HR10 HR8
      have tk2 := trivial
      go_wp2_with (first | (have tq := tk2; refine wpList_load_row rfl 80 (.tmp 6) rfl W3.heap.size rfl 80 (opCells o (.slice B1 o.call.data.length c1) (.slice B2 o.data.length c2) (.slice B3 o.keep.length c3)).toArray _ _ HR11.out.1 Tryz.underlying80 rfl (by kernel_rfl) ?_; clear tk2 tq; have tk3 := trivial) | (have tq := tk3; refine wpList_build_op (W := W11) (x := .tmp 45) (p := o) (v1 := .slice B1 o.call.data.length c1) (v2 := .slice B2 o.data.length c2) (v3 := .slice B3 o.keep.length c3) rfl rfl rfl ?_; clear tk3 tq; have tk4 := trivial) | (have tq := tk4; at_builtin; refine ap_op2 (W := W11) (base := w.heap.size) (w0 := w8) (v := .slice Av i cv) (os := os.take i) (p := o) (v1 := .slice B1 o.call.data.length c1) (v2 := .slice B2 o.data.length c2) (v3 := .slice B3 o.keep.length c3) (ts := ts2) rfl rfl rfl rfl HT1.out HT2.out HT3.out HT4.out HT5.out HL8.out (by rw [HTL.out]; omega) ?_; clear tk4 tq; intro v4 w12 a1 a2 a3 a4; obtain ⟨A9, c9, hv9, hc9⟩ := a1.len; rw [List.length_append, HTL.out, List.length_singleton] at hv9; subst hv9; have HA := Lib.hid (And.intro a1 (And.intro a2 (And.intro a3 a4))); clear a1 a2 a3 a4))
      go_roundw
      case rel =>
        obtain ⟨a1, a2, a3, a4⟩ := HA.out
        obtain ⟨q1, q2, q3, q4, q5, q6, q7, q8, q9, q10⟩ := HQ.out
        have hb80 : But80 w8 w12 := HR11.out.2.2.2.trans (But80.grown a3 a4)
        refine ⟨i + 1, A9, c9, rfl, by go_num, by omega, Lib.hid ⟨⟨cs4, L4, q1.but80 hb80, q2, q3, q4, q5.but80 hb80, q6.but80 hb80⟩, by rw [HTK.out]; exact a1, q7.under a2, q9.trans (a2.mono hbase)⟩⟩
      case measure => simp [intOf]; omega
    · have hie : i = os.length := by omega
      subst hie
      have hwas := HS.out.was
      rw [List.take_of_length_le (by omega)] at hwas
      obtain ⟨cs1, L1, p1, p2, p3, p4, p5, p6⟩ := HS.out.st
      have e17 : L1 17 = L 17 := p2 17 (by decide) (by decide) (by decide) (by decide)
      have e18 : L1 18 = L 18 := p2 18 (by decide) (by decide) (by decide) (by decide)
      obtain ⟨A17, c17, hv17, hx17, hr17⟩ := p1.get 17 rfl
      obtain ⟨A18, c18, hv18, hx18, hr18⟩ := p1.get 18 rfl
      rw [e17] at hv17 hx17 hr17
      rw [e18] at hv18 hx18 hr18
      have hl18 : (L 18).length = (L 17).length := HO.out.len
      have HX := Lib.hid (And.intro p1 (And.intro p2 (And.intro p3 (And.intro p4 (And.intro p5 (And.intro p6 (And.intro hv17 (And.intro hv18 (And.intro hr17 hr18)))))))))
      have HWAS := Lib.hid hwas
      have HEE := Lib.hid (And.intro e17 e18)
      have HL18 := Lib.hid hl18
      have hbW3 : base ≤ W3.heap.size := Nat.le_trans hbase HS.out.below.size
      clear p1 p2 p3 p4 p5 p6 hv17 hv18 hr17 hr18 hwas e17 e18 hl18 hx18
      go_upto_region 13 with (at_builtin; refine ap_v (W := W3) (base := base) (w0 := w) (u := .slice A os.length c) (vs := L 17) rfl rfl Tryz.underlying69 info26 rfl rfl rfl HX.out.2.2.2.2.2.2.2.2.1 HS.out.below hbW3 (by have := HN.out.2.2; omega) ?_; intro v1 w1 a1 a2 a3 a4; obtain ⟨A1, n1, c1, hv1⟩ := a1.slc; subst hv1; have hb1 := (a3.block g (row_lt HX.out.1.box) (Kd.R_ne HX.out.2.2.2.2.2.2.2.2.1 HX.out.1.box (by decide))).trans HX.out.1.box; have hcx : w1.cell? ⟨g, 17, none⟩ = some (.slice A17 (L 17).length c17) := (by rw [cell_of_row _ _ _ _ _ _ hb1]; simpa using HX.out.2.2.2.2.2.2.1); have hfx := row_frozen hb1 17; have HA := Lib.hid (And.intro a1 (And.intro a2 (And.intro a3 a4))); clear a1 a2 a3 a4 hb1)
      obtain ⟨m1, m2⟩ := HX.out.1.app (i := 17) rfl HX.out.2.2.2.2.2.2.1 HA.out.1 HA.out.2.2.1 HA.out.2.2.2
      have hB2 : Below base w (w1.setCell ⟨g, 17, none⟩ (.slice A1 n1 c1)) := HA.out.2.1.setCell HX.out.1.ge _
      obtain ⟨W2, hW2⟩ : ∃ W2, W2 = w1.setCell ⟨g, 17, none⟩ (.slice A1 n1 c1) := ⟨_, rfl⟩
      rw [← hW2] at m1 m2 hB2 ⊢
      have hv18 : (cs1.set 17 (.slice A1 n1 c1))[18]? = some (.slice A18 (L 18).length c18) := by rw [List.getElem?_set_ne (by decide)]; exact HX.out.2.2.2.2.2.2.2.1
      obtain ⟨v18, hv18b, hr18⟩ := m1.row 18 rfl
      have e18 : v18 = .slice A18 (L 18).length c18 := Option.some.inj (hv18b.symm.trans hv18)
      subst e18
      rw [put_other _ _ _ (by decide), HEE.out.2] at hr18
      have hx18 := m1.cell hv18
      have HM := Lib.hid (And.intro m1 (And.intro m2 (And.intro hB2 (And.intro hv18 hr18))))
      clear m1 m2 hB2 hv18 hv18b hr18 hW2 hcx hfx hx17 HA
      go_wp2_with (at_builtin; refine ap_v (W := W2) (base := base) (w0 := w) (u := .slice Av os.length cv) (vs := L 18) rfl rfl Tryz.underlying69 info26 rfl rfl rfl HM.out.2.2.2.2 HM.out.2.2.1 (Nat.le_trans hbase HM.out.2.2.1.size) (by have := HN.out.2.2; have := HL18.out; omega) ?_; intro v4 w4 a1 a2 a3 a4; obtain ⟨A4, n4, c4, hv4⟩ := a1.slc; subst hv4; have hb4 := (a3.block g (row_lt HM.out.1.box) (Kd.R_ne HM.out.2.2.2.2 HM.out.1.box (by decide))).trans HM.out.1.box; have hcx : w4.cell? ⟨g, 18, none⟩ = some (.slice A18 (L 18).length c18) := (by rw [cell_of_row _ _ _ _ _ _ hb4]; simpa using HM.out.2.2.2.1); have hfx := row_frozen hb4 18; have HA := Lib.hid (And.intro a1 (And.intro a2 (And.intro a3 a4))); clear a1 a2 a3 a4 hb4)
      refine bodyPost_end (results_none rfl _ _ _) rfl ⟨⟨_, rfl⟩, ?_⟩
      obtain ⟨m1, m2, m3, m4, m5⟩ := HM.out
      obtain ⟨p1, p2, p3, p4, p5, p6, p7, p8, p9, p10⟩ := HX.out
      obtain ⟨z1, z2⟩ := m1.app (i := 18) rfl m4 HA.out.1 HA.out.2.2.1 HA.out.2.2.2
      have ha3 : Aside W3 (w4.setCell ⟨g, 18, none⟩ (.slice A4 n4 c4)) := m2.trans z2
      have ha : Aside w (w4.setCell ⟨g, 18, none⟩ (.slice A4 n4 c4)) := HS.out.aside.trans ha3
      have hwide : ∀ k, KUpto K ts os.length k → K k ∨ D k := fun k hk => by
        rcases hk with hk | ⟨t, ht, hk⟩
        · exact .inl hk
        · exact .inr (HV.out.2.2.1 t (List.mem_of_mem_take ht) k hk)
      refine ⟨_, _, z1, fun n h2 h3 h5 h6 h17 h18 => by rw [put_other _ _ _ h18, put_other _ _ _ h17]; exact p2 n h2 h3 h5 h6, ?_, ?_, ?_, ?_, ?_, ?_, ha, HA.out.2.1.setCell p1.ge _⟩
      · rw [put_other _ _ _ (by decide), put_other _ _ _ (by decide)]; exact p3
      · rw [put_other _ _ _ (by decide), put_other _ _ _ (by decide)]; exact p4
      · rw [put_other _ _ _ (by decide), put_same, List.length_append]; rfl
      · rw [put_other _ _ _ (by decide), put_other _ _ _ (by decide), put_other _ _ _ (by decide), put_other _ _ _ (by decide)]
        exact (p5.aside ha3).wider hwide
      · rw [put_other _ _ _ (by decide), put_other _ _ _ (by decide), put_other _ _ _ (by decide), put_other _ _ _ (by decide)]
        exact (p6.aside ha3).wider hwide
      · rw [put_other _ _ _ (show 17 ≠ 18 by decide), put_same, put_same]
        refine ((PairsO.aside HO.out ha).snoc ((HV.out.aside ha).row.lower hlo) ((HWAS.out.aside ha3).lower (Nat.le_trans hbase (Nat.le_refl _))) HSM.out (fun k hk hk2 => HK.out k hk2 (HV.out.2.2.2 k hk))).wider fun k hk => ?_
        rcases hk with hk | hk
        · exact .inl hk
        · exact .inr (HV.out.2.2.2 k hk)
end Go.Proofs.YthnhfddlmkhgkaaGreatDoor

set_option linter.unusedVariables false
namespace Go.Proofs.YthnhfddlmkhgkaaGreatDoor
open Go.RowKit Go.Proofs.YthnhfddlmkhgkaaGreatDoorW.PrintWords

set_option maxHeartbeats 8000000 in
set_option maxRecDepth 100000 in
theorem untouched_any (g base ps : Nat) (cs : List Value) (L : Nat → List Value) (K : Nat → Prop) (w : World) (h : BkR w base g ps cs L) (hu : PairsU w base K (L 2) (L 3)) (hb : PairsB w base K (L 5) (L 6)) (ho : PairsO w base K (L 17) (L 18)) (hn2 : (L 2).length ≤ 10000000) (hn5 : (L 5).length ≤ 10000000) (hn17 : (L 17).length ≤ 10000000) :
    Calls Tryz.prog 63 #[.pointer (some ⟨g, 0, none⟩)] w (BRet w (.bool true)) := by
  obtain ⟨A2, c2, _, hx2, hr2⟩ := h.get 2 rfl
  obtain ⟨A3, c3, _, hx3, hr3⟩ := h.get 3 rfl
  obtain ⟨A5, c5, _, hx5, hr5⟩ := h.get 5 rfl
  obtain ⟨A6, c6, _, hx6, hr6⟩ := h.get 6 rfl
  obtain ⟨A17, c17, _, hx17, hr17⟩ := h.get 17 rfl
  obtain ⟨A18, c18, _, hx18, hr18⟩ := h.get 18 rfl
  have hx8 := h.cell (h.nils 8 (by omega) (by omega))
  have hx11 := h.cell (h.nils 11 (by omega) (by omega))
  have hx14 := h.cell (h.nils 14 (by omega) (by omega))
  have HR2 := Lib.hid hr2.o
  have HR3 := Lib.hid hr3.o
  have HR5 := Lib.hid hr5.o
  have HR6 := Lib.hid hr6.o
  have HR17 := Lib.hid hr17.o
  have HR18 := Lib.hid hr18.o
  have HU := Lib.hid hu
  have HBB := Lib.hid hb
  have HO := Lib.hid ho
  have HC : Hid (∀ wr, Below w.heap.size w wr → wr.cell? ⟨g, 2, none⟩ = some (.slice A2 (L 2).length c2) ∧ wr.cell? ⟨g, 3, none⟩ = some (.slice A3 (L 3).length c3) ∧ wr.cell? ⟨g, 5, none⟩ = some (.slice A5 (L 5).length c5) ∧ wr.cell? ⟨g, 6, none⟩ = some (.slice A6 (L 6).length c6) ∧ wr.cell? ⟨g, 8, none⟩ = some (.slice none 0 0) ∧ wr.cell? ⟨g, 11, none⟩ = some (.slice none 0 0) ∧ wr.cell? ⟨g, 14, none⟩ = some (.slice none 0 0) ∧ wr.cell? ⟨g, 17, none⟩ = some (.slice A17 (L 17).length c17) ∧ wr.cell? ⟨g, 18, none⟩ = some (.slice A18 (L 18).length c18)) :=
    Lib.hid (fun wr hb => ⟨pw_cell_below hb hx2, pw_cell_below hb hx3, pw_cell_below hb hx5, pw_cell_below hb hx6, pw_cell_below hb hx8, pw_cell_below hb hx11, pw_cell_below hb hx14, pw_cell_below hb hx17, pw_cell_below hb hx18⟩)
  have HL3 := Lib.hid hu.len
  have HL6 := Lib.hid hb.len
  have HL18 := Lib.hid ho.len
  clear h hr2 hr3 hr5 hr6 hr17 hr18 hu hb ho hx3 hx5 hx6 hx8 hx11 hx14 hx17 hx18
  go_enter Tryz.func63, Tryz.ntmps63
  go_wp2
  go_loopw [3] (fun v3 wr => ∃ (i : Nat), v3 = .int .i64 (i : Int) ∧ i ≤ (L 2).length ∧ Below w.heap.size w wr) (fun v3 _ => (L 2).length - (intOf v3).toNat)
  case atStart => exact ⟨0, rfl, Nat.zero_le _, Below.refl _ _⟩
  case round =>
    obtain ⟨i, rfl, hi, HB⟩ := hrel
    clear hx2
    obtain ⟨f2, f3, f5, f6, f8, f11, f14, f17, f18⟩ := HC.out wr HB
    by_cases hlt : i < (L 2).length
    · have hlt3 : i < (L 3).length := by rw [HL3.out]; exact hlt
      obtain ⟨b2, hA2, _, _, hc2, _⟩ := (HR2.out.below HB).at_ i hlt
      obtain ⟨b3, hA3, _, _, hc3, _⟩ := (HR3.out.below HB).at_ i hlt3
      obtain ⟨v, hv⟩ : ∃ v, v = (L 2)[i]'hlt := ⟨_, rfl⟩
      obtain ⟨u, hu⟩ : ∃ u, u = (L 3)[i]'hlt3 := ⟨_, rfl⟩
      obtain ⟨l, q1, q2, q3⟩ := HU.out.at_ i v u (by rw [hv]; exact List.getElem?_eq_getElem hlt) (by rw [hu]; exact List.getElem?_eq_getElem hlt3)
      obtain ⟨B1, k1, e1, _, r1⟩ := q1.reads
      obtain ⟨B2, k2, e2, _, r2⟩ := q2.reads
      rw [← hv, e1] at hc2
      rw [← hu, e2] at hc3
      have HS : Hid (Calls Tryz.prog 35 #[.slice B1 l.length k1, .slice B2 l.length k2] wr.drew (BRet wr.drew (.bool true))) := Lib.hid (by
        have h := sameBytes_any B1 B2 l l k1 k2 wr.drew (r1.below HB.drew) (r2.below HB.drew) (by omega)
        rw [decide_eq_true rfl] at h
        exact h)
      clear hv hu q1 q2 e1 e2 r1 r2 f5 f6 f8 f11 f14 f17 f18
      subst hA2 hA3
      have q4 : (0 : Int) ≤ (i : Int) ∧ (i : Int) < ((L 2).length : Int) := ⟨by omega, by omega⟩
      have q5 : (0 : Int) ≤ (i : Int) ∧ (i : Int) < ((L 3).length : Int) := ⟨by omega, by omega⟩
      have f2d : wr.drew.cell? ⟨g, 2, none⟩ = some (.slice (some ⟨b2, 0, none⟩) (L 2).length c2) := f2
      have f3d : wr.drew.cell? ⟨g, 3, none⟩ = some (.slice (some ⟨b3, 0, none⟩) (L 3).length c3) := f3
      have hc2d : wr.drew.cell? ⟨b2, i, none⟩ = some (.slice B1 l.length k1) := hc2
      have hc3d : wr.drew.cell? ⟨b3, i, none⟩ = some (.slice B2 l.length k2) := hc3
      have HBd := Lib.hid HB.drew
      go_wp2
      refine region_mix [] [0, 1, 2, 3, 4, 5, 6, 7, 8, 9, 10, 11, 12, 13] [14, 15] mixed (by kernel_rfl) (fun _ _ _ _ _ h => h) ?_
      simp only [pick, List.getElem?_cons_zero, List.getElem?_cons_succ]
      refine wpPre_nil ?_
      iterate 14 still_step
      refine wpStill_nil ?_
      go_wp2_with (go_at_call 35; refine HS.out.mono ?_; rintro e w1 ⟨rfl, hb1⟩)
      go_roundw
      case rel => exact ⟨i + 1, by go_num, by omega, HBd.out.trans (hb1.mono HBd.out.size)⟩
      case measure => simp [intOf]; omega
    · obtain ⟨Wa, rfl⟩ : ∃ Wa, Wa = wr := ⟨_, rfl⟩
      have HBa := Lib.hid HB
      clear HB f3 f6 f8 f11 f14 f17 f18
      go_wp2
      go_loopw [5] (fun v5 wr => ∃ (i : Nat), v5 = .int .i64 (i : Int) ∧ i ≤ (L 5).length ∧ Below w.heap.size w wr) (fun v5 _ => (L 5).length - (intOf v5).toNat)
      case atStart => exact ⟨0, rfl, Nat.zero_le _, HBa.out⟩
      case round =>
        obtain ⟨i, rfl, hi, HB⟩ := hrel
        clear f2 f5
        obtain ⟨f2, f3, f5, f6, f8, f11, f14, f17, f18⟩ := HC.out wr HB
        by_cases hlt : i < (L 5).length
        · have hlt3 : i < (L 6).length := by rw [HL6.out]; exact hlt
          obtain ⟨b2, hA2, _, _, hc2, _⟩ := (HR5.out.below HB).at_ i hlt
          obtain ⟨b3, hA3, _, _, hc3, _⟩ := (HR6.out.below HB).at_ i hlt3
          obtain ⟨v, hv⟩ : ∃ v, v = (L 5)[i]'hlt := ⟨_, rfl⟩
          obtain ⟨u, hu⟩ : ∃ u, u = (L 6)[i]'hlt3 := ⟨_, rfl⟩
          obtain ⟨l, q1, q2, q3⟩ := HBB.out.at_ i v u (by rw [hv]; exact List.getElem?_eq_getElem hlt) (by rw [hu]; exact List.getElem?_eq_getElem hlt3)
          obtain ⟨B1, k1, e1, _, r1⟩ := q1.reads
          obtain ⟨B2, k2, e2, _, r2⟩ := q2.reads
          rw [← hv, e1] at hc2
          rw [← hu, e2] at hc3
          have HS : Hid (Calls Tryz.prog 106 #[.slice B1 l.length k1, .slice B2 l.length k2] wr.drew (BRet wr.drew (.bool true))) := Lib.hid (by
            have h := keptSameBools_any B1 B2 l l k1 k2 wr.drew (r1.below HB.drew) (r2.below HB.drew) (by omega)
            rw [decide_eq_true rfl] at h
            exact h)
          clear hv hu q1 q2 e1 e2 r1 r2 f2 f3 f8 f11 f14 f17 f18
          subst hA2 hA3
          have q4 : (0 : Int) ≤ (i : Int) ∧ (i : Int) < ((L 5).length : Int) := ⟨by omega, by omega⟩
          have q5 : (0 : Int) ≤ (i : Int) ∧ (i : Int) < ((L 6).length : Int) := ⟨by omega, by omega⟩
          have f2d : wr.drew.cell? ⟨g, 5, none⟩ = some (.slice (some ⟨b2, 0, none⟩) (L 5).length c5) := f5
          have f3d : wr.drew.cell? ⟨g, 6, none⟩ = some (.slice (some ⟨b3, 0, none⟩) (L 6).length c6) := f6
          have hc2d : wr.drew.cell? ⟨b2, i, none⟩ = some (.slice B1 l.length k1) := hc2
          have hc3d : wr.drew.cell? ⟨b3, i, none⟩ = some (.slice B2 l.length k2) := hc3
          have HBd := Lib.hid HB.drew
          go_wp2
          refine region_mix [] [0, 1, 2, 3, 4, 5, 6, 7, 8, 9, 10, 11, 12, 13] [14, 15] mixed (by kernel_rfl) (fun _ _ _ _ _ h => h) ?_
          simp only [pick, List.getElem?_cons_zero, List.getElem?_cons_succ]
          refine wpPre_nil ?_
          iterate 14 still_step
          refine wpStill_nil ?_
          go_wp2_with (go_at_call 106; refine HS.out.mono ?_; rintro e w1 ⟨rfl, hb1⟩)
          go_roundw
          case rel => exact ⟨i + 1, by go_num, by omega, HBd.out.trans (hb1.mono HBd.out.size)⟩
          case measure => simp [intOf]; omega
        · obtain ⟨Wb, rfl⟩ : ∃ Wb, Wb = wr := ⟨_, rfl⟩
          have HBb := Lib.hid HB
          clear HB f2 f3 f6 f18
          go_wp2
          refine wp_loop_once ?_
          go_wp2
          refine wp_loop_once ?_
          go_wp2
          refine wp_loop_once ?_
          go_wp2
          go_loopw [14] (fun v14 wr => ∃ (i : Nat), v14 = .int .i64 (i : Int) ∧ i ≤ (L 17).length ∧ Below w.heap.size w wr) (fun v14 _ => (L 17).length - (intOf v14).toNat)
          case atStart => exact ⟨0, rfl, Nat.zero_le _, HBb.out⟩
          case round =>
            obtain ⟨i, rfl, hi, HB⟩ := hrel
            clear f5 f8 f11 f14 f17
            obtain ⟨f2, f3, f5, f6, f8, f11, f14, f17, f18⟩ := HC.out wr HB
            clear f2 f3 f5 f6 f8 f11 f14
            by_cases hlt : i < (L 17).length
            · have hlt3 : i < (L 18).length := by rw [HL18.out]; exact hlt
              obtain ⟨b2, hA2, _, _, hc2, _⟩ := (HR17.out.below HB).at_ i hlt
              obtain ⟨b3, hA3, _, _, hc3, _⟩ := (HR18.out.below HB).at_ i hlt3
              obtain ⟨v, hv⟩ : ∃ v, v = (L 17)[i]'hlt := ⟨_, rfl⟩
              obtain ⟨u, hu⟩ : ∃ u, u = (L 18)[i]'hlt3 := ⟨_, rfl⟩
              obtain ⟨l, q1, q2, q3⟩ := HO.out.at_ i v u (by rw [hv]; exact List.getElem?_eq_getElem hlt) (by rw [hu]; exact List.getElem?_eq_getElem hlt3)
              obtain ⟨B1, k1, e1, _, r1⟩ := q1.reads
              obtain ⟨B2, k2, e2, _, r2⟩ := q2.reads
              rw [← hv, e1] at hc2
              rw [← hu, e2] at hc3
              have HRA := Lib.hid r1
              have HRB := Lib.hid r2
              have HSM := Lib.hid q3
              have hll : (l.length : Int) ≤ 2000 := by have := q3.1; omega
              have HK : Hid (∀ wr, Below w.heap.size w wr → wr.cell? ⟨g, 17, none⟩ = some (.slice A17 (L 17).length c17) ∧ wr.cell? ⟨g, 18, none⟩ = some (.slice A18 (L 18).length c18) ∧ wr.cell? ⟨b2, i, none⟩ = some (.slice B1 l.length k1) ∧ wr.cell? ⟨b3, i, none⟩ = some (.slice B2 l.length k2)) := Lib.hid (fun wr hb => by
                obtain ⟨c2', hA2', _, _, hc2', _⟩ := (HR17.out.below hb).at_ i hlt
                obtain ⟨c3', hA3', _, _, hc3', _⟩ := (HR18.out.below hb).at_ i hlt3
                rw [hA2] at hA2'
                rw [hA3] at hA3'
                injection hA2' with z2
                injection z2 with z2 _ _
                injection hA3' with z3
                injection z3 with z3 _ _
                subst z2 z3
                have hf := HC.out wr hb
                exact ⟨hf.2.2.2.2.2.2.2.1, hf.2.2.2.2.2.2.2.2, by rw [hc2', ← hv, e1], by rw [hc3', ← hu, e2]⟩)
              clear hv hu q1 q2 q3 e1 e2 r1 r2 f18 hc3
              subst hA2 hA3
              have q4 : (0 : Int) ≤ (i : Int) ∧ (i : Int) < ((L 17).length : Int) := ⟨by omega, by omega⟩
              have q5 : (0 : Int) ≤ (i : Int) ∧ (i : Int) < ((L 18).length : Int) := ⟨by omega, by omega⟩
              obtain ⟨Wc, rfl⟩ : ∃ Wc, Wc = wr := ⟨_, rfl⟩
              have HBc := Lib.hid HB
              clear HB
              go_wp2
              go_loopw [15] (fun v15 wr => ∃ (j : Nat), v15 = .int .i64 (j : Int) ∧ j ≤ l.length ∧ Below w.heap.size w wr) (fun v15 _ => l.length - (intOf v15).toNat)
              case atStart => exact ⟨0, rfl, Nat.zero_le _, HBc.out⟩
              case round =>
                obtain ⟨j, rfl, hj, HB⟩ := hrel
                clear f17 hc2
                obtain ⟨f17, f18, hc2, hc3⟩ := HK.out wr HB
                by_cases hltj : j < l.length
                · obtain ⟨ad1, s1, s2, s3, hAd1, hO1, hC1⟩ := (HRA.out.below HB).at_ j hltj
                  obtain ⟨ad2, t1, t2, t3, hAd2, hO2, hC2⟩ := (HRB.out.below HB).at_ j hltj
                  obtain ⟨o, hoo⟩ : ∃ o, o = l[j]'hltj := ⟨_, rfl⟩
                  rw [← hoo] at hO1 hC1 hO2 hC2
                  have hbo := HSM.out.2 o (by rw [hoo]; exact List.getElem_mem _)
                  have HS : Hid (Calls Tryz.prog 110 #[.agg (opCells o s1 s2 s3).toArray, .agg (opCells o t1 t2 t3).toArray] wr.drew (BRet wr.drew (.bool true))) := Lib.hid (by
                    have h := keptSameOp_any o o s1 s2 s3 t1 t2 t3 wr.drew hO1 hO2 (by omega) (by omega) (by omega)
                    rw [decide_eq_true rfl] at h
                    exact h)
                  have HC1 : Hid (∀ i v, (opCells o s1 s2 s3)[i]? = some v → wr.drew.cell? ((ad1.add (j * 16)).add i) = some v) := Lib.hid hC1
                  have HC2 : Hid (∀ i v, (opCells o t1 t2 t3)[i]? = some v → wr.drew.cell? ((ad2.add (j * 16)).add i) = some v) := Lib.hid hC2
                  clear hoo hO1 hO2 hC1 hC2 hbo
                  subst hAd1 hAd2
                  have q6 : (0 : Int) ≤ (j : Int) ∧ (j : Int) < (l.length : Int) := ⟨by omega, by omega⟩
                  have f2d : wr.drew.cell? ⟨g, 17, none⟩ = some (.slice (some ⟨b2, 0, none⟩) (L 17).length c17) := f17
                  have f3d : wr.drew.cell? ⟨g, 18, none⟩ = some (.slice (some ⟨b3, 0, none⟩) (L 18).length c18) := f18
                  have hc2d : wr.drew.cell? ⟨b2, i, none⟩ = some (.slice (some ad1) l.length k1) := hc2
                  have hc3d : wr.drew.cell? ⟨b3, i, none⟩ = some (.slice (some ad2) l.length k2) := hc3
                  have HBd := Lib.hid HB.drew
                  go_wp2
                  refine region_mix [] [0, 1, 2, 3, 4, 5, 6, 7, 8, 9, 10, 11, 12, 13, 14, 15, 16, 17, 18, 19] [20, 21] mixed (by kernel_rfl) (fun _ _ _ _ _ h => h) ?_
                  simp only [pick, List.getElem?_cons_zero, List.getElem?_cons_succ]
                  refine wpPre_nil ?_
                  iterate 9 still_step
                  refine still_load_any rfl 80 _ rfl (ad1.add (j * 16)) rfl _ _ HC1.out Tryz.underlying80 rfl (by kernel_rfl) ?_
                  iterate 9 still_step
                  refine still_load_any rfl 80 _ rfl (ad2.add (j * 16)) rfl _ _ HC2.out Tryz.underlying80 rfl (by kernel_rfl) ?_
                  refine wpStill_nil ?_
                  go_wp2_with (go_at_call 110; refine HS.out.mono ?_; rintro e w1 ⟨rfl, hb1⟩)
                  go_roundw
                  case rel => exact ⟨j + 1, by go_num, by omega, HBd.out.trans (hb1.mono HBd.out.size)⟩
                  case measure => simp [intOf]; omega
                · go_wp2
                  go_roundw
                  case rel => exact ⟨i + 1, by go_num, by omega, HB⟩
                  case measure => simp [intOf]; omega
            · go_wp2
              go_ret
              exact ⟨rfl, HB⟩
end Go.Proofs.YthnhfddlmkhgkaaGreatDoor

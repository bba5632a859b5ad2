/- Walks: what some functions of the play package and its laws compute, as contracts. -/
import Derived.Test.YthnhfddlmkhgkaaGreatDoorZCallAll
import Derived.Deep.RegionHeld3
set_option linter.unusedVariables false
namespace Go.Proofs.YthnhfddlmkhgkaaGreatDoor
open Go.RowKit Go.Proofs.YthnhfddlmkhgkaaGreatDoorW.PrintWords

theorem op_one (o : Sp.Op) {v1 v2 v3 : Value} (h1 : v1.oneCell' = true) (h2 : v2.oneCell' = true) (h3 : v3.oneCell' = true) : ((opCells o v1 v2 v3).toArray.all (·.oneCell')) = true := by
  unfold opCells
  simp only [List.all_toArray, List.all_cons, List.all_nil, h1, h2, h3, Bool.and_true]
  rfl
/-- a zero step's cells -/
def ZeroOp (w : World) (g : Nat) : Prop := w.heap[g]? = some (.cells (opCells {} (.slice none 0 0) (.slice none 0 0) (.slice none 0 0)).toArray 80 (0, 0))
theorem ZeroOp.below {w w1 : World} {g : Nat} (h : ZeroOp w g) (hb : Below w.heap.size w w1) : ZeroOp w1 g := (hb.block g (row_lt h)).trans h
theorem ZeroOp.far {w : World} {g : Nat} (h : ZeroOp w g) {p : Addr} (hp : g ≠ p.block) (u : Value) : ZeroOp (w.setCell p u) g := (Below.heap_setCell w p u g hp).trans h
/-- a step's three rows -/
def OpRows (w : World) (base : Nat) (o : Sp.Op) (v1 v2 v3 : Value) : Prop := OU w base v1 o.call.data ∧ OU w base v2 o.data ∧ OB w base v3 o.keep ∧ ∀ k, v1.ownBlock = some k → v2.ownBlock ≠ some k
theorem OpRows.step {w w1 : World} {base : Nat} {o : Sp.Op} {v1 v2 v3 : Value} (h : OpRows w base o v1 v2 v3) (hs : w.heap.size ≤ w1.heap.size) (hm : ∀ k, v1.ownBlock = some k ∨ v2.ownBlock = some k ∨ v3.ownBlock = some k → w1.heap[k]? = w.heap[k]?) : OpRows w1 base o v1 v2 v3 :=
  ⟨h.1.step hs fun k hk => hm k (.inl hk), h.2.1.step hs fun k hk => hm k (.inr (.inl hk)), h.2.2.1.step hs fun k hk => hm k (.inr (.inr hk)), h.2.2.2⟩
theorem OpRows.lt {w : World} {base : Nat} {o : Sp.Op} {v1 v2 v3 : Value} (h : OpRows w base o v1 v2 v3) : ∀ k, v1.ownBlock = some k ∨ v2.ownBlock = some k ∨ v3.ownBlock = some k → base ≤ k ∧ k < w.heap.size := by
  rintro k (hk | hk | hk)
  · exact h.1.lt k hk
  · exact h.2.1.lt k hk
  · exact h.2.2.1.lt k hk
theorem OpRows.below {w w1 : World} {base : Nat} {o : Sp.Op} {v1 v2 v3 : Value} (h : OpRows w base o v1 v2 v3) (hb : Below w.heap.size w w1) : OpRows w1 base o v1 v2 v3 :=
  h.step hb.size fun k hk => hb.block k (h.lt k hk).2
theorem OpRows.lower {w : World} {base base' : Nat} {o : Sp.Op} {v1 v2 v3 : Value} (h : OpRows w base o v1 v2 v3) (hb : base' ≤ base) : OpRows w base' o v1 v2 v3 :=
  ⟨h.1.lower hb, h.2.1.lower hb, h.2.2.1.lower hb, h.2.2.2⟩
theorem OpRows.zero (w : World) (base : Nat) (o : Sp.Op) (h : o.call.data = [] ∧ o.data = [] ∧ o.keep = []) : OpRows w base o (.slice none 0 0) (.slice none 0 0) (.slice none 0 0) := by
  refine ⟨?_, ?_, ?_, fun k hk => by simp [Value.ownBlock] at hk⟩
  · rw [OU, h.1]; exact ORow.nil _ _ _
  · rw [OU, h.2.1]; exact ORow.nil _ _ _
  · rw [OB, h.2.2]; exact ORow.nil _ _ _
/-- a step's cells in a block of its own, its rows made later, from base on -/
def OpAt (w : World) (base g : Nat) (o : Sp.Op) : Prop := ∃ v1 v2 v3, w.heap[g]? = some (.cells (opCells o v1 v2 v3).toArray 80 (0, 0)) ∧ OpRows w base o v1 v2 v3 ∧ ∀ k, v1.ownBlock = some k ∨ v2.ownBlock = some k ∨ v3.ownBlock = some k → g < k
theorem OpAt.step {w w1 : World} {base g : Nat} {o : Sp.Op} (h : OpAt w base g o) (hs : w.heap.size ≤ w1.heap.size) (hm : ∀ k, g ≤ k → k < w.heap.size → w1.heap[k]? = w.heap[k]?) : OpAt w1 base g o := by
  obtain ⟨v1, v2, v3, h1, h2, h3⟩ := h
  exact ⟨v1, v2, v3, (hm g (Nat.le_refl _) (row_lt h1)).trans h1, h2.step hs (fun k hk => hm k (by have := h3 k hk; omega) (h2.lt k hk).2), h3⟩
theorem OpAt.below {w w1 : World} {base g : Nat} {o : Sp.Op} (h : OpAt w base g o) (hb : Below w.heap.size w w1) : OpAt w1 base g o :=
  h.step hb.size fun k _ hk => hb.block k hk
theorem OpAt.num {w : World} {base g : Nat} {o : Sp.Op} (h : OpAt w base g o) : ∀ k, 1 ≤ k → k ≤ 4 → w.cell? ⟨g, k, none⟩ = some (.int .i64 (o.getN k)) ∧ w.frozen? ⟨g, k, none⟩ = false := by
  obtain ⟨v1, v2, v3, h1, h2, h3⟩ := h
  intro k hk1 hk4
  refine ⟨?_, row_frozen h1 k⟩
  rw [cell_of_row _ _ _ _ _ _ h1]
  have : k = 1 ∨ k = 2 ∨ k = 3 ∨ k = 4 := by omega
  rcases this with rfl | rfl | rfl | rfl <;> rfl
theorem OpAt.putN {w : World} {base g : Nat} {o : Sp.Op} (h : OpAt w base g o) (k : Nat) (x : Int) (hk1 : 1 ≤ k) (hk4 : k ≤ 4) : OpAt (w.setCell ⟨g, k, none⟩ (.int .i64 x)) base g (o.setN k x) := by
  obtain ⟨v1, v2, v3, h1, h2, h3⟩ := h
  have key : ∀ o' : Sp.Op, o'.call = o.call → o'.data = o.data → o'.keep = o.keep → (opCells o v1 v2 v3).toArray.setIfInBounds k (.int .i64 x) = (opCells o' v1 v2 v3).toArray → OpAt (w.setCell ⟨g, k, none⟩ (.int .i64 x)) base g o' := by
    intro o' e1 e2 e3 e4
    have h2' : OpRows w base o' v1 v2 v3 := by unfold OpRows; rw [e1, e2, e3]; exact h2
    exact ⟨v1, v2, v3, by rw [row_set h1, e4], h2'.step (by simp [World.setCell]) (fun j hj => Below.heap_setCell w ⟨g, k, none⟩ _ j (by have := h3 j hj; simp only; omega)), h3⟩
  have : k = 1 ∨ k = 2 ∨ k = 3 ∨ k = 4 := by omega
  rcases this with rfl | rfl | rfl | rfl <;> exact key _ rfl rfl rfl rfl

set_option maxRecDepth 100000 in
theorem tail_slice (A : Option Addr) (n cap k : Nat) (h1 : k ≤ n) (h2 : n ≤ cap) (h3 : n ≤ 1099511627776) (w : World) : (Instr.sliceAt 61 (.slice A n cap) (some (.int .i64 (k : Int))) none none).run Tryz.prog w = .ok (.slice (if cap = k then A else A.map (·.add k)) (n - k) (cap - k)) w := by
  have hu := Tryz.underlying61
  have he : Tryz.prog.elem 61 = 9 := by kernel_rfl
  have hi : (Tryz.prog.info? 9).map (·.size) = some 1 := by kernel_rfl
  have q1 : (0 : Int) ≤ (k : Int) := by omega
  have q2 : (k : Int) ≤ (n : Int) := by omega
  go_simp
set_option maxRecDepth 100000 in
theorem tail_slice2 (A : Option Addr) (n cap k : Nat) (h1 : k ≤ n) (h2 : n ≤ cap) (h3 : n ≤ 1099511627776) (w : World) : (Instr.slice 61 (.slice A n cap) (some (.int .i64 (k : Int))) none none).run Tryz.prog w = .ok (.slice (if cap = k then A else A.map (·.add k)) (n - k) (cap - k)) w := by
  have h := tail_slice A n cap k h1 h2 h3 w
  rwa [run_sliceAt_slice _ _ _ _ _ _ Tryz.underlying61] at h
theorem tail_read {w : World} {A : Option Addr} {l : List Sp.Bs} (h : ReadS w A l) (k : Nat) (hk : k ≤ l.length) {cap : Nat} (hc : l.length ≤ cap) : ReadS w (if cap = k then A else A.map (·.add k)) (l.drop k) := by
  have h1 := Kd.C_drop (k := Kd.string) (m := k) (c := cap) (xs := l.map str) (A := A) (w := w) (by rw [List.length_map]; exact h) (by rw [List.length_map]; exact hk) (by rw [List.length_map]; exact hc)
  rw [← List.map_drop, List.length_map] at h1
  have : k * Kd.string.sz = k := Nat.mul_one k
  rw [this] at h1
  exact h1
def StepPost (w : World) (r : Sp.Op × Nat) (e : Ending) (w' : World) : Prop :=
  ∃ v1 v2 v3, e = .returned (.tuple #[.agg (opCells r.1 v1 v2 v3).toArray, .int .i64 (r.2 : Int)]) ∧ OpRows w' w.heap.size r.1 v1 v2 v3 ∧ Below w.heap.size w w'
/-- a read slice of strings, its head struck -/
def Tail (w : World) (v : Value) (l : List Sp.Bs) : Prop := ∃ A cap, v = .slice A l.length cap ∧ ReadS w A l ∧ l.length ≤ cap

theorem shaped_ok {l : List Sp.Bs} {op : Nat} (h : Sp.shaped l = (op, 0)) : 0 < op ∧ op < 11 ∧ l.length = 1 + lenCall op := by
  cases l with
  | nil => simp [Sp.shaped] at h
  | cons n r =>
    simp only [Sp.shaped] at h
    split at h
    · simp at h
    · rename_i h0
      split at h
      · simp at h
      · rename_i h1
        injection h with h2 _
        have hlt := (Sp.find_lt (rows := Sp.callRows) (l := n) h0).1
        have h11 : Sp.callRows.length = 11 := rfl
        rw [← h2]
        refine ⟨by omega, by omega, ?_⟩
        simp only [List.length_cons, lenCall]
        omega
theorem no_call : ∀ k, k < 15 → k ≠ 1 → (99 : UInt8) ∉ (Sp.stepRows.getD k ([], [])).2 := by decide
def setFrom : Array Value → Nat → List Value → Array Value
  | cs, _, [] => cs
  | cs, o, v :: r => setFrom (cs.setIfInBounds o v) (o + 1) r
theorem row_setCells {g : Nat} {t : TypeId} {fr : Nat × Nat} : ∀ (vs : List Value) (o : Nat) (w : World) (cs : Array Value), w.heap[g]? = some (.cells cs t fr) → (w.setCells g o vs).heap[g]? = some (.cells (setFrom cs o vs) t fr)
  | [], _, _, _, h => h
  | v :: r, o, w, cs, h => by
    rw [World.setCells, setFrom]
    exact row_setCells r (o + 1) _ _ (row_set h v)
theorem other_setCells {g k : Nat} (hk : k ≠ g) : ∀ (vs : List Value) (o : Nat) (w : World), (w.setCells g o vs).heap[k]? = w.heap[k]?
  | [], _, _ => rfl
  | v :: r, o, w => by
    rw [World.setCells, other_setCells hk r]
    exact Below.heap_setCell w ⟨g, o, none⟩ v k hk
theorem size_setCells {g : Nat} : ∀ (vs : List Value) (o : Nat) (w : World), (w.setCells g o vs).heap.size = w.heap.size
  | [], _, _ => rfl
  | v :: r, o, w => by
    rw [World.setCells, size_setCells r]
    simp [World.setCell]
theorem below_setCells {g B : Nat} (hg : B ≤ g) : ∀ (vs : List Value) (o : Nat) (w0 w : World), Below B w0 w → Below B w0 (w.setCells g o vs)
  | [], _, _, _, h => h
  | v :: r, o, w0, w, h => by
    rw [World.setCells]
    exact below_setCells hg r (o + 1) w0 _ (h.setCell (p := ⟨g, o, none⟩) hg v)
theorem OpAt.there {w : World} {base g : Nat} {o : Sp.Op} (h : OpAt w base g o) (k n : Nat) (hk : k + n ≤ 16) : w.there g k n := by
  obtain ⟨v1, v2, v3, h1, h2, h3⟩ := h
  intro j hj
  refine ⟨?_, row_frozen h1 _⟩
  rw [cell_of_row _ _ _ _ _ _ h1]
  have : k + j < (opCells o v1 v2 v3).toArray.size := by simp [opCells]; omega
  rw [Array.getElem?_eq_getElem this]
  rfl
theorem OpAt.putD {w1 w2 : World} {base g : Nat} {o : Sp.Op} (h : OpAt w1 base g o) (hb : Below w1.heap.size w1 w2) (hbase : base ≤ w1.heap.size) {v : Value} {d : Sp.Bs} (hv : OU w2 w1.heap.size v d) : OpAt (w2.setCell ⟨g, 14, none⟩ v) base g { o with data := d } := by
  have hg : g < w1.heap.size := by obtain ⟨_, _, _, h1, _⟩ := h; exact row_lt h1
  obtain ⟨v1, v2, v3, h1, h2, h3⟩ := h.below hb
  have h4 : ∀ k, v1.ownBlock = some k ∨ v3.ownBlock = some k ∨ v.ownBlock = some k → k ≠ g := by
    rintro k (hk | hk | hk)
    · have := h3 k (.inl hk); omega
    · have := h3 k (.inr (.inr hk)); omega
    · have := (hv.lt k hk).1; omega
  have hlt1 : ∀ k, v1.ownBlock = some k → k < w1.heap.size := by
    intro k hk
    obtain ⟨u1, u2, u3, e1, e2, e3⟩ := h
    have hh := (hb.block g (row_lt e1)).trans e1
    rw [h1] at hh
    injection hh with hh
    injection hh with hh _ _
    have : v1 = u1 := by
      have := congrArg (fun a : Array Value => a[13]?) hh
      simpa [opCells] using this
    rw [this] at hk
    exact (e2.1.lt k hk).2
  refine ⟨v1, v, v3, (row_set h1 _).trans rfl, ⟨h2.1.far (p := ⟨g, 14, none⟩) (fun k hk => h4 k (.inl hk)) _, (hv.lower hbase).far (p := ⟨g, 14, none⟩) (fun k hk => h4 k (.inr (.inr hk))) _, h2.2.2.1.far (p := ⟨g, 14, none⟩) (fun k hk => h4 k (.inr (.inl hk))) _, fun k hk hk2 => ?_⟩, ?_⟩
  · have := hlt1 k hk; have := (hv.lt k hk2).1; omega
  · rintro k (hk | hk | hk)
    · exact h3 k (.inl hk)
    · have := (hv.lt k hk).1; omega
    · exact h3 k (.inr (.inr hk))
theorem OpAt.putK {w1 w2 : World} {base g : Nat} {o : Sp.Op} (h : OpAt w1 base g o) (hb : Below w1.heap.size w1 w2) (hbase : base ≤ w1.heap.size) {v : Value} {d : List Bool} (hv : OB w2 w1.heap.size v d) : OpAt (w2.setCell ⟨g, 15, none⟩ v) base g { o with keep := d } := by
  have hg : g < w1.heap.size := by obtain ⟨_, _, _, h1, _⟩ := h; exact row_lt h1
  obtain ⟨v1, v2, v3, h1, h2, h3⟩ := h.below hb
  have h4 : ∀ k, v1.ownBlock = some k ∨ v2.ownBlock = some k ∨ v.ownBlock = some k → k ≠ g := by
    rintro k (hk | hk | hk)
    · have := h3 k (.inl hk); omega
    · have := h3 k (.inr (.inl hk)); omega
    · have := (hv.lt k hk).1; omega
  refine ⟨v1, v2, v, (row_set h1 _).trans rfl, ⟨h2.1.far (p := ⟨g, 15, none⟩) (fun k hk => h4 k (.inl hk)) _, h2.2.1.far (p := ⟨g, 15, none⟩) (fun k hk => h4 k (.inr (.inl hk))) _, (hv.lower hbase).far (p := ⟨g, 15, none⟩) (fun k hk => h4 k (.inr (.inr hk))) _, h2.2.2.2⟩, ?_⟩
  rintro k (hk | hk | hk)
  · exact h3 k (.inl hk)
  · exact h3 k (.inr (.inl hk))
  · have := (hv.lt k hk).1; omega
theorem setFrom_call (o : Sp.Op) (c : Sp.Call) (v v1 v2 v3 : Value) : setFrom (opCells o v1 v2 v3).toArray 5 (callCells c v) = (opCells { o with call := c } v v2 v3).toArray := by
  simp [setFrom, opCells, callCells]
theorem OpAt.putC {w1 w2 : World} {base g : Nat} {o : Sp.Op} (h : OpAt w1 base g o) (hb : Below w1.heap.size w1 w2) (hbase : base ≤ w1.heap.size) {v : Value} {c : Sp.Call} (hv : OU w2 w1.heap.size v c.data) : OpAt (w2.setCells g 5 (callCells c v)) base g { o with call := c } := by
  have hg : g < w1.heap.size := by obtain ⟨_, _, _, h1, _⟩ := h; exact row_lt h1
  obtain ⟨v1, v2, v3, h1, h2, h3⟩ := h.below hb
  have h4 : ∀ k, v3.ownBlock = some k ∨ v2.ownBlock = some k ∨ v.ownBlock = some k → k ≠ g := by
    rintro k (hk | hk | hk)
    · have := h3 k (.inr (.inr hk)); omega
    · have := h3 k (.inr (.inl hk)); omega
    · have := (hv.lt k hk).1; omega
  have hlt2 : ∀ k, v2.ownBlock = some k → k < w1.heap.size := by
    intro k hk
    obtain ⟨u1, u2, u3, e1, e2, e3⟩ := h
    have hh := (hb.block g (row_lt e1)).trans e1
    rw [h1] at hh
    injection hh with hh
    injection hh with hh _ _
    have : v2 = u2 := by
      have := congrArg (fun a : Array Value => a[14]?) hh
      simpa [opCells] using this
    rw [this] at hk
    exact (e2.2.1.lt k hk).2
  have hs : w2.heap.size ≤ (w2.setCells g 5 (callCells c v)).heap.size := by rw [size_setCells]; exact Nat.le_refl _
  refine ⟨v, v2, v3, by rw [row_setCells _ _ _ _ h1, setFrom_call], ⟨(hv.lower hbase).step hs (fun k hk => other_setCells (h4 k (.inr (.inr hk))) _ _ _), h2.2.1.step hs (fun k hk => other_setCells (h4 k (.inr (.inl hk))) _ _ _), h2.2.2.1.step hs (fun k hk => other_setCells (h4 k (.inl hk)) _ _ _), fun k hk hk2 => ?_⟩, ?_⟩
  · have := hlt2 k hk2; have := (hv.lt k hk).1; omega
  · rintro k (hk | hk | hk)
    · have := (hv.lt k hk).1; omega
    · exact h3 k (.inr (.inl hk))
    · exact h3 k (.inr (.inr hk))
theorem OpAt.cell {w : World} {base g : Nat} {o : Sp.Op} (h : OpAt w base g o) (k : Nat) (hk : k < 16) : ∃ u, w.cell? ⟨g, k, none⟩ = some u ∧ w.frozen? ⟨g, k, none⟩ = false := by
  have := h.there k 1 (by omega) 0 (by omega)
  obtain ⟨h1, h2⟩ := this
  obtain ⟨u, hu⟩ := Option.isSome_iff_exists.1 h1
  exact ⟨u, hu, h2⟩
def HexS (w : World) (d : Sp.Bs) (e : Ending) (w' : World) : Prop := ∃ A c, e = .returned (.tuple #[.slice A d.length c, .bool true]) ∧ OU w' w.heap.size (.slice A d.length c) d ∧ Below w.heap.size w w'
theorem hex_some {x d : Sp.Bs} (h : Sp.hex x = some d) (hx : x.length ≤ 1099511627776) (w : World) : Calls Tryz.prog 79 #[.string (str x)] w (HexS w d) := by
  refine (hex_any (str x) w (by rw [str_size]; exact hx)).mono ?_
  rintro e w1 (⟨v, d2, hd, rfl, hv, hb⟩ | ⟨hd, rfl, hb⟩)
  · rw [show bl (str x) = x from rfl, h] at hd
    injection hd with hd
    subst hd
    obtain ⟨A, c, rfl, h1, h2⟩ := hv.o.reads
    exact ⟨A, c, rfl, hv.o, hb⟩
  · rw [show bl (str x) = x from rfl, h] at hd; cases hd
theorem hex_none {x : Sp.Bs} (h : Sp.hex x = none) (hx : x.length ≤ 1099511627776) (w : World) : Calls Tryz.prog 79 #[.string (str x)] w (BRet w (.tuple #[.slice none 0 0, .bool false])) := by
  refine (hex_any (str x) w (by rw [str_size]; exact hx)).mono ?_
  rintro e w1 (⟨v, d2, hd, rfl, hv, hb⟩ | ⟨hd, rfl, hb⟩)
  · rw [show bl (str x) = x from rfl, h] at hd; cases hd
  · exact ⟨rfl, hb⟩
def FlagsS (w : World) (d : List Bool) (e : Ending) (w' : World) : Prop := ∃ A c, e = .returned (.tuple #[.slice A d.length c, .bool true]) ∧ OB w' w.heap.size (.slice A d.length c) d ∧ Below w.heap.size w w'
theorem flags_some {x : Sp.Bs} {d : List Bool} (h : Sp.flags x = some d) (hx : x.length ≤ 1099511627776) (w : World) : Calls Tryz.prog 80 #[.string (str x)] w (FlagsS w d) := by
  refine (flags_any (str x) w (by rw [str_size]; exact hx)).mono ?_
  rintro e w1 (⟨v, d2, hd, rfl, hv, hb⟩ | ⟨hd, rfl, hb⟩)
  · rw [show bl (str x) = x from rfl, h] at hd
    injection hd with hd
    subst hd
    obtain ⟨A, c, rfl, h1, h2⟩ := hv.o.reads
    exact ⟨A, c, rfl, hv.o, hb⟩
  · rw [show bl (str x) = x from rfl, h] at hd; cases hd
theorem flags_none {x : Sp.Bs} (h : Sp.flags x = none) (hx : x.length ≤ 1099511627776) (w : World) : Calls Tryz.prog 80 #[.string (str x)] w (BRet w (.tuple #[.slice none 0 0, .bool false])) := by
  refine (flags_any (str x) w (by rw [str_size]; exact hx)).mono ?_
  rintro e w1 (⟨v, d2, hd, rfl, hv, hb⟩ | ⟨hd, rfl, hb⟩)
  · rw [show bl (str x) = x from rfl, h] at hd; cases hd
  · exact ⟨rfl, hb⟩
theorem place_rng {c : UInt8} {k : Nat} (h : Sp.place c = some k) : 1 ≤ k ∧ k ≤ 4 := by
  unfold Sp.place at h
  repeat' split at h
  all_goals first | (cases h; omega) | cases h
theorem place_some {g k : Nat} {c : UInt8} {n : Int} (hn : n = (c.toNat : Int)) (h : Sp.place c = some k) (w : World) : Calls Tryz.prog 81 #[.pointer (some ⟨g, 0, none⟩), .int .u8 n] w (SRet w (.pointer (some ⟨g, k, none⟩))) := by
  have := place_any g c n hn w; rw [h] at this; exact this
theorem letters_place : ∀ k, k < 15 → ∀ l ∈ (Sp.stepRows.getD k ([], [])).2, l = 99 ∨ l = 100 ∨ l = 98 ∨ (Sp.place l).isSome = true := by decide
end Go.Proofs.YthnhfddlmkhgkaaGreatDoor

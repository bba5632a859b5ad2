/- PlayNew: the marks of the book. PlayNew: lists that show their marks. PlayNew: the book's lists of bytes, written over. PlayNew: the book's lists of bits, written over. PlayNew: kinds of which the book holds no list. PlayNew: copies of lists, and their likeness. PlayNew: likeness, as the book asks it (turned from Equal and SameOp). PlayNew: steps that show their marks. PlayNew: all lists of bytes show their marks. PlayNew: all lists of bits show their marks. PlayNew: all lists of steps show their marks. PlayNew: all lists show their marks. PlayNew: all lists written over, grown. -/
import Derived.Test.YthnhfddlmkhgkaaGreatDoorZPrintsD
import Derived.Test.YthnhfddlmkhgkaaGreatDoorZPrintC
set_option linter.unusedVariables false
namespace Go.Proofs.YthnhfddlmkhgkaaGreatDoor
open Go.RowKit Go.Proofs.YthnhfddlmkhgkaaGreatDoorW.PrintWords
namespace Sp
/-- the mark of element j of the list number id, in pass ps -/
def byteM (ps id j : Nat) : UInt8 := UInt8.ofNat (if ps = 1 then id * 97 + j * 31 else id / 256 * 59 + j * 13 + id % 256 * 3 + 1)
def boolM (ps id j : Nat) : Bool := (id + j + ps) % 2 == 0
def opM (ps id j : Nat) : Op := { kind := (id : Int), a := ((2 * j + ps : Nat) : Int) }
end Sp
theorem ret_u8 {a b : Int} (h : a = b) : Ending.returned (.int .u8 a) = .returned (.int .u8 b) := by rw [h]
set_option maxHeartbeats 2000000 in
set_option maxRecDepth 100000 in
theorem byteMark_any (g ps id j : Nat) (w : World) (hc : w.cell? ⟨g, 1, none⟩ = some (.int .i64 (ps : Int))) (h1 : id ≤ 1099511627776) (h2 : j ≤ 1099511627776) :
    Calls Tryz.prog 154 #[.pointer (some ⟨g, 0, none⟩), .int .i64 (id : Int), .int .i64 (j : Int)] w (SRet w (.int .u8 ((Sp.byteM ps id j).toNat : Int))) := by
  obtain ⟨r, hr⟩ : ∃ r, r = ((Sp.byteM ps id j).toNat : Int) := ⟨_, rfl⟩
  have hu : r = (if ps = 1 then (id : Int) * 97 + j * 31 else (id : Int) / 256 * 59 + j * 13 + (id : Int) % 256 * 3 + 1) % 256 := by
    rw [hr, Sp.byteM, UInt8.toNat_ofNat']
    split <;> omega
  rw [← hr]
  clear hr
  have HU := Lib.hid hu
  clear hu
  by_cases hp : ps = 1
  · have T : ((ps : Int) == 1) = true := by rw [beq_iff_eq]; omega
    have HF : Hid (((id : Int) * 97 + j * 31) % 256 = r) := Lib.hid (by rw [HU.out, if_pos hp])
    clear hp HU
    go_enter Tryz.func154, Tryz.ntmps154
    go_wp2
    go_ret
    exact ⟨ret_u8 HF.out, rfl⟩
  · have T : ((ps : Int) == 1) = false := by rw [beq_eq_false_iff_ne]; omega
    have HF : Hid (((id : Int) / 256 * 59 + j * 13 + (id : Int) % 256 * 3 + 1) % 256 = r) := Lib.hid (by rw [HU.out, if_neg hp])
    clear hp HU
    go_enter Tryz.func154, Tryz.ntmps154
    go_wp2
    go_ret
    exact ⟨ret_u8 HF.out, rfl⟩
theorem boolMark_any (g ps id j : Nat) (w : World) (hc : w.cell? ⟨g, 1, none⟩ = some (.int .i64 (ps : Int))) (h1 : id ≤ 1099511627776) (h2 : j ≤ 1099511627776) (h3 : ps ≤ 1) :
    Calls Tryz.prog 155 #[.pointer (some ⟨g, 0, none⟩), .int .i64 (id : Int), .int .i64 (j : Int)] w (SRet w (.bool (Sp.boolM ps id j))) := by
  obtain ⟨r, hr⟩ : ∃ r, r = Sp.boolM ps id j := ⟨_, rfl⟩
  have HF : Hid (((((id : Int) + j + ps) % 2) == 0) = r) := Lib.hid (by
    rw [hr, Sp.boolM, Bool.eq_iff_iff, beq_iff_eq, beq_iff_eq]; omega)
  rw [← hr]
  clear hr
  go_enter Tryz.func155, Tryz.ntmps155
  go_wp2
  go_ret
  exact ⟨ret_bool HF.out, rfl⟩
/-- a step's mark, in new memory -/
theorem opMark_any (g ps id j : Nat) (w : World) (hc : w.cell? ⟨g, 1, none⟩ = some (.int .i64 (ps : Int))) (h1 : id ≤ 1099511627776) (h2 : j ≤ 1099511627776) (h3 : ps ≤ 1) :
    Calls Tryz.prog 159 #[.pointer (some ⟨g, 0, none⟩), .int .i64 (id : Int), .int .i64 (j : Int)] w (BRet w (.agg (opCells (Sp.opM ps id j) (.slice none 0 0) (.slice none 0 0) (.slice none 0 0)).toArray)) := by
  have hg : g < w.heap.size := by
    rcases Nat.lt_or_ge g w.heap.size with h | h
    · exact h
    · exfalso
      simp only [World.cell?, Array.getElem?_eq_none h] at hc
      cases hc
  have hc2 : (w.alloc (.cells #[.int .i64 0, .int .i64 0, .int .i64 0, .int .i64 0, .int .i64 0, .int .i64 0, .int .i64 0, .int .i64 0, .int .i64 0, .int .i64 0, .string ⟨#[]⟩, .string ⟨#[]⟩, .string ⟨#[]⟩, .slice none 0 0, .slice none 0 0, .slice none 0 0] 80)).cell? ⟨g, 1, none⟩ = some (.int .i64 (ps : Int)) := pw_cell_below ((Below.refl _ _).alloc (Nat.le_refl _) _) hc
  have e : ((2 * j + ps : Nat) : Int) = 2 * (j : Int) + ps := by omega
  have HE := Lib.hid e
  clear e
  go_enter Tryz.func159, Tryz.ntmps159
  have hrow : (w.alloc (.cells #[.int .i64 (id : Int), .int .i64 (2 * (j : Int) + ps), .int .i64 0, .int .i64 0, .int .i64 0, .int .i64 0, .int .i64 0, .int .i64 0, .int .i64 0, .int .i64 0, .string ⟨#[]⟩, .string ⟨#[]⟩, .string ⟨#[]⟩, .slice none 0 0, .slice none 0 0, .slice none 0 0] 80)).heap[w.heap.size]? = some (.cells (opCells (Sp.opM ps id j) (.slice none 0 0) (.slice none 0 0) (.slice none 0 0)).toArray 80 (0, 0)) := by
    rw [heap_alloc_new]
    simp only [opCells, Sp.opM]
    rw [HE.out]
    rfl
  have HR := Lib.hid hrow
  clear hrow
  go_wp2
  refine bodyPost_ret (results_cell_row rfl _ _ w.heap.size 80 (opCells (Sp.opM ps id j) (.slice none 0 0) (.slice none 0 0) (.slice none 0 0)).toArray (0, 0) _ rfl HR.out Tryz.underlying80 rfl (by kernel_rfl)) rfl ?_
  exact ⟨rfl, (Below.refl _ _).alloc (Nat.le_refl _) _⟩
end Go.Proofs.YthnhfddlmkhgkaaGreatDoor

set_option linter.unusedVariables false
namespace Go.Proofs.YthnhfddlmkhgkaaGreatDoor
open Go.RowKit Go.Proofs.YthnhfddlmkhgkaaGreatDoorW.PrintWords
namespace Sp
def byteMs (ps id n : Nat) : Bs := (List.range n).map (byteM ps id)
def boolMs (ps id n : Nat) : List Bool := (List.range n).map (boolM ps id)
def opMs (ps id n : Nat) : List Op := (List.range n).map (opM ps id)
theorem byteMs_len (ps id n : Nat) : (byteMs ps id n).length = n := by simp [byteMs]
theorem boolMs_len (ps id n : Nat) : (boolMs ps id n).length = n := by simp [boolMs]
theorem opMs_len (ps id n : Nat) : (opMs ps id n).length = n := by simp [opMs]
theorem byteMs_at (ps id n j : Nat) (h : j < (byteMs ps id n).length) : (byteMs ps id n)[j]'h = byteM ps id j := by simp [byteMs]
theorem boolMs_at (ps id n j : Nat) (h : j < (boolMs ps id n).length) : (boolMs ps id n)[j]'h = boolM ps id j := by simp [boolMs]
theorem opMs_at (ps id n j : Nat) (h : j < (opMs ps id n).length) : (opMs ps id n)[j]'h = opM ps id j := by simp [opMs]
end Sp
set_option maxHeartbeats 2000000 in
set_option maxRecDepth 100000 in
theorem bytesShow_any (g ps id n c : Nat) (A : Option Addr) (w : World) (hc : w.cell? ⟨g, 1, none⟩ = some (.int .i64 (ps : Int))) (hi : id ≤ 1099511627776) (hn : n ≤ 1099511627776) (hr : ReadU w A (Sp.byteMs ps id n)) :
    Calls Tryz.prog 123 #[.pointer (some ⟨g, 0, none⟩), .slice A n c, .int .i64 (id : Int)] w (SRet w (.bool true)) := by
  have HR := Lib.hid hr
  have HM : Hid (∀ j : Nat, j ≤ 1099511627776 → Calls Tryz.prog 154 #[.pointer (some ⟨g, 0, none⟩), .int .i64 (id : Int), .int .i64 (j : Int)] w (SRet w (.int .u8 ((Sp.byteM ps id j).toNat : Int)))) := Lib.hid (fun j h => byteMark_any g ps id j w hc hi h)
  clear hr hc
  go_enter Tryz.func123, Tryz.ntmps123
  go_wp2
  go_loopw [7] (fun v7 wr => ∃ (j : Nat), v7 = .int .i64 (j : Int) ∧ j ≤ n ∧ w = wr) (fun v7 _ => n - (intOf v7).toNat)
  case atStart => exact ⟨0, rfl, Nat.zero_le _, rfl⟩
  case round =>
    obtain ⟨j, rfl, hj, rfl⟩ := hrel
    by_cases hlt : j < n
    · obtain ⟨ad, hA, hcell⟩ := HR.out.at_ j (by rw [Sp.byteMs_len]; exact hlt)
      rw [Sp.byteMs_at] at hcell
      obtain ⟨X, hX⟩ : ∃ X, X = ((Sp.byteM ps id j).toNat : Int) := ⟨_, rfl⟩
      have HMj := Lib.hid (HM.out j (by omega))
      rw [← hX] at hcell HMj
      clear hX
      subst hA
      have q2 : (0 : Int) ≤ (j : Int) ∧ (j : Int) < (n : Int) := ⟨by omega, by omega⟩
      go_wp2_with (go_at_call 154; refine HMj.out.mono ?_; rintro e w1 ⟨rfl, rfl⟩)
      go_roundw
      case rel => exact ⟨j + 1, by go_num, by omega, trivial⟩
      case measure => simp [intOf]; omega
    · go_wp2
      go_ret
      exact ⟨rfl, rfl⟩
set_option maxHeartbeats 2000000 in
set_option maxRecDepth 100000 in
theorem boolsShow_any (g ps id n c : Nat) (A : Option Addr) (w : World) (hc : w.cell? ⟨g, 1, none⟩ = some (.int .i64 (ps : Int))) (hi : id ≤ 1099511627776) (hn : n ≤ 1099511627776) (hp : ps ≤ 1) (hr : ReadB w A (Sp.boolMs ps id n)) :
    Calls Tryz.prog 124 #[.pointer (some ⟨g, 0, none⟩), .slice A n c, .int .i64 (id : Int)] w (SRet w (.bool true)) := by
  have HR := Lib.hid hr
  have HM : Hid (∀ j : Nat, j ≤ 1099511627776 → Calls Tryz.prog 155 #[.pointer (some ⟨g, 0, none⟩), .int .i64 (id : Int), .int .i64 (j : Int)] w (SRet w (.bool (Sp.boolM ps id j)))) := Lib.hid (fun j h => boolMark_any g ps id j w hc hi h hp)
  clear hr hc
  go_enter Tryz.func124, Tryz.ntmps124
  go_wp2
  go_loopw [7] (fun v7 wr => ∃ (j : Nat), v7 = .int .i64 (j : Int) ∧ j ≤ n ∧ w = wr) (fun v7 _ => n - (intOf v7).toNat)
  case atStart => exact ⟨0, rfl, Nat.zero_le _, rfl⟩
  case round =>
    obtain ⟨j, rfl, hj, rfl⟩ := hrel
    by_cases hlt : j < n
    · obtain ⟨ad, hA, hcell⟩ := HR.out.at_ j (by rw [Sp.boolMs_len]; exact hlt)
      rw [Sp.boolMs_at] at hcell
      obtain ⟨X, hX⟩ : ∃ X, X = Sp.boolM ps id j := ⟨_, rfl⟩
      have HMj := Lib.hid (HM.out j (by omega))
      rw [← hX] at hcell HMj
      clear hX
      subst hA
      have q2 : (0 : Int) ≤ (j : Int) ∧ (j : Int) < (n : Int) := ⟨by omega, by omega⟩
      cases X
      all_goals
        go_wp2_with (go_at_call 155; refine HMj.out.mono ?_; rintro e w1 ⟨rfl, rfl⟩)
        go_roundw
        case rel => exact ⟨j + 1, by go_num, by omega, trivial⟩
        case measure => simp [intOf]; omega
    · go_wp2
      go_ret
      exact ⟨rfl, rfl⟩
end Go.Proofs.YthnhfddlmkhgkaaGreatDoor

set_option linter.unusedVariables false
namespace Go.Proofs.YthnhfddlmkhgkaaGreatDoor
open Go.RowKit Go.Proofs.YthnhfddlmkhgkaaGreatDoorW.PrintWords

theorem ORow.put {e : TypeId} {w : World} {base b n c : Nat} {vs : List Value} (h : ORow e w base (.slice (some ⟨b, 0, none⟩) n c) vs) (i : Nat) (u : Value) : ORow e (w.setCell ⟨b, i, none⟩ u) base (.slice (some ⟨b, 0, none⟩) n c) (vs.set i u) := by
  rcases h with ⟨_, h⟩ | ⟨g, cells, fr, hv, h1, h2, h3, h4, h5, h6, h7⟩
  · cases h
  · injection hv with e1 e2 e3
    injection e1 with e1
    injection e1 with e1 _ _
    subst e1 e2 e3
    refine .inr ⟨_, cells.setIfInBounds i u, fr, by rw [List.length_set, Array.size_setIfInBounds], h1, by simpa [World.setCell] using h2, row_set h3 u, fun j hj => h4 j (by rwa [Array.size_setIfInBounds] at hj), by rw [List.length_set, Array.size_setIfInBounds]; exact h5, by rw [Array.size_setIfInBounds]; exact h6, ?_⟩
    rw [List.length_set, Array.toList_setIfInBounds, List.take_set, h7]
theorem ORow.at_ {e : TypeId} {w : World} {base n c : Nat} {A : Option Addr} {vs : List Value} (h : ORow e w base (.slice A n c) vs) (j : Nat) (hj : j < vs.length) : ∃ b, A = some ⟨b, 0, none⟩ ∧ n = vs.length ∧ base ≤ b ∧ w.cell? ⟨b, j, none⟩ = some (vs[j]'hj) ∧ w.frozen? ⟨b, j, none⟩ = false := by
  rcases h with ⟨h0, _⟩ | ⟨g, cells, fr, hv, h1, h2, h3, h4, h5, h6, h7⟩
  · subst h0; simp at hj
  · injection hv with e1 e2 e3
    refine ⟨g, e1, e2, h1, ?_, ?_⟩
    · rw [cell_of_row _ _ _ _ _ _ h3]
      have h9 : (cells.toList.take vs.length)[j]? = vs[j]? := by rw [h7]
      rw [List.getElem?_take_of_lt hj, List.getElem?_eq_getElem hj] at h9
      simpa using h9
    · have hh := h4 j (by omega)
      simp only [World.frozen?, h3]
      simpa using hh
/-- how many elements a list has -/
def lenV : Value → Nat
  | .slice _ n _ => n
  | _ => 0
theorem OU.lenV {w : World} {base : Nat} {v : Value} {l : Sp.Bs} (h : OU w base v l) : lenV v = l.length := by
  obtain ⟨A, c, rfl, _, _⟩ := h.reads; rfl
/-- lists of bytes, each in a block of its own -/
def Apart (vs : List Value) : Prop := ∀ (i j : Nat) (vi vj : Value), vs[i]? = some vi → vs[j]? = some vj → i ≠ j → ∀ k : Nat, vi.ownBlock = some k → vj.ownBlock ≠ some k
/-- the walk of bytesWrite: so many lists bear their marks -/
def WrSt (w wr : World) (base : Nat) (vs : List Value) (ps id i : Nat) : Prop :=
  wr.heap.size = w.heap.size ∧ Below base w wr ∧ (∀ k : Nat, (∀ v ∈ vs, v.ownBlock ≠ some k) → wr.heap[k]? = w.heap[k]?) ∧ ∀ (j : Nat) (v : Value), vs[j]? = some v → (j < i → OU wr base v (Sp.byteMs ps (id + j + 1) (lenV v))) ∧ (i ≤ j → ∃ l, OU wr base v l)
theorem encs_usB (l : Sp.Bs) : encs (Value.int .u8) (us l) = l.map fun b => Value.int .u8 (b.toNat : Int) := by
  simp [encs, us, List.map_map, Function.comp_def]
theorem byteMs_succ (ps id j : Nat) : Sp.byteMs ps id (j + 1) = Sp.byteMs ps id j ++ [Sp.byteM ps id j] := by simp [Sp.byteMs, List.range_succ]
theorem marks_put (ps id j : Nat) (l : Sp.Bs) (h : j < l.length) : (encs (Value.int .u8) (us (Sp.byteMs ps id j ++ l.drop j))).set j (.int .u8 ((Sp.byteM ps id j).toNat : Int)) = encs (Value.int .u8) (us (Sp.byteMs ps id (j + 1) ++ l.drop (j + 1))) := by
  rw [encs_usB, encs_usB, byteMs_succ, List.drop_eq_getElem_cons h, List.append_assoc]
  simp only [List.map_append, List.map_cons, List.singleton_append]
  rw [List.set_append_right _ _ (by rw [List.length_map, Sp.byteMs_len]; exact Nat.le_refl _), List.length_map, Sp.byteMs_len, Nat.sub_self]
  rfl
theorem encs_us' (l : Sp.Bs) : (encs (Value.int .u8) (us l)).length = l.length := by rw [encs_usB, List.length_map]
set_option maxHeartbeats 4000000 in
set_option maxRecDepth 100000 in
theorem bytesWrite_any (g base ps id : Nat) (A2 : Option Addr) (c2 : Nat) (vs : List Value) (bx : Array Value) (w : World) (hg : w.heap[g]? = some (.cells bx 71 (0, 0))) (h1 : bx[1]? = some (.int .i64 (ps : Int))) (h2 : bx[2]? = some (.slice A2 vs.length c2))
    (hr : ORow 45 w base (.slice A2 vs.length c2) vs) (hv : ∀ (j : Nat) (v : Value), vs[j]? = some v → ∃ l, OU w base v l ∧ l.length ≤ 1099511627776) (ha : Apart vs) (hid : id + vs.length ≤ 1099511627776) :
    Calls Tryz.prog 111 #[.pointer (some ⟨g, 0, none⟩), .int .i64 (id : Int)] w (fun e w' => e = .returned (.int .i64 ((id + vs.length : Nat) : Int)) ∧ WrSt w w' base vs ps id vs.length) := by
  have hfar : ∀ v ∈ vs, ∀ (k : Nat), v.ownBlock = some k → ∃ cells fr, w.heap[k]? = some (.cells cells 5 fr) := fun v hm k hk => by
    obtain ⟨j, hj⟩ := List.getElem?_of_mem hm
    obtain ⟨l, hl, _⟩ := hv j v hj
    exact hl.typed k hk
  have HGB : Hid (∀ wr : World, wr.heap.size = w.heap.size → (∀ k : Nat, (∀ v ∈ vs, v.ownBlock ≠ some k) → wr.heap[k]? = w.heap[k]?) → wr.heap[g]? = some (.cells bx 71 (0, 0)) ∧ ORow 45 wr base (.slice A2 vs.length c2) vs) := Lib.hid (fun wr k1 k3 => by
    refine ⟨(k3 g (fun v hm e => ?_)).trans hg, hr.step (by omega) (fun k hk => k3 k (fun v hm e => ?_))⟩
    · obtain ⟨c, fr, hh⟩ := hfar v hm g e
      rw [hg] at hh
      injection hh with hh
      injection hh with _ hh _
      exact absurd hh (by decide)
    · obtain ⟨c, fr, hh⟩ := hfar v hm k e
      obtain ⟨c3, fr3, hh3⟩ := hr.typed k hk
      rw [hh3] at hh
      injection hh with hh
      injection hh with _ hh _
      exact absurd hh (by decide))
  have HL : Hid (∀ (j : Nat) (v : Value), vs[j]? = some v → lenV v ≤ 1099511627776) := Lib.hid (fun j v hj => by
    obtain ⟨l, hl, hb⟩ := hv j v hj
    rw [hl.lenV]; exact hb)
  have HBX := Lib.hid (And.intro h1 h2)
  have HAP := Lib.hid ha
  have HST : Hid (WrSt w w base vs ps id 0) := Lib.hid ⟨rfl, Below.refl _ _, fun _ _ => rfl, fun j v hj => ⟨fun h => absurd h (by omega), fun _ => by obtain ⟨l, hl, _⟩ := hv j v hj; exact ⟨l, hl⟩⟩⟩
  clear hg h1 h2 hr hv ha hfar
  go_enter Tryz.func111, Tryz.ntmps111
  go_wp2
  go_loopw [1, 5] (fun v1 v5 wr => ∃ (i : Nat), v1 = .int .i64 ((id : Int) + i) ∧ v5 = .int .i64 (i : Int) ∧ i ≤ vs.length ∧ Hid (WrSt w wr base vs ps id i)) (fun _ v5 _ => vs.length - (intOf v5).toNat)
  case atStart => exact ⟨0, by simp, rfl, Nat.zero_le _, HST⟩
  case round =>
    obtain ⟨i, rfl, rfl, hi, HS⟩ := hrel
    obtain ⟨W3, rfl⟩ : ∃ W3, W3 = wr := ⟨_, rfl⟩
    have hx1 : W3.cell? ⟨g, 1, none⟩ = some (.int .i64 (ps : Int)) := by rw [cell_of_row _ _ _ _ _ _ (HGB.out W3 HS.out.1 HS.out.2.2.1).1]; exact HBX.out.1
    have hx2 : W3.cell? ⟨g, 2, none⟩ = some (.slice A2 vs.length c2) := by rw [cell_of_row _ _ _ _ _ _ (HGB.out W3 HS.out.1 HS.out.2.2.1).1]; exact HBX.out.2
    by_cases hlt : i < vs.length
    · obtain ⟨b2, hA2, _, _, hcell, _⟩ := (HGB.out W3 HS.out.1 HS.out.2.2.1).2.at_ i hlt
      obtain ⟨v, hv⟩ : ∃ v, v = vs[i]'hlt := ⟨_, rfl⟩
      have hvi : vs[i]? = some v := by rw [hv]; exact List.getElem?_eq_getElem hlt
      obtain ⟨l, hl⟩ := (HS.out.2.2.2 i v hvi).2 (Nat.le_refl _)
      have hlen := hl.lenV
      have hll : l.length ≤ 1099511627776 := by rw [← hlen]; exact HL.out i v hvi
      obtain ⟨A, c, hve, hlc, _⟩ := hl.reads
      have HVI := Lib.hid hvi
      have HOL := Lib.hid hl
      have HVE := Lib.hid hve
      have hmem : v ∈ vs := by rw [hv]; exact List.getElem_mem _
      have HMEM := Lib.hid hmem
      have HCB : Hid (∀ wr : World, wr.heap.size = w.heap.size → (∀ k : Nat, (∀ v ∈ vs, v.ownBlock ≠ some k) → wr.heap[k]? = w.heap[k]?) → wr.cell? ⟨g, 1, none⟩ = some (.int .i64 (ps : Int)) ∧ wr.cell? ⟨g, 2, none⟩ = some (.slice A2 vs.length c2) ∧ wr.cell? ⟨b2, i, none⟩ = some (.slice A l.length c)) := Lib.hid (fun wr k1 k3 => by
        obtain ⟨m1, m2⟩ := HGB.out wr k1 k3
        obtain ⟨b3, e3, _, _, hc3, _⟩ := m2.at_ i hlt
        rw [hA2] at e3
        injection e3 with e3
        injection e3 with e3 _ _
        subst e3
        exact ⟨by rw [cell_of_row _ _ _ _ _ _ m1]; exact HBX.out.1, by rw [cell_of_row _ _ _ _ _ _ m1]; exact HBX.out.2, by rw [hc3, ← hv, hve]⟩)
      have HFR : Hid (∀ wr : World, (∀ k : Nat, v.ownBlock ≠ some k → wr.heap[k]? = W3.heap[k]?) → ∀ k : Nat, (∀ v ∈ vs, v.ownBlock ≠ some k) → wr.heap[k]? = w.heap[k]?) := Lib.hid (fun wr h k hk => (h k (hk v HMEM.out)).trans (HS.out.2.2.1 k hk))
      rw [← hv, hve] at hcell
      clear hv hvi hl hlen hve hmem
      subst hA2
      have q2 : (0 : Int) ≤ (i : Int) ∧ (i : Int) < (vs.length : Int) := ⟨by omega, by omega⟩
      have hid2 : (id : Int) + i + 1 ≤ 1099511627776 := by omega
      go_wp2
      go_loopw [6] (fun v6 wr => ∃ (j : Nat), v6 = .int .i64 (j : Int) ∧ j ≤ l.length ∧ Hid (wr.heap.size = W3.heap.size ∧ Below base w wr ∧ (∀ k : Nat, v.ownBlock ≠ some k → wr.heap[k]? = W3.heap[k]?) ∧ OU wr base v (Sp.byteMs ps (id + i + 1) j ++ l.drop j))) (fun v6 _ => l.length - (intOf v6).toNat)
      case atStart => exact ⟨0, rfl, Nat.zero_le _, Lib.hid ⟨rfl, HS.out.2.1, fun _ _ => rfl, by simpa [Sp.byteMs] using HOL.out⟩⟩
      case round =>
        obtain ⟨j, rfl, hj, HI⟩ := hrel
        obtain ⟨y1, y2, y3⟩ := HCB.out wr (HI.out.1.trans HS.out.1) (HFR.out wr HI.out.2.2.1)
        clear hcell hx1 hx2
        by_cases hltj : j < l.length
        · have HY := Lib.hid (And.intro y1 (And.intro y2 y3))
          go_wp2
          have hlm : (Sp.byteMs ps (id + i + 1) j ++ l.drop j).length = l.length := by rw [List.length_append, Sp.byteMs_len, List.length_drop]; omega
          obtain ⟨b, hA, _, hbb, hcb, hfb⟩ := (show ORow 5 wr base (.slice A l.length c) _ by rw [← HVE.out]; exact HI.out.2.2.2).at_ j (by rw [encs_us', hlm]; exact hltj)
          obtain ⟨U, hU⟩ : ∃ U, wr.cell? ⟨b, j, none⟩ = some U := ⟨_, hcb⟩
          obtain ⟨X, hX⟩ : ∃ X, X = ((Sp.byteM ps (id + i + 1) j).toNat : Int) := ⟨_, rfl⟩
          have hcast : ((id + i + 1 : Nat) : Int) = (id : Int) + i + 1 := by omega
          have hmark : Calls Tryz.prog 154 #[.pointer (some ⟨g, 0, none⟩), .int .i64 ((id : Int) + i + 1), .int .i64 (j : Int)] wr.drew (SRet wr.drew (.int .u8 X)) := by
            have h := byteMark_any g ps (id + i + 1) j wr.drew y1 (by omega) (by omega)
            rw [hcast, ← hX] at h
            exact h
          have HM := Lib.hid hmark
          have HXX := Lib.hid hX
          have HBB := Lib.hid hbb
          have HAE := Lib.hid hA
          subst hA
          have q4 : (0 : Int) ≤ (j : Int) ∧ (j : Int) < (l.length : Int) := ⟨by omega, by omega⟩
          have y2d : wr.drew.cell? ⟨g, 2, none⟩ = some (.slice (some ⟨b2, 0, none⟩) vs.length c2) := y2
          have y3d : wr.drew.cell? ⟨b2, i, none⟩ = some (.slice (some ⟨b, 0, none⟩) l.length c) := y3
          have hUd : wr.drew.cell? ⟨b, j, none⟩ = some U := hU
          have hfd : wr.drew.frozen? ⟨b, j, none⟩ = false := hfb
          have HUD := Lib.hid (And.intro y2d (And.intro y3d (And.intro hUd hfd)))
          clear hmark hX hbb hcb hlm hU hfb hcast y2d y3d hUd hfd
          obtain ⟨y2d, y3d, hUd, hfd⟩ := HUD.out
          refine region_mix [] [0, 1, 2, 3, 4, 5, 6, 7, 8, 9, 10, 11] [12, 13] mixed (by kernel_rfl) (fun _ _ _ _ _ h => h) ?_
          simp only [pick, List.getElem?_cons_zero, List.getElem?_cons_succ]
          refine wpPre_nil ?_
          iterate 11 still_step
          still_call (SRet.still HM.out)
          refine wpStill_nil ?_
          clear y1 y2 y3 y2d y3d
          have HBR := Lib.hid (HI.out.2.1.drew)
          go_wp2
          go_roundw
          case rel =>
            obtain ⟨m1, m2, m3, m4⟩ := HI.out
            refine ⟨j + 1, by go_num, by omega, Lib.hid ⟨by simpa [World.setCell] using m1, HBR.out.setCell HBB.out _, fun k hk => ?_, ?_⟩⟩
            · refine (Below.heap_setCell wr.drew ⟨b, j, none⟩ _ k (fun e => ?_)).trans (m3 k hk)
              simp only at e
              subst e
              exact hk (by rw [HVE.out]; rfl)
            · have hp : ORow 5 wr.drew base (.slice (some ⟨b, 0, none⟩) l.length c) (encs (Value.int .u8) (us (Sp.byteMs ps (id + i + 1) j ++ l.drop j))) := by
                have h := m4.step (w1 := wr.drew) (Nat.le_refl _) (fun _ _ => rfl)
                rw [HVE.out] at h
                exact h
              have hq := hp.put j (.int .u8 X)
              rw [HXX.out, marks_put _ _ _ _ hltj] at hq
              rw [HVE.out, HXX.out]
              exact hq
          case measure => simp [intOf]; omega
        · have hjl : j = l.length := by omega
          go_wp2
          go_roundw
          case rel =>
            obtain ⟨m1, m2, m3, m4⟩ := HI.out
            obtain ⟨r1, r2, r3, r4⟩ := HS.out
            refine ⟨i + 1, ?_, by go_num, by omega, Lib.hid ⟨m1.trans r1, m2, HFR.out wr m3, fun j2 v2 hj2 => ⟨fun hlt2 => ?_, fun hge => ?_⟩⟩⟩
            · exact congrArg (Value.int .i64) (by omega)
            · by_cases q : j2 = i
              · subst q
                have e : v2 = v := Option.some.inj (hj2.symm.trans HVI.out)
                subst e
                rw [HOL.out.lenV, ← hjl]
                rw [hjl, List.drop_length, List.append_nil, ← hjl] at m4
                exact m4
              · exact ((r4 j2 v2 hj2).1 (by omega)).step (by omega) (fun k hk => m3 k (HAP.out j2 i v2 v hj2 HVI.out q k hk))
            · obtain ⟨l2, hl2⟩ := (r4 j2 v2 hj2).2 (by omega)
              exact ⟨l2, hl2.step (by omega) (fun k hk => m3 k (HAP.out j2 i v2 v hj2 HVI.out (by omega) k hk))⟩
          case measure => simp [intOf]; omega
    · go_wp2
      go_ret
      have e : i = vs.length := by omega
      subst e
      exact ⟨by rfl, HS.out⟩
end Go.Proofs.YthnhfddlmkhgkaaGreatDoor

set_option linter.unusedVariables false
namespace Go.Proofs.YthnhfddlmkhgkaaGreatDoor
open Go.RowKit Go.Proofs.YthnhfddlmkhgkaaGreatDoorW.PrintWords

/-- the walk of boolsWrite: so many lists bear their marks -/
def WrSb (w wr : World) (base : Nat) (vs : List Value) (ps id i : Nat) : Prop :=
  wr.heap.size = w.heap.size ∧ Below base w wr ∧ (∀ k : Nat, (∀ v ∈ vs, v.ownBlock ≠ some k) → wr.heap[k]? = w.heap[k]?) ∧ ∀ (j : Nat) (v : Value), vs[j]? = some v → (j < i → OB wr base v (Sp.boolMs ps (id + j + 1) (lenV v))) ∧ (i ≤ j → ∃ l, OB wr base v l)
theorem boolMs_succ (ps id j : Nat) : Sp.boolMs ps id (j + 1) = Sp.boolMs ps id j ++ [Sp.boolM ps id j] := by simp [Sp.boolMs, List.range_succ]
theorem flags_put (ps id j : Nat) (l : List Bool) (h : j < l.length) : (encs Value.bool (Sp.boolMs ps id j ++ l.drop j)).set j (.bool (Sp.boolM ps id j)) = encs Value.bool (Sp.boolMs ps id (j + 1) ++ l.drop (j + 1)) := by
  rw [boolMs_succ, List.drop_eq_getElem_cons h, List.append_assoc]
  simp only [encs, List.map_append, List.map_cons, List.singleton_append]
  rw [List.set_append_right _ _ (by rw [List.length_map, Sp.boolMs_len]; exact Nat.le_refl _), List.length_map, Sp.boolMs_len, Nat.sub_self]
  rfl
theorem OB.lenV {w : World} {base : Nat} {v : Value} {l : List Bool} (h : OB w base v l) : lenV v = l.length := by
  obtain ⟨A, c, rfl, _, _⟩ := h.reads; rfl
set_option maxHeartbeats 4000000 in
set_option maxRecDepth 100000 in
theorem boolsWrite_any (g base ps id : Nat) (A2 : Option Addr) (c2 : Nat) (vs : List Value) (bx : Array Value) (w : World) (hg : w.heap[g]? = some (.cells bx 71 (0, 0))) (h1 : bx[1]? = some (.int .i64 (ps : Int))) (h2 : bx[5]? = some (.slice A2 vs.length c2))
    (hr : ORow 78 w base (.slice A2 vs.length c2) vs) (hv : ∀ (j : Nat) (v : Value), vs[j]? = some v → ∃ l, OB w base v l ∧ l.length ≤ 1099511627776) (ha : Apart vs) (hid : id + vs.length ≤ 1099511627776) (hps : ps ≤ 1) :
    Calls Tryz.prog 112 #[.pointer (some ⟨g, 0, none⟩), .int .i64 (id : Int)] w (fun e w' => e = .returned (.int .i64 ((id + vs.length : Nat) : Int)) ∧ WrSb w w' base vs ps id vs.length) := by
  have hfar : ∀ v ∈ vs, ∀ (k : Nat), v.ownBlock = some k → ∃ cells fr, w.heap[k]? = some (.cells cells 4 fr) := fun v hm k hk => by
    obtain ⟨j, hj⟩ := List.getElem?_of_mem hm
    obtain ⟨l, hl, _⟩ := hv j v hj
    exact hl.typed k hk
  have HGB : Hid (∀ wr : World, wr.heap.size = w.heap.size → (∀ k : Nat, (∀ v ∈ vs, v.ownBlock ≠ some k) → wr.heap[k]? = w.heap[k]?) → wr.heap[g]? = some (.cells bx 71 (0, 0)) ∧ ORow 78 wr base (.slice A2 vs.length c2) vs) := Lib.hid (fun wr k1 k3 => by
    refine ⟨(k3 g (fun v hm e => ?_)).trans hg, hr.step (by omega) (fun k hk => k3 k (fun v hm e => ?_))⟩
    · obtain ⟨c, fr, hh⟩ := hfar v hm g e
      rw [hg] at hh
      injection hh with hh
      injection hh with _ hh _
      exact absurd hh (by decide)
    · obtain ⟨c, fr, hh⟩ := hfar v hm k e
      obtain ⟨c3, fr3, hh3⟩ := hr.typed k hk
      rw [hh3] at hh
      injection hh with hh
      injection hh with _ hh _
      exact absurd hh (by decide))
  have HL : Hid (∀ (j : Nat) (v : Value), vs[j]? = some v → lenV v ≤ 1099511627776) := Lib.hid (fun j v hj => by
    obtain ⟨l, hl, hb⟩ := hv j v hj
    rw [hl.lenV]; exact hb)
  have HBX := Lib.hid (And.intro h1 h2)
  have HAP := Lib.hid ha
  have HST : Hid (WrSb w w base vs ps id 0) := Lib.hid ⟨rfl, Below.refl _ _, fun _ _ => rfl, fun j v hj => ⟨fun h => absurd h (by omega), fun _ => by obtain ⟨l, hl, _⟩ := hv j v hj; exact ⟨l, hl⟩⟩⟩
  clear hg h1 h2 hr hv ha hfar
  go_enter Tryz.func112, Tryz.ntmps112
  go_wp2
  go_loopw [1, 5] (fun v1 v5 wr => ∃ (i : Nat), v1 = .int .i64 ((id : Int) + i) ∧ v5 = .int .i64 (i : Int) ∧ i ≤ vs.length ∧ Hid (WrSb w wr base vs ps id i)) (fun _ v5 _ => vs.length - (intOf v5).toNat)
  case atStart => exact ⟨0, by simp, rfl, Nat.zero_le _, HST⟩
  case round =>
    obtain ⟨i, rfl, rfl, hi, HS⟩ := hrel
    obtain ⟨W3, rfl⟩ : ∃ W3, W3 = wr := ⟨_, rfl⟩
    have hx1 : W3.cell? ⟨g, 1, none⟩ = some (.int .i64 (ps : Int)) := by rw [cell_of_row _ _ _ _ _ _ (HGB.out W3 HS.out.1 HS.out.2.2.1).1]; exact HBX.out.1
    have hx2 : W3.cell? ⟨g, 5, none⟩ = some (.slice A2 vs.length c2) := by rw [cell_of_row _ _ _ _ _ _ (HGB.out W3 HS.out.1 HS.out.2.2.1).1]; exact HBX.out.2
    by_cases hlt : i < vs.length
    · obtain ⟨b2, hA2, _, _, hcell, _⟩ := (HGB.out W3 HS.out.1 HS.out.2.2.1).2.at_ i hlt
      obtain ⟨v, hv⟩ : ∃ v, v = vs[i]'hlt := ⟨_, rfl⟩
      have hvi : vs[i]? = some v := by rw [hv]; exact List.getElem?_eq_getElem hlt
      obtain ⟨l, hl⟩ := (HS.out.2.2.2 i v hvi).2 (Nat.le_refl _)
      have hlen := hl.lenV
      have hll : l.length ≤ 1099511627776 := by rw [← hlen]; exact HL.out i v hvi
      obtain ⟨A, c, hve, hlc, _⟩ := hl.reads
      have HVI := Lib.hid hvi
      have HOL := Lib.hid hl
      have HVE := Lib.hid hve
      have hmem : v ∈ vs := by rw [hv]; exact List.getElem_mem _
      have HMEM := Lib.hid hmem
      have HCB : Hid (∀ wr : World, wr.heap.size = w.heap.size → (∀ k : Nat, (∀ v ∈ vs, v.ownBlock ≠ some k) → wr.heap[k]? = w.heap[k]?) → wr.cell? ⟨g, 1, none⟩ = some (.int .i64 (ps : Int)) ∧ wr.cell? ⟨g, 5, none⟩ = some (.slice A2 vs.length c2) ∧ wr.cell? ⟨b2, i, none⟩ = some (.slice A l.length c)) := Lib.hid (fun wr k1 k3 => by
        obtain ⟨m1, m2⟩ := HGB.out wr k1 k3
        obtain ⟨b3, e3, _, _, hc3, _⟩ := m2.at_ i hlt
        rw [hA2] at e3
        injection e3 with e3
        injection e3 with e3 _ _
        subst e3
        exact ⟨by rw [cell_of_row _ _ _ _ _ _ m1]; exact HBX.out.1, by rw [cell_of_row _ _ _ _ _ _ m1]; exact HBX.out.2, by rw [hc3, ← hv, hve]⟩)
      have HFR : Hid (∀ wr : World, (∀ k : Nat, v.ownBlock ≠ some k → wr.heap[k]? = W3.heap[k]?) → ∀ k : Nat, (∀ v ∈ vs, v.ownBlock ≠ some k) → wr.heap[k]? = w.heap[k]?) := Lib.hid (fun wr h k hk => (h k (hk v HMEM.out)).trans (HS.out.2.2.1 k hk))
      rw [← hv, hve] at hcell
      clear hv hvi hl hlen hve hmem
      subst hA2
      have q2 : (0 : Int) ≤ (i : Int) ∧ (i : Int) < (vs.length : Int) := ⟨by omega, by omega⟩
      have hid2 : (id : Int) + i + 1 ≤ 1099511627776 := by omega
      go_wp2
      go_loopw [6] (fun v6 wr => ∃ (j : Nat), v6 = .int .i64 (j : Int) ∧ j ≤ l.length ∧ Hid (wr.heap.size = W3.heap.size ∧ Below base w wr ∧ (∀ k : Nat, v.ownBlock ≠ some k → wr.heap[k]? = W3.heap[k]?) ∧ OB wr base v (Sp.boolMs ps (id + i + 1) j ++ l.drop j))) (fun v6 _ => l.length - (intOf v6).toNat)
      case atStart => exact ⟨0, rfl, Nat.zero_le _, Lib.hid ⟨rfl, HS.out.2.1, fun _ _ => rfl, by simpa [Sp.boolMs] using HOL.out⟩⟩
      case round =>
        obtain ⟨j, rfl, hj, HI⟩ := hrel
        obtain ⟨y1, y2, y3⟩ := HCB.out wr (HI.out.1.trans HS.out.1) (HFR.out wr HI.out.2.2.1)
        clear hcell hx1 hx2
        by_cases hltj : j < l.length
        · have HY := Lib.hid (And.intro y1 (And.intro y2 y3))
          go_wp2
          have hlm : (Sp.boolMs ps (id + i + 1) j ++ l.drop j).length = l.length := by rw [List.length_append, Sp.boolMs_len, List.length_drop]; omega
          obtain ⟨b, hA, _, hbb, hcb, hfb⟩ := (show ORow 4 wr base (.slice A l.length c) _ by rw [← HVE.out]; exact HI.out.2.2.2).at_ j (by rw [encs_length, hlm]; exact hltj)
          obtain ⟨U, hU⟩ : ∃ U, wr.cell? ⟨b, j, none⟩ = some U := ⟨_, hcb⟩
          obtain ⟨X, hX⟩ : ∃ X, X = Sp.boolM ps (id + i + 1) j := ⟨_, rfl⟩
          have hcast : ((id + i + 1 : Nat) : Int) = (id : Int) + i + 1 := by omega
          have hmark : Calls Tryz.prog 155 #[.pointer (some ⟨g, 0, none⟩), .int .i64 ((id : Int) + i + 1), .int .i64 (j : Int)] wr.drew (SRet wr.drew (.bool X)) := by
            have h := boolMark_any g ps (id + i + 1) j wr.drew y1 (by omega) (by omega) hps
            rw [hcast, ← hX] at h
            exact h
          have HM := Lib.hid hmark
          have HXX := Lib.hid hX
          have HBB := Lib.hid hbb
          have HAE := Lib.hid hA
          subst hA
          have q4 : (0 : Int) ≤ (j : Int) ∧ (j : Int) < (l.length : Int) := ⟨by omega, by omega⟩
          have y2d : wr.drew.cell? ⟨g, 5, none⟩ = some (.slice (some ⟨b2, 0, none⟩) vs.length c2) := y2
          have y3d : wr.drew.cell? ⟨b2, i, none⟩ = some (.slice (some ⟨b, 0, none⟩) l.length c) := y3
          have hUd : wr.drew.cell? ⟨b, j, none⟩ = some U := hU
          have hfd : wr.drew.frozen? ⟨b, j, none⟩ = false := hfb
          have HUD := Lib.hid (And.intro y2d (And.intro y3d (And.intro hUd hfd)))
          clear hmark hX hbb hcb hlm hU hfb hcast y2d y3d hUd hfd
          obtain ⟨y2d, y3d, hUd, hfd⟩ := HUD.out
          refine region_mix [] [0, 1, 2, 3, 4, 5, 6, 7, 8, 9, 10, 11] [12, 13] mixed (by kernel_rfl) (fun _ _ _ _ _ h => h) ?_
          simp only [pick, List.getElem?_cons_zero, List.getElem?_cons_succ]
          refine wpPre_nil ?_
          iterate 11 still_step
          still_call (SRet.still HM.out)
          refine wpStill_nil ?_
          clear y1 y2 y3 y2d y3d
          have HBR := Lib.hid (HI.out.2.1.drew)
          go_wp2
          go_roundw
          case rel =>
            obtain ⟨m1, m2, m3, m4⟩ := HI.out
            refine ⟨j + 1, by go_num, by omega, Lib.hid ⟨by simpa [World.setCell] using m1, HBR.out.setCell HBB.out _, fun k hk => ?_, ?_⟩⟩
            · refine (Below.heap_setCell wr.drew ⟨b, j, none⟩ _ k (fun e => ?_)).trans (m3 k hk)
              simp only at e
              subst e
              exact hk (by rw [HVE.out]; rfl)
            · have hp : ORow 4 wr.drew base (.slice (some ⟨b, 0, none⟩) l.length c) (encs Value.bool (Sp.boolMs ps (id + i + 1) j ++ l.drop j)) := by
                have h := m4.step (w1 := wr.drew) (Nat.le_refl _) (fun _ _ => rfl)
                rw [HVE.out] at h
                exact h
              have hq := hp.put j (.bool X)
              rw [HXX.out, flags_put _ _ _ _ hltj] at hq
              rw [HVE.out, HXX.out]
              exact hq
          case measure => simp [intOf]; omega
        · have hjl : j = l.length := by omega
          go_wp2
          go_roundw
          case rel =>
            obtain ⟨m1, m2, m3, m4⟩ := HI.out
            obtain ⟨r1, r2, r3, r4⟩ := HS.out
            refine ⟨i + 1, ?_, by go_num, by omega, Lib.hid ⟨m1.trans r1, m2, HFR.out wr m3, fun j2 v2 hj2 => ⟨fun hlt2 => ?_, fun hge => ?_⟩⟩⟩
            · exact congrArg (Value.int .i64) (by omega)
            · by_cases q : j2 = i
              · subst q
                have e : v2 = v := Option.some.inj (hj2.symm.trans HVI.out)
                subst e
                rw [HOL.out.lenV, ← hjl]
                rw [hjl, List.drop_length, List.append_nil, ← hjl] at m4
                exact m4
              · exact ((r4 j2 v2 hj2).1 (by omega)).step (by omega) (fun k hk => m3 k (HAP.out j2 i v2 v hj2 HVI.out q k hk))
            · obtain ⟨l2, hl2⟩ := (r4 j2 v2 hj2).2 (by omega)
              exact ⟨l2, hl2.step (by omega) (fun k hk => m3 k (HAP.out j2 i v2 v hj2 HVI.out (by omega) k hk))⟩
          case measure => simp [intOf]; omega
    · go_wp2
      go_ret
      have e : i = vs.length := by omega
      subst e
      exact ⟨by rfl, HS.out⟩
end Go.Proofs.YthnhfddlmkhgkaaGreatDoor

set_option linter.unusedVariables false
namespace Go.Proofs.YthnhfddlmkhgkaaGreatDoor
open Go.RowKit Go.Proofs.YthnhfddlmkhgkaaGreatDoorW.PrintWords
set_option maxRecDepth 100000 in
theorem entriesWrite_nil (g id : Nat) (w : World) (hc : w.cell? ⟨g, 8, none⟩ = some (.slice none 0 0)) :
    Calls Tryz.prog 113 #[.pointer (some ⟨g, 0, none⟩), .int .i64 (id : Int)] w (SRet w (.int .i64 (id : Int))) := by
  go_enter Tryz.func113, Tryz.ntmps113
  go_wp2
  refine wp_loop_once ?_
  go_wp2
  go_ret
  exact ⟨rfl, rfl⟩
set_option maxRecDepth 100000 in
theorem eventsWrite_nil (g id : Nat) (w : World) (hc : w.cell? ⟨g, 11, none⟩ = some (.slice none 0 0)) :
    Calls Tryz.prog 114 #[.pointer (some ⟨g, 0, none⟩), .int .i64 (id : Int)] w (SRet w (.int .i64 (id : Int))) := by
  go_enter Tryz.func114, Tryz.ntmps114
  go_wp2
  refine wp_loop_once ?_
  go_wp2
  go_ret
  exact ⟨rfl, rfl⟩
set_option maxRecDepth 100000 in
theorem flightsWrite_nil (g id : Nat) (w : World) (hc : w.cell? ⟨g, 14, none⟩ = some (.slice none 0 0)) :
    Calls Tryz.prog 115 #[.pointer (some ⟨g, 0, none⟩), .int .i64 (id : Int)] w (SRet w (.int .i64 (id : Int))) := by
  go_enter Tryz.func115, Tryz.ntmps115
  go_wp2
  refine wp_loop_once ?_
  go_wp2
  go_ret
  exact ⟨rfl, rfl⟩
set_option maxRecDepth 100000 in
theorem entriesGrow_nil (g id : Nat) (w : World) (hc : w.cell? ⟨g, 8, none⟩ = some (.slice none 0 0)) :
    Calls Tryz.prog 119 #[.pointer (some ⟨g, 0, none⟩), .int .i64 (id : Int)] w (SRet w (.int .i64 (id : Int))) := by
  go_enter Tryz.func119, Tryz.ntmps119
  go_wp2
  refine wp_loop_once ?_
  go_wp2
  go_ret
  exact ⟨rfl, rfl⟩
set_option maxRecDepth 100000 in
theorem eventsGrow_nil (g id : Nat) (w : World) (hc : w.cell? ⟨g, 11, none⟩ = some (.slice none 0 0)) :
    Calls Tryz.prog 120 #[.pointer (some ⟨g, 0, none⟩), .int .i64 (id : Int)] w (SRet w (.int .i64 (id : Int))) := by
  go_enter Tryz.func120, Tryz.ntmps120
  go_wp2
  refine wp_loop_once ?_
  go_wp2
  go_ret
  exact ⟨rfl, rfl⟩
set_option maxRecDepth 100000 in
theorem flightsGrow_nil (g id : Nat) (w : World) (hc : w.cell? ⟨g, 14, none⟩ = some (.slice none 0 0)) :
    Calls Tryz.prog 121 #[.pointer (some ⟨g, 0, none⟩), .int .i64 (id : Int)] w (SRet w (.int .i64 (id : Int))) := by
  go_enter Tryz.func121, Tryz.ntmps121
  go_wp2
  refine wp_loop_once ?_
  go_wp2
  go_ret
  exact ⟨rfl, rfl⟩
set_option maxRecDepth 100000 in
theorem entriesHold_nil (g id : Nat) (w : World) (hc : w.cell? ⟨g, 8, none⟩ = some (.slice none 0 0)) :
    Calls Tryz.prog 68 #[.pointer (some ⟨g, 0, none⟩), .int .i64 (id : Int)] w (SRet w (.tuple #[.int .i64 (id : Int), .bool true])) := by
  go_enter Tryz.func68, Tryz.ntmps68
  go_wp2
  refine wp_loop_once ?_
  go_wp2
  go_ret2
  exact ⟨rfl, rfl⟩
set_option maxRecDepth 100000 in
theorem eventsHold_nil (g id : Nat) (w : World) (hc : w.cell? ⟨g, 11, none⟩ = some (.slice none 0 0)) :
    Calls Tryz.prog 69 #[.pointer (some ⟨g, 0, none⟩), .int .i64 (id : Int)] w (SRet w (.tuple #[.int .i64 (id : Int), .bool true])) := by
  go_enter Tryz.func69, Tryz.ntmps69
  go_wp2
  refine wp_loop_once ?_
  go_wp2
  go_ret2
  exact ⟨rfl, rfl⟩
set_option maxRecDepth 100000 in
theorem flightsHold_nil (g id : Nat) (w : World) (hc : w.cell? ⟨g, 14, none⟩ = some (.slice none 0 0)) :
    Calls Tryz.prog 70 #[.pointer (some ⟨g, 0, none⟩), .int .i64 (id : Int)] w (SRet w (.tuple #[.int .i64 (id : Int), .bool true])) := by
  go_enter Tryz.func70, Tryz.ntmps70
  go_wp2
  refine wp_loop_once ?_
  go_wp2
  go_ret2
  exact ⟨rfl, rfl⟩
end Go.Proofs.YthnhfddlmkhgkaaGreatDoor

set_option linter.unusedVariables false
namespace Go.Proofs.YthnhfddlmkhgkaaGreatDoor
open Go.RowKit Go.Proofs.YthnhfddlmkhgkaaGreatDoorW.PrintWords

set_option maxHeartbeats 2000000 in
set_option maxRecDepth 100000 in
/-- bits in new memory -/
theorem keptBools_any (A : Option Addr) (l : List Bool) (c : Nat) (w : World) (h : ReadB w A l) (hl : l.length ≤ 1099511627776) :
    Calls Tryz.prog 62 #[.slice A l.length c] w (fun e w' => ∃ v, e = .returned v ∧ RowB w' w.heap.size v l ∧ Below w.heap.size w w') := by
  have HR := Lib.hid h
  clear h
  go_enter Tryz.func62, Tryz.ntmps62
  go_wp2
  go_loopw [3, 4] (fun v3 v4 wr => ∃ (i : Nat), v4 = .int .i64 (i : Int) ∧ i ≤ l.length ∧ RowB wr w.heap.size v3 (l.take i) ∧ Below w.heap.size w wr) (fun _ v4 _ => l.length - (intOf v4).toNat)
  case atStart => exact ⟨0, rfl, Nat.zero_le _, by simpa using Kd.R_nil _ _ _ _ _, Below.refl _ _⟩
  case round =>
    obtain ⟨i, rfl, hi, HO, HB⟩ := hrel
    by_cases hlt : i < l.length
    · obtain ⟨ad, hA, hcell⟩ := (HR.out.below HB).at_ i hlt
      obtain ⟨x, hx⟩ : ∃ x, x = l[i]'hlt := ⟨_, rfl⟩
      rw [← hx] at hcell
      have HT : Hid (l.take (i + 1) = l.take i ++ [x]) := Lib.hid (by rw [List.take_succ_eq_append_getElem hlt, hx])
      subst hA
      clear hx
      go_wp2_with (at_builtin; refine ap_b (W := wr) (base := w.heap.size) (w0 := w) (v := u3) (l := l.take i) (c := x) rfl rfl rfl rfl HO HB HB.size (by rw [List.length_take]; omega) ?_; intro v1 w1 HO1 HB1 j1 j2; clear j1 j2)
      go_roundw
      case rel => exact ⟨i + 1, by go_num, by omega, by rw [HT.out]; exact HO1, HB1⟩
      case measure => simp [intOf]; omega
    · go_wp2
      go_ret
      exact ⟨_, rfl, by rw [List.take_of_length_le (by omega)] at HO; exact HO, HB⟩
end Go.Proofs.YthnhfddlmkhgkaaGreatDoor

set_option linter.unusedVariables false
namespace Go.Proofs.YthnhfddlmkhgkaaGreatDoor
open Go.RowKit Go.Proofs.YthnhfddlmkhgkaaGreatDoorW.PrintWords

set_option maxHeartbeats 4000000 in
set_option maxRecDepth 100000 in
theorem keptSameBools_any (A1 A2 : Option Addr) (l1 l2 : List Bool) (c1 c2 : Nat) (w : World) (h1 : ReadB w A1 l1) (h2 : ReadB w A2 l2) (hl : l1.length ≤ 140737488355328) :
    Calls Tryz.prog 106 #[.slice A1 l1.length c1, .slice A2 l2.length c2] w (BRet w (.bool (decide (l1 = l2)))) := by
  have HR1 := Lib.hid h1
  have HR2 := Lib.hid h2
  clear h1 h2
  by_cases hlen : l1.length = l2.length
  · have T : ((l1.length : Int) != (l2.length : Int)) = false := by rw [bne_eq_false_iff_eq]; omega
    have HLEN := Lib.hid hlen
    go_enter Tryz.func106, Tryz.ntmps106
    clear hlen
    go_wp2
    go_loopw [5] (fun v13 wr => ∃ (i : Nat), v13 = .int .i64 (i : Int) ∧ i ≤ l1.length ∧ Hid (l1.take i = l2.take i) ∧ Below w.heap.size w wr) (fun v13 _ => l1.length - (intOf v13).toNat)
    case atStart => exact ⟨0, rfl, Nat.zero_le _, Lib.hid (by simp), Below.refl _ _⟩
    case round =>
      obtain ⟨i, rfl, hi, HQ, HB⟩ := hrel
      by_cases hlt : i < l1.length
      · have hlt2 : i < l2.length := by rw [← HLEN.out]; exact hlt
        obtain ⟨a1, hA1, hc1⟩ := (HR1.out.below HB).at_ i hlt
        obtain ⟨a2, hA2, hc2⟩ := (HR2.out.below HB).at_ i hlt2
        obtain ⟨x1, hx1⟩ : ∃ x, x = l1[i]'hlt := ⟨_, rfl⟩
        obtain ⟨x2, hx2⟩ : ∃ x, x = l2[i]'hlt2 := ⟨_, rfl⟩
        rw [← hx1] at hc1
        rw [← hx2] at hc2
        have hc1' : wr.drew.cell? (a1.add i) = some (.bool x1) := hc1
        have hc2' : wr.drew.cell? (a2.add i) = some (.bool x2) := hc2
        have q1 : (0 : Int) ≤ (i : Int) ∧ (i : Int) < (l1.length : Int) := ⟨by omega, by omega⟩
        have q2 : (0 : Int) ≤ (i : Int) ∧ (i : Int) < (l2.length : Int) := ⟨by omega, by omega⟩
        subst hA1
        subst hA2
        have HE : Hid ((x1 = x2 → l1.take (i + 1) = l2.take (i + 1)) ∧ (x1 ≠ x2 → l1 ≠ l2)) := Lib.hid ⟨fun e => take_eq_step HQ.out hlt hlt2 (by rw [← hx1, ← hx2, e]), fun e => ne_of_at hlt hlt2 (by rw [← hx1, ← hx2]; exact e)⟩
        clear hx1 hx2
        go_wp2
        refine region_mix [] [0, 1, 2, 3, 4, 5, 6, 7, 8] [] mixed (by kernel_rfl) (fun _ _ _ _ _ h => h) ?_
        simp only [pick, List.getElem?_cons_zero, List.getElem?_cons_succ]
        refine wpPre_nil ?_
        repeat still_step
        refine wpStill_nil ?_
        have HBd := Lib.hid HB.drew
        clear q1 q2 hc1 hc2 hc1' hc2' HB
        cases x1 <;> cases x2
        · go_wp2
          go_roundw
          case rel => exact ⟨i + 1, by go_num, by omega, Lib.hid (HE.out.1 rfl), HBd.out⟩
          case measure => simp [intOf]; omega
        · go_wp2
          go_ret
          exact ⟨ret_bool (by rw [decide_eq_false (HE.out.2 (by simp))]), HBd.out⟩
        · go_wp2
          go_ret
          exact ⟨ret_bool (by rw [decide_eq_false (HE.out.2 (by simp))]), HBd.out⟩
        · go_wp2
          go_roundw
          case rel => exact ⟨i + 1, by go_num, by omega, Lib.hid (HE.out.1 rfl), HBd.out⟩
          case measure => simp [intOf]; omega
      · go_wp2
        go_ret
        refine ⟨ret_bool ?_, HB⟩
        have h := HQ.out
        rw [List.take_of_length_le (by omega), List.take_of_length_le (by have := HLEN.out; omega)] at h
        rw [decide_eq_true h]
  · have T : ((l1.length : Int) != (l2.length : Int)) = true := by rw [bne_iff_ne]; omega
    have hne : Hid (l1 ≠ l2) := Lib.hid (fun e => hlen (by rw [e]))
    clear hlen
    go_enter Tryz.func106, Tryz.ntmps106
    go_wp2
    go_ret
    exact ⟨ret_bool (by rw [decide_eq_false hne.out]), Below.refl _ _⟩
set_option maxHeartbeats 8000000 in
set_option maxRecDepth 100000 in
theorem keptSameOp_any (a b : Sp.Op) (u1 u2 u3 v1 v2 v3 : Value) (w : World) (ha : OpV w a u1 u2 u3) (hb : OpV w b v1 v2 v3) (hl : a.data.length ≤ 140737488355328) (hl2 : a.keep.length ≤ 140737488355328) (hl3 : a.call.data.length ≤ 140737488355328) :
    Calls Tryz.prog 110 #[.agg (opCells a u1 u2 u3).toArray, .agg (opCells b v1 v2 v3).toArray] w (BRet w (.bool (decide (a = b)))) := by
  obtain ⟨hac, ⟨A2, j2, hu2, hra2⟩, A3, j3, hu3, hra3⟩ := ha
  obtain ⟨hbc, ⟨B2, k2, hv2, hrb2⟩, B3, k3, hv3, hrb3⟩ := hb
  obtain ⟨A1, j1, hu1, hra1⟩ := hac
  obtain ⟨B1, k1, hv1, hrb1⟩ := hbc
  obtain ⟨bc, hbc⟩ : ∃ x, x = decide (a.call = b.call) := ⟨_, rfl⟩
  obtain ⟨bd, hbd⟩ : ∃ x, x = decide (a.data = b.data) := ⟨_, rfl⟩
  obtain ⟨bk, hbk⟩ : ∃ x, x = decide (a.keep = b.keep) := ⟨_, rfl⟩
  have HC : Hid (∀ w1, Below w.heap.size w w1 → Calls Tryz.prog 27 #[.agg (callCells a.call u1).toArray, .agg (callCells b.call v1).toArray] w1 (BRet w1 (.bool bc))) := Lib.hid (fun w1 h => by
    rw [hbc]; exact sameCall_any a.call b.call u1 v1 w1 ⟨A1, j1, hu1, hra1.below h⟩ ⟨B1, k1, hv1, hrb1.below h⟩ hl3)
  have HD : Hid (∀ w1, Below w.heap.size w w1 → Calls Tryz.prog 35 #[u2, v2] w1 (BRet w1 (.bool bd))) := Lib.hid (fun w1 h => by
    rw [hbd, hu2, hv2]; exact sameBytes_any _ _ _ _ _ _ w1 (hra2.below h) (hrb2.below h) hl)
  have HK : Hid (∀ w1, Below w.heap.size w w1 → Calls Tryz.prog 106 #[u3, v3] w1 (BRet w1 (.bool bk))) := Lib.hid (fun w1 h => by
    rw [hbk, hu3, hv3]; exact keptSameBools_any _ _ _ _ _ _ w1 (hra3.below h) (hrb3.below h) hl2)
  have HPP := Lib.hid (And.intro hbc (And.intro hbd hbk))
  obtain ⟨r, hr⟩ : ∃ r, r = decide (a = b) := ⟨_, rfl⟩
  rw [← hr]
  have HR := Lib.hid hr
  have HB0 := Lib.hid (obox2_below w a b u1 u2 u3 v1 v2 v3)
  have HRW := Lib.hid (obox2_rows w a b u1 u2 u3 v1 v2 v3)
  clear hr hbc hbd hbk hra1 hra2 hra3 hrb1 hrb2 hrb3 hl hl2 hl3 hu1 hu2 hu3 hv1 hv2 hv3
  show Calls Tryz.prog 110 #[.agg #[.int .i64 a.kind, .int .i64 a.a, .int .i64 a.k, .int .i64 a.m, .int .i64 a.x, .int .i64 a.call.op, .int .i64 a.call.h, .int .i64 a.call.h2, .int .i64 a.call.off, .int .i64 a.call.len, .string (str a.call.path), .string (str a.call.name), .string (str a.call.name2), u1, u2, u3], .agg #[.int .i64 b.kind, .int .i64 b.a, .int .i64 b.k, .int .i64 b.m, .int .i64 b.x, .int .i64 b.call.op, .int .i64 b.call.h, .int .i64 b.call.h2, .int .i64 b.call.off, .int .i64 b.call.len, .string (str b.call.path), .string (str b.call.name), .string (str b.call.name2), v1, v2, v3]] w _
  go_enter Tryz.func110, Tryz.ntmps110
  go_wp2_with (first | (go_at_call 27; refine (HC.out (obox2 w a b u1 u2 u3 v1 v2 v3) HB0.out).mono ?_; rintro e w1 ⟨rfl, hb1⟩; obtain ⟨x0, x1, x2, x3, x4, x5, x6⟩ := op_cells ((hb1.block _ (row_lt HRW.out.1)).trans HRW.out.1); obtain ⟨y0, y1, y2, y3, y4, y5, y6⟩ := op_cells ((hb1.block _ (row_lt HRW.out.2)).trans HRW.out.2); have HB1 := Lib.hid (HB0.out.trans (hb1.mono HB0.out.size)); have R1 := Lib.hid (And.intro ((hb1.block _ (row_lt HRW.out.1)).trans HRW.out.1) ((hb1.block _ (row_lt HRW.out.2)).trans HRW.out.2)); clear hb1)  | (go_at_call 35; refine (HD.out w1 HB1.out).mono ?_; rintro e w2 ⟨rfl, hb2⟩; obtain ⟨s0, s1, s2, s3, s4, s5, s6⟩ := op_cells ((hb2.block _ (row_lt R1.out.1)).trans R1.out.1); obtain ⟨t0, t1, t2, t3, t4, t5, t6⟩ := op_cells ((hb2.block _ (row_lt R1.out.2)).trans R1.out.2); have HB2 := Lib.hid (HB1.out.trans (hb2.mono HB1.out.size)); have R2 := Lib.hid (And.intro ((hb2.block _ (row_lt R1.out.1)).trans R1.out.1) ((hb2.block _ (row_lt R1.out.2)).trans R1.out.2)); clear hb2 x0 x1 x2 x3 x4 x5 x6 y0 y1 y2 y3 y4 y5 y6)  | (go_at_call 106; refine (HK.out w2 HB2.out).mono ?_; rintro e w3 ⟨rfl, hb3⟩; obtain ⟨x0, x1, x2, x3, x4, x5, x6⟩ := op_cells ((hb3.block _ (row_lt R2.out.1)).trans R2.out.1); obtain ⟨y0, y1, y2, y3, y4, y5, y6⟩ := op_cells ((hb3.block _ (row_lt R2.out.2)).trans R2.out.2); have HB3 := Lib.hid (HB2.out.trans (hb3.mono HB2.out.size)); clear hb3 s0 s1 s2 s3 s4 s5 s6 t0 t1 t2 t3 t4 t5 t6))
  all_goals go_ret
  all_goals (refine ⟨ret_bool ?_, HB3.out⟩; have hce := decide_eq_true_iff.trans (op_ext a b); rw [HR.out, Bool.eq_iff_iff]; refine Iff.trans ?_ hce.symm; clear hce HR HC HD HK x0 x1 x2 x3 x4 x5 x6 y0 y1 y2 y3 y4 y5 y6)
  all_goals (obtain ⟨p1, p2, p3⟩ := HPP.out; clear HPP; subst p1 p2 p3; simp_all)
end Go.Proofs.YthnhfddlmkhgkaaGreatDoor

set_option linter.unusedVariables false
namespace Go.Proofs.YthnhfddlmkhgkaaGreatDoor
open Go.RowKit Go.Proofs.YthnhfddlmkhgkaaGreatDoorW.PrintWords

set_option maxHeartbeats 4000000 in
set_option maxRecDepth 100000 in
theorem opsShow_any (g ps id n c : Nat) (A : Option Addr) (w : World) (hc : w.cell? ⟨g, 1, none⟩ = some (.int .i64 (ps : Int))) (hi : id ≤ 1099511627776) (hn : n ≤ 1099511627776) (hp : ps ≤ 1) (hr : ReadO w A (Sp.opMs ps id n)) :
    Calls Tryz.prog 128 #[.pointer (some ⟨g, 0, none⟩), .slice A n c, .int .i64 (id : Int)] w (BRet w (.bool true)) := by
  have HR := Lib.hid hr
  have HC := Lib.hid hc
  clear hr hc
  go_enter Tryz.func128, Tryz.ntmps128
  go_wp2
  go_loopw [7] (fun v7 wr => ∃ (j : Nat), v7 = .int .i64 (j : Int) ∧ j ≤ n ∧ Below w.heap.size w wr) (fun v7 _ => n - (intOf v7).toNat)
  case atStart => exact ⟨0, rfl, Nat.zero_le _, Below.refl _ _⟩
  case round =>
    obtain ⟨j, rfl, hj, HB⟩ := hrel
    by_cases hlt : j < n
    · obtain ⟨ad, s1, s2, s3, hA, hOV, hCC⟩ := (HR.out.below HB).at_ j (by rw [Sp.opMs_len]; exact hlt)
      rw [Sp.opMs_at] at hOV hCC
      obtain ⟨M, hM⟩ : ∃ M, M = Sp.opM ps id j := ⟨_, rfl⟩
      rw [← hM] at hOV hCC
      have H159 : Hid (Calls Tryz.prog 159 #[.pointer (some ⟨g, 0, none⟩), .int .i64 (id : Int), .int .i64 (j : Int)] wr (BRet wr (.agg (opCells M (.slice none 0 0) (.slice none 0 0) (.slice none 0 0)).toArray))) := Lib.hid (by
        rw [hM]; exact opMark_any g ps id j wr (pw_cell_below HB HC.out) hi (by omega) hp)
      have HD : Hid (M.data = [] ∧ M.keep = [] ∧ M.call.data = []) := Lib.hid (by rw [hM]; exact ⟨rfl, rfl, rfl⟩)
      have HOV := Lib.hid hOV
      have HCC := Lib.hid hCC
      clear hM hOV hCC
      subst hA
      have q2 : (0 : Int) ≤ (j : Int) ∧ (j : Int) < (n : Int) := ⟨by omega, by omega⟩
      have hone : ((opCells M (.slice none 0 0) (.slice none 0 0) (.slice none 0 0)).toArray.all (·.oneCell')) = true := by rw [List.all_toArray]; exact List.all_eq_true.2 (opCells_one M rfl rfl rfl)
      go_upto_region 5 with (first | (go_at_call 159; refine H159.out.mono ?_; rintro e w1 ⟨rfl, hb1⟩; have HB1 := Lib.hid hb1; clear hb1) | (refine wpList_store_row rfl 80 (.tmp 8) (.tmp 19) rfl w1.heap.size (opCells M (.slice none 0 0) (.slice none 0 0) (.slice none 0 0)).toArray rfl rfl 80 _ (heap_alloc_new w1 _) (by kernel_rfl) rfl hone ?_; rw [World.setRow_alloc_new]))
      obtain ⟨W5, hW5⟩ : ∃ W5, W5 = w1.alloc (.cells (opCells M (.slice none 0 0) (.slice none 0 0) (.slice none 0 0)).toArray 80) := ⟨_, rfl⟩
      rw [← hW5]
      have hr5 : W5.heap[w1.heap.size]? = some (.cells (opCells M (.slice none 0 0) (.slice none 0 0) (.slice none 0 0)).toArray 80 (0, 0)) := by rw [hW5]; exact heap_alloc_new w1 _
      have hb5 : Below wr.heap.size wr W5 := by rw [hW5]; exact HB1.out.alloc HB1.out.size _
      have HB5 := Lib.hid hb5.drew
      have HCA : Hid (∀ (i : Nat) (v : Value), (opCells M s1 s2 s3)[i]? = some v → W5.drew.cell? ((ad.add (j * 16)).add i) = some v) := Lib.hid (fun i v hv => pw_cell_below hb5.drew (HCC.out i v hv))
      have HCB : Hid (∀ (i : Nat) (v : Value), (opCells M (.slice none 0 0) (.slice none 0 0) (.slice none 0 0))[i]? = some v → W5.drew.cell? ((⟨w1.heap.size, 0, none⟩ : Addr).add i) = some v) := Lib.hid (row_cells (w := W5.drew) hr5)
      have H110 : Hid (Calls Tryz.prog 110 #[.agg (opCells M s1 s2 s3).toArray, .agg (opCells M (.slice none 0 0) (.slice none 0 0) (.slice none 0 0)).toArray] W5.drew (BRet W5.drew (.bool true))) := Lib.hid (by
        obtain ⟨d1, d2, d3⟩ := HD.out
        obtain ⟨⟨x1, y1, e1, r1⟩, ⟨x2, y2, e2, r2⟩, x3, y3, e3, r3⟩ := HOV.out
        have h := keptSameOp_any M M s1 s2 s3 (.slice none 0 0) (.slice none 0 0) (.slice none 0 0) W5.drew ⟨⟨x1, y1, e1, r1.below hb5.drew⟩, ⟨x2, y2, e2, r2.below hb5.drew⟩, x3, y3, e3, r3.below hb5.drew⟩
          ⟨⟨none, 0, by rw [d3]; rfl, by rw [d3]; exact ⟨rfl, by simp, fun h => absurd h (by simp)⟩⟩, ⟨none, 0, by rw [d1]; rfl, by rw [d1]; exact ⟨rfl, by simp, fun h => absurd h (by simp)⟩⟩, none, 0, by rw [d2]; rfl, by rw [d2]; exact ⟨rfl, by simp, fun h => absurd h (by simp)⟩⟩
          (by rw [d1]; simp) (by rw [d2]; simp) (by rw [d3]; simp)
        rw [decide_eq_true rfl] at h
        exact h)
      clear hW5 hr5 hb5 hone
      refine region_mix [] [0, 1, 2, 3, 4] [5, 6] mixed (by kernel_rfl) (fun _ _ _ _ _ h => h) ?_
      simp only [pick, List.getElem?_cons_zero, List.getElem?_cons_succ]
      refine wpPre_nil ?_
      iterate 3 still_step
      refine still_load_any rfl 80 _ rfl (ad.add (j * 16)) rfl _ _ HCA.out Tryz.underlying80 rfl (by kernel_rfl) ?_
      refine still_load_any rfl 80 _ rfl ⟨w1.heap.size, 0, none⟩ rfl _ _ HCB.out Tryz.underlying80 rfl (by kernel_rfl) ?_
      refine wpStill_nil ?_
      go_wp2_with (go_at_call 110; refine H110.out.mono ?_; rintro e w6 ⟨rfl, hb6⟩)
      go_roundw
      case rel => exact ⟨j + 1, by go_num, by omega, HB.trans ((HB5.out.trans (hb6.mono HB5.out.size)).mono HB.size)⟩
      case measure => simp [intOf]; omega
    · go_wp2
      go_ret
      exact ⟨rfl, HB⟩
end Go.Proofs.YthnhfddlmkhgkaaGreatDoor

set_option linter.unusedVariables false
namespace Go.Proofs.YthnhfddlmkhgkaaGreatDoor
open Go.RowKit Go.Proofs.YthnhfddlmkhgkaaGreatDoorW.PrintWords

/-- a list of bytes that bears the marks of that number -/
def MarkedU (w : World) (ps id : Nat) (v : Value) : Prop := ∃ A n c, v = .slice A n c ∧ n ≤ 1099511627776 ∧ ReadU w A (Sp.byteMs ps id n)
set_option maxHeartbeats 4000000 in
set_option maxRecDepth 100000 in
theorem bytesHold_any (g base ps id : Nat) (A2 A4 : Option Addr) (c2 c4 : Nat) (vs gs : List Value) (bx : Array Value) (w : World) (hg : w.heap[g]? = some (.cells bx 71 (0, 0))) (h1 : bx[1]? = some (.int .i64 (ps : Int))) (h2 : bx[2]? = some (.slice A2 vs.length c2)) (h4 : bx[4]? = some (.slice A4 gs.length c4))
    (hr : ORow 45 w base (.slice A2 vs.length c2) vs) (hr4 : ORow 45 w base (.slice A4 gs.length c4) gs) (hv : ∀ (j : Nat) (v : Value), vs[j]? = some v → MarkedU w ps (id + j + 1) v) (hv4 : ∀ (j : Nat) (v : Value), gs[j]? = some v → MarkedU w ps (id + j + 1) v) (hid : id + vs.length ≤ 1099511627776) :
    Calls Tryz.prog 66 #[.pointer (some ⟨g, 0, none⟩), .int .i64 (id : Int)] w (SRet w (.tuple #[.int .i64 ((id : Int) + vs.length), .bool true])) := by
  have hx1 : w.cell? ⟨g, 1, none⟩ = some (.int .i64 (ps : Int)) := by rw [cell_of_row _ _ _ _ _ _ hg]; exact h1
  have hx2 : w.cell? ⟨g, 2, none⟩ = some (.slice A2 vs.length c2) := by rw [cell_of_row _ _ _ _ _ _ hg]; exact h2
  have hx4 : w.cell? ⟨g, 4, none⟩ = some (.slice A4 gs.length c4) := by rw [cell_of_row _ _ _ _ _ _ hg]; exact h4
  have HS : Hid (∀ (i : Nat) (v : Value), i < vs.length → MarkedU w ps (id + i + 1) v → Calls Tryz.prog 123 #[.pointer (some ⟨g, 0, none⟩), v, .int .i64 ((id : Int) + i + 1)] w (SRet w (.bool true))) := Lib.hid (fun i v hi hm => by
    obtain ⟨A, n, c, rfl, hn, hrd⟩ := hm
    have h := bytesShow_any g ps (id + i + 1) n c A w hx1 (by omega) hn hrd
    rwa [show ((id + i + 1 : Nat) : Int) = (id : Int) + i + 1 by omega] at h)
  have HR := Lib.hid hr
  have HR4 := Lib.hid hr4
  have HV := Lib.hid hv
  have HV4 := Lib.hid hv4
  clear hg h1 h2 h4 hr hr4 hv hv4 hx1
  go_enter Tryz.func66, Tryz.ntmps66
  go_wp2
  go_loopw [1, 6, 7] (fun v1 v6 v7 wr => ∃ (i : Nat), v1 = .int .i64 ((id : Int) + i) ∧ v6 = .bool true ∧ v7 = .int .i64 (i : Int) ∧ i ≤ vs.length ∧ w = wr) (fun _ _ v7 _ => vs.length - (intOf v7).toNat)
  case atStart => exact ⟨0, by simp, rfl, rfl, Nat.zero_le _, rfl⟩
  case round =>
    obtain ⟨i, rfl, rfl, rfl, hi, rfl⟩ := hrel
    by_cases hlt : i < vs.length
    · obtain ⟨b2, hA2, _, _, hcell, _⟩ := HR.out.at_ i hlt
      obtain ⟨v, hv⟩ : ∃ v, v = vs[i]'hlt := ⟨_, rfl⟩
      have HC1 := Lib.hid (HS.out i v hlt (HV.out i v (by rw [hv]; exact List.getElem?_eq_getElem hlt)))
      obtain ⟨Av, nv, cv, hve, _, _⟩ := HV.out i v (by rw [hv]; exact List.getElem?_eq_getElem hlt)
      rw [← hv, hve] at hcell
      rw [hve] at HC1
      clear hv hve
      subst hA2
      have q2 : (0 : Int) ≤ (i : Int) ∧ (i : Int) < (vs.length : Int) := ⟨by omega, by omega⟩
      by_cases hlt4 : i < gs.length
      · obtain ⟨b4, hA4, _, _, hcell4, _⟩ := HR4.out.at_ i hlt4
        obtain ⟨v4, hv4⟩ : ∃ v, v = gs[i]'hlt4 := ⟨_, rfl⟩
        have HC4 := Lib.hid (HS.out i v4 hlt (HV4.out i v4 (by rw [hv4]; exact List.getElem?_eq_getElem hlt4)))
        obtain ⟨Av4, nv4, cv4, hve4, _, _⟩ := HV4.out i v4 (by rw [hv4]; exact List.getElem?_eq_getElem hlt4)
        rw [← hv4, hve4] at hcell4
        rw [hve4] at HC4
        clear hv4 hve4
        subst hA4
        have q4 : (0 : Int) ≤ (i : Int) ∧ (i : Int) < (gs.length : Int) := ⟨by omega, by omega⟩
        go_wp2_with (first | (go_at_call 123; ((with_reducible refine HC1.out.mono ?_); rintro e w1 ⟨rfl, rfl⟩)) | (go_at_call 123; ((with_reducible refine HC4.out.mono ?_); rintro e w1 ⟨rfl, rfl⟩)))
        go_roundw
        case rel => exact ⟨i + 1, congrArg (Value.int .i64) (by omega), rfl, by go_num, by omega, trivial⟩
        case measure => simp [intOf]; omega
      · go_wp2_with (go_at_call 123; ((with_reducible refine HC1.out.mono ?_); rintro e w1 ⟨rfl, rfl⟩))
        go_roundw
        case rel => exact ⟨i + 1, congrArg (Value.int .i64) (by omega), rfl, by go_num, by omega, trivial⟩
        case measure => simp [intOf]; omega
    · have e : i = vs.length := by omega
      go_wp2
      go_ret2
      subst e
      exact ⟨rfl, rfl⟩
end Go.Proofs.YthnhfddlmkhgkaaGreatDoor

set_option linter.unusedVariables false
namespace Go.Proofs.YthnhfddlmkhgkaaGreatDoor
open Go.RowKit Go.Proofs.YthnhfddlmkhgkaaGreatDoorW.PrintWords

/-- a list of bits that bears the marks of that number -/
def MarkedB (w : World) (ps id : Nat) (v : Value) : Prop := ∃ A n c, v = .slice A n c ∧ n ≤ 1099511627776 ∧ ReadB w A (Sp.boolMs ps id n)
set_option maxHeartbeats 4000000 in
set_option maxRecDepth 100000 in
theorem boolsHold_any (g base ps id : Nat) (A2 A4 : Option Addr) (c2 c4 : Nat) (vs gs : List Value) (bx : Array Value) (w : World) (hg : w.heap[g]? = some (.cells bx 71 (0, 0))) (h1 : bx[1]? = some (.int .i64 (ps : Int))) (h2 : bx[5]? = some (.slice A2 vs.length c2)) (h4 : bx[7]? = some (.slice A4 gs.length c4))
    (hr : ORow 78 w base (.slice A2 vs.length c2) vs) (hr4 : ORow 78 w base (.slice A4 gs.length c4) gs) (hv : ∀ (j : Nat) (v : Value), vs[j]? = some v → MarkedB w ps (id + j + 1) v) (hv4 : ∀ (j : Nat) (v : Value), gs[j]? = some v → MarkedB w ps (id + j + 1) v) (hid : id + vs.length ≤ 1099511627776) (hps : ps ≤ 1) :
    Calls Tryz.prog 67 #[.pointer (some ⟨g, 0, none⟩), .int .i64 (id : Int)] w (SRet w (.tuple #[.int .i64 ((id : Int) + vs.length), .bool true])) := by
  have hx1 : w.cell? ⟨g, 1, none⟩ = some (.int .i64 (ps : Int)) := by rw [cell_of_row _ _ _ _ _ _ hg]; exact h1
  have hx2 : w.cell? ⟨g, 5, none⟩ = some (.slice A2 vs.length c2) := by rw [cell_of_row _ _ _ _ _ _ hg]; exact h2
  have hx4 : w.cell? ⟨g, 7, none⟩ = some (.slice A4 gs.length c4) := by rw [cell_of_row _ _ _ _ _ _ hg]; exact h4
  have HS : Hid (∀ (i : Nat) (v : Value), i < vs.length → MarkedB w ps (id + i + 1) v → Calls Tryz.prog 124 #[.pointer (some ⟨g, 0, none⟩), v, .int .i64 ((id : Int) + i + 1)] w (SRet w (.bool true))) := Lib.hid (fun i v hi hm => by
    obtain ⟨A, n, c, rfl, hn, hrd⟩ := hm
    have h := boolsShow_any g ps (id + i + 1) n c A w hx1 (by omega) hn hps hrd
    rwa [show ((id + i + 1 : Nat) : Int) = (id : Int) + i + 1 by omega] at h)
  have HR := Lib.hid hr
  have HR4 := Lib.hid hr4
  have HV := Lib.hid hv
  have HV4 := Lib.hid hv4
  clear hg h1 h2 h4 hr hr4 hv hv4 hx1
  go_enter Tryz.func67, Tryz.ntmps67
  go_wp2
  go_loopw [1, 6, 7] (fun v1 v6 v7 wr => ∃ (i : Nat), v1 = .int .i64 ((id : Int) + i) ∧ v6 = .bool true ∧ v7 = .int .i64 (i : Int) ∧ i ≤ vs.length ∧ w = wr) (fun _ _ v7 _ => vs.length - (intOf v7).toNat)
  case atStart => exact ⟨0, by simp, rfl, rfl, Nat.zero_le _, rfl⟩
  case round =>
    obtain ⟨i, rfl, rfl, rfl, hi, rfl⟩ := hrel
    by_cases hlt : i < vs.length
    · obtain ⟨b2, hA2, _, _, hcell, _⟩ := HR.out.at_ i hlt
      obtain ⟨v, hv⟩ : ∃ v, v = vs[i]'hlt := ⟨_, rfl⟩
      have HC1 := Lib.hid (HS.out i v hlt (HV.out i v (by rw [hv]; exact List.getElem?_eq_getElem hlt)))
      obtain ⟨Av, nv, cv, hve, _, _⟩ := HV.out i v (by rw [hv]; exact List.getElem?_eq_getElem hlt)
      rw [← hv, hve] at hcell
      rw [hve] at HC1
      clear hv hve
      subst hA2
      have q2 : (0 : Int) ≤ (i : Int) ∧ (i : Int) < (vs.length : Int) := ⟨by omega, by omega⟩
      by_cases hlt4 : i < gs.length
      · obtain ⟨b4, hA4, _, _, hcell4, _⟩ := HR4.out.at_ i hlt4
        obtain ⟨v4, hv4⟩ : ∃ v, v = gs[i]'hlt4 := ⟨_, rfl⟩
        have HC4 := Lib.hid (HS.out i v4 hlt (HV4.out i v4 (by rw [hv4]; exact List.getElem?_eq_getElem hlt4)))
        obtain ⟨Av4, nv4, cv4, hve4, _, _⟩ := HV4.out i v4 (by rw [hv4]; exact List.getElem?_eq_getElem hlt4)
        rw [← hv4, hve4] at hcell4
        rw [hve4] at HC4
        clear hv4 hve4
        subst hA4
        have q4 : (0 : Int) ≤ (i : Int) ∧ (i : Int) < (gs.length : Int) := ⟨by omega, by omega⟩
        go_wp2_with (first | (go_at_call 124; ((with_reducible refine HC1.out.mono ?_); rintro e w1 ⟨rfl, rfl⟩)) | (go_at_call 124; ((with_reducible refine HC4.out.mono ?_); rintro e w1 ⟨rfl, rfl⟩)))
        go_roundw
        case rel => exact ⟨i + 1, congrArg (Value.int .i64) (by omega), rfl, by go_num, by omega, trivial⟩
        case measure => simp [intOf]; omega
      · go_wp2_with (go_at_call 124; ((with_reducible refine HC1.out.mono ?_); rintro e w1 ⟨rfl, rfl⟩))
        go_roundw
        case rel => exact ⟨i + 1, congrArg (Value.int .i64) (by omega), rfl, by go_num, by omega, trivial⟩
        case measure => simp [intOf]; omega
    · have e : i = vs.length := by omega
      go_wp2
      go_ret2
      subst e
      exact ⟨rfl, rfl⟩
end Go.Proofs.YthnhfddlmkhgkaaGreatDoor

set_option linter.unusedVariables false
namespace Go.Proofs.YthnhfddlmkhgkaaGreatDoor
open Go.RowKit Go.Proofs.YthnhfddlmkhgkaaGreatDoorW.PrintWords

/-- a list of steps that bears the marks of that number -/
def MarkedO (w : World) (ps id : Nat) (v : Value) : Prop := ∃ A n c, v = .slice A n c ∧ n ≤ 1099511627776 ∧ ReadO w A (Sp.opMs ps id n)
set_option maxHeartbeats 4000000 in
set_option maxRecDepth 100000 in
theorem opsHold_any (g base ps id : Nat) (A2 A4 : Option Addr) (c2 c4 : Nat) (vs gs : List Value) (bx : Array Value) (w : World) (hg : w.heap[g]? = some (.cells bx 71 (0, 0))) (h1 : bx[1]? = some (.int .i64 (ps : Int))) (h2 : bx[17]? = some (.slice A2 vs.length c2)) (h4 : bx[19]? = some (.slice A4 gs.length c4))
    (hr : ORow 26 w base (.slice A2 vs.length c2) vs) (hr4 : ORow 26 w base (.slice A4 gs.length c4) gs) (hv : ∀ (j : Nat) (v : Value), vs[j]? = some v → MarkedO w ps (id + j + 1) v) (hv4 : ∀ (j : Nat) (v : Value), gs[j]? = some v → MarkedO w ps (id + j + 1) v) (hid : id + vs.length ≤ 1099511627776) (hps : ps ≤ 1) :
    Calls Tryz.prog 71 #[.pointer (some ⟨g, 0, none⟩), .int .i64 (id : Int)] w (BRet w (.tuple #[.int .i64 ((id : Int) + vs.length), .bool true])) := by
  have hx1 : w.cell? ⟨g, 1, none⟩ = some (.int .i64 (ps : Int)) := by rw [cell_of_row _ _ _ _ _ _ hg]; exact h1
  have hx2 : w.cell? ⟨g, 17, none⟩ = some (.slice A2 vs.length c2) := by rw [cell_of_row _ _ _ _ _ _ hg]; exact h2
  have hx4 : w.cell? ⟨g, 19, none⟩ = some (.slice A4 gs.length c4) := by rw [cell_of_row _ _ _ _ _ _ hg]; exact h4
  have HS : Hid (∀ (i : Nat) (v : Value), i < vs.length → MarkedO w ps (id + i + 1) v → ∀ wr, Below w.heap.size w wr → Calls Tryz.prog 128 #[.pointer (some ⟨g, 0, none⟩), v, .int .i64 ((id : Int) + i + 1)] wr (BRet wr (.bool true))) := Lib.hid (fun i v hi hm wr hb => by
    obtain ⟨A, n, c, rfl, hn, hrd⟩ := hm
    have h := opsShow_any g ps (id + i + 1) n c A wr (pw_cell_below hb hx1) (by omega) hn hps (hrd.below hb)
    rwa [show ((id + i + 1 : Nat) : Int) = (id : Int) + i + 1 by omega] at h)
  have HR := Lib.hid hr
  have HR4 := Lib.hid hr4
  have HV := Lib.hid hv
  have HV4 := Lib.hid hv4
  have HX := Lib.hid (And.intro hx2 hx4)
  clear hg h1 h2 h4 hr hr4 hv hv4 hx1
  go_enter Tryz.func71, Tryz.ntmps71
  go_wp2
  go_loopw [1, 6, 7] (fun v1 v6 v7 wr => ∃ (i : Nat), v1 = .int .i64 ((id : Int) + i) ∧ v6 = .bool true ∧ v7 = .int .i64 (i : Int) ∧ i ≤ vs.length ∧ Below w.heap.size w wr) (fun _ _ v7 _ => vs.length - (intOf v7).toNat)
  case atStart => exact ⟨0, by simp, rfl, rfl, Nat.zero_le _, Below.refl _ _⟩
  case round =>
    obtain ⟨i, rfl, rfl, rfl, hi, HB⟩ := hrel
    clear hx2 hx4
    have hx2 := pw_cell_below HB HX.out.1
    have hx4 := pw_cell_below HB HX.out.2
    by_cases hlt : i < vs.length
    · obtain ⟨b2, hA2, _, _, hcell, _⟩ := (HR.out.below HB).at_ i hlt
      obtain ⟨v, hv⟩ : ∃ v, v = vs[i]'hlt := ⟨_, rfl⟩
      have HC1 := Lib.hid (HS.out i v hlt (HV.out i v (by rw [hv]; exact List.getElem?_eq_getElem hlt)) wr HB)
      obtain ⟨Av, nv, cv, hve, _, _⟩ := HV.out i v (by rw [hv]; exact List.getElem?_eq_getElem hlt)
      rw [← hv, hve] at hcell
      rw [hve] at HC1
      clear hv hve
      subst hA2
      have q2 : (0 : Int) ≤ (i : Int) ∧ (i : Int) < (vs.length : Int) := ⟨by omega, by omega⟩
      by_cases hlt4 : i < gs.length
      · obtain ⟨b4, hA4, _, _, hcell4, _⟩ := (HR4.out.below HB).at_ i hlt4
        obtain ⟨v4, hv4⟩ : ∃ v, v = gs[i]'hlt4 := ⟨_, rfl⟩
        have HC4 := Lib.hid (HS.out i v4 hlt (HV4.out i v4 (by rw [hv4]; exact List.getElem?_eq_getElem hlt4)))
        obtain ⟨Av4, nv4, cv4, hve4, _, _⟩ := HV4.out i v4 (by rw [hv4]; exact List.getElem?_eq_getElem hlt4)
        rw [← hv4, hve4] at hcell4
        rw [hve4] at HC4
        clear hv4 hve4
        subst hA4
        have q4 : (0 : Int) ≤ (i : Int) ∧ (i : Int) < (gs.length : Int) := ⟨by omega, by omega⟩
        go_wp2_with (first | (go_at_call 128; ((with_reducible refine HC1.out.mono ?_); rintro e w1 ⟨rfl, hb1⟩; have hx2b := pw_cell_below hb1 hx2; have hx4b := pw_cell_below hb1 hx4; have hc4b := pw_cell_below hb1 hcell4)) | (go_at_call 128; ((with_reducible refine (HC4.out w1 (HB.trans (hb1.mono HB.size))).mono ?_); rintro e w2 ⟨rfl, hb2⟩)))
        go_roundw
        case rel => exact ⟨i + 1, congrArg (Value.int .i64) (by omega), rfl, by go_num, by omega, (HB.trans (hb1.mono HB.size)).trans (hb2.mono (Nat.le_trans HB.size hb1.size))⟩
        case measure => simp [intOf]; omega
      · go_wp2_with (go_at_call 128; ((with_reducible refine HC1.out.mono ?_); rintro e w1 ⟨rfl, hb1⟩; have hx2b := pw_cell_below hb1 hx2; have hx4b := pw_cell_below hb1 hx4))
        go_roundw
        case rel => exact ⟨i + 1, congrArg (Value.int .i64) (by omega), rfl, by go_num, by omega, HB.trans (hb1.mono HB.size)⟩
        case measure => simp [intOf]; omega
    · have e : i = vs.length := by omega
      go_wp2
      go_ret2
      subst e
      exact ⟨rfl, HB⟩
end Go.Proofs.YthnhfddlmkhgkaaGreatDoor

set_option linter.unusedVariables false
namespace Go.Proofs.YthnhfddlmkhgkaaGreatDoor
open Go.RowKit Go.Proofs.YthnhfddlmkhgkaaGreatDoorW.PrintWords

set_option maxHeartbeats 4000000 in
set_option maxRecDepth 100000 in
theorem holds_of (g i0 i1 i2 i3 : Nat) (w : World) (hc : w.cell? ⟨g, 0, none⟩ = some (.int .i64 (i0 : Int))) (h8 : w.cell? ⟨g, 8, none⟩ = some (.slice none 0 0)) (h11 : w.cell? ⟨g, 11, none⟩ = some (.slice none 0 0)) (h14 : w.cell? ⟨g, 14, none⟩ = some (.slice none 0 0))
    (h66 : Calls Tryz.prog 66 #[.pointer (some ⟨g, 0, none⟩), .int .i64 (i0 : Int)] w (SRet w (.tuple #[.int .i64 (i1 : Int), .bool true])))
    (h67 : Calls Tryz.prog 67 #[.pointer (some ⟨g, 0, none⟩), .int .i64 (i1 : Int)] w (SRet w (.tuple #[.int .i64 (i2 : Int), .bool true])))
    (h71 : Calls Tryz.prog 71 #[.pointer (some ⟨g, 0, none⟩), .int .i64 (i2 : Int)] w (BRet w (.tuple #[.int .i64 (i3 : Int), .bool true]))) :
    Calls Tryz.prog 33 #[.pointer (some ⟨g, 0, none⟩)] w (BRet w (.bool true)) := by
  have H66 := Lib.hid h66
  have H67 := Lib.hid h67
  have H71 := Lib.hid h71
  have H68 := Lib.hid (entriesHold_nil g i2 w h8)
  have H69 := Lib.hid (eventsHold_nil g i2 w h11)
  have H70 := Lib.hid (flightsHold_nil g i2 w h14)
  clear h66 h67 h71 h8 h11 h14
  go_enter Tryz.func33, Tryz.ntmps33
  go_wp2_with (first
    | (go_at_call 66; refine H66.out.mono ?_; rintro e w1 ⟨rfl, rfl⟩)
    | (go_at_call 67; refine H67.out.mono ?_; rintro e w1 ⟨rfl, rfl⟩)
    | (go_at_call 68; refine H68.out.mono ?_; rintro e w1 ⟨rfl, rfl⟩)
    | (go_at_call 69; refine H69.out.mono ?_; rintro e w1 ⟨rfl, rfl⟩)
    | (go_at_call 70; refine H70.out.mono ?_; rintro e w1 ⟨rfl, rfl⟩)
    | (go_at_call 71; refine H71.out.mono ?_; rintro e w1 ⟨rfl, hb1⟩))
  go_ret
  exact ⟨rfl, hb1⟩
end Go.Proofs.YthnhfddlmkhgkaaGreatDoor

set_option linter.unusedVariables false
namespace Go.Proofs.YthnhfddlmkhgkaaGreatDoor
open Go.RowKit Go.Proofs.YthnhfddlmkhgkaaGreatDoorW.PrintWords

set_option maxHeartbeats 4000000 in
set_option maxRecDepth 100000 in
theorem write_of (g i0 i1 i2 i3 : Nat) (P1 P2 P3 : World → Prop) (w : World) (hc : w.cell? ⟨g, 0, none⟩ = some (.int .i64 (i0 : Int))) (hn : ∀ w', P2 w' → w'.cell? ⟨g, 8, none⟩ = some (.slice none 0 0) ∧ w'.cell? ⟨g, 11, none⟩ = some (.slice none 0 0) ∧ w'.cell? ⟨g, 14, none⟩ = some (.slice none 0 0))
    (h1 : Calls Tryz.prog 111 #[.pointer (some ⟨g, 0, none⟩), .int .i64 (i0 : Int)] w (fun e w' => e = .returned (.int .i64 (i1 : Int)) ∧ P1 w'))
    (h2 : ∀ w', P1 w' → Calls Tryz.prog 112 #[.pointer (some ⟨g, 0, none⟩), .int .i64 (i1 : Int)] w' (fun e w'' => e = .returned (.int .i64 (i2 : Int)) ∧ P2 w''))
    (h3 : ∀ w', P2 w' → Calls Tryz.prog 116 #[.pointer (some ⟨g, 0, none⟩), .int .i64 (i2 : Int)] w' (fun e w'' => e = .returned (.int .i64 (i3 : Int)) ∧ P3 w'')) :
    Calls Tryz.prog 64 #[.pointer (some ⟨g, 0, none⟩)] w (fun e w' => (∃ v, e = .returned v) ∧ P3 w') := by
  have H1 := Lib.hid h1
  have H2 := Lib.hid h2
  have H3 := Lib.hid h3
  have HN := Lib.hid hn
  clear h1 h2 h3 hn
  go_enter Tryz.func64, Tryz.ntmps64
  go_wp2_with (first
    | (go_at_call 111; refine H1.out.mono ?_; rintro e w1 ⟨rfl, hp1⟩)
    | (go_at_call 112; refine (H2.out w1 hp1).mono ?_; rintro e w2 ⟨rfl, hp2⟩; have HNN := HN.out w2 hp2; have H4 := Lib.hid (entriesWrite_nil g i2 w2 HNN.1); have H5 := Lib.hid (eventsWrite_nil g i2 w2 HNN.2.1); have H6 := Lib.hid (flightsWrite_nil g i2 w2 HNN.2.2); clear HNN)
    | (go_at_call 113; refine H4.out.mono ?_; rintro e w3 ⟨rfl, rfl⟩)
    | (go_at_call 114; refine H5.out.mono ?_; rintro e w3 ⟨rfl, rfl⟩)
    | (go_at_call 115; refine H6.out.mono ?_; rintro e w3 ⟨rfl, rfl⟩)
    | (go_at_call 116; refine (H3.out _ hp2).mono ?_; rintro e w4 ⟨rfl, hp3⟩))
  exact bodyPost_end (results_none rfl _ _ _) rfl ⟨⟨_, rfl⟩, hp3⟩
end Go.Proofs.YthnhfddlmkhgkaaGreatDoor

/- Arguments opened: calls, steps, plays, as they are read. -/
import Derived.Test.YthnhfddlmkhgkaaGreatDoorZClose2
import Derived.Test.YthnhfddlmkhgkaaGreatDoorZBounds
set_option linter.unusedVariables false
namespace Go.Proofs.YthnhfddlmkhgkaaGreatDoor
open Go.ChangeShapes Go.WideShapes Go.ChangeAt Go.WideMaps Go.WideElems Go.RowKit Go.Proofs.YthnhfddlmkhgkaaGreatDoorW.PrintWords

theorem cells3 : Tryz.prog.cellsOf 3 = 1 := by kernel_rfl
theorem cells4 : Tryz.prog.cellsOf 4 = 1 := by kernel_rfl
theorem cells5 : Tryz.prog.cellsOf 5 = 1 := by kernel_rfl
theorem cells45 : Tryz.prog.cellsOf 45 = 1 := by kernel_rfl
theorem cells78 : Tryz.prog.cellsOf 78 = 1 := by kernel_rfl
theorem cells26 : Tryz.prog.cellsOf 26 = 1 := by kernel_rfl
theorem cells51 : Tryz.prog.cellsOf 51 = 9 := by kernel_rfl
theorem cells80 : Tryz.prog.cellsOf 80 = 16 := by kernel_rfl
theorem cells23 : Tryz.prog.cellsOf 23 = 8 := by kernel_rfl
theorem cells25 : Tryz.prog.cellsOf 25 = 3 := by kernel_rfl
theorem cells28 : Tryz.prog.cellsOf 28 = 12 := by kernel_rfl
section
variable {H : Type} {enc : TypeId × Value → H} {W : World} {B fuel : Nat} {cs : List Value} {x : DataW H × List MemPlace}
theorem wf_i64 {n : Int} (h : (Lit.int .i64 n).wf = true) : i64 n := by
  simp [Lit.wf] at h
  have e1 : IntKind.i64.min = -9223372036854775808 := rfl
  have e2 : IntKind.i64.max = 9223372036854775807 := rfl
  unfold i64
  omega
theorem bulk_mem {d : DataW H} {l : List (DataW H)} (h : d ∈ l) : Rows.uptoBulk d ≤ Rows.uptoBulkAll l := by
  induction l with
  | nil => cases h
  | cons y r ih =>
    simp only [Rows.uptoBulkAll]
    rcases List.mem_cons.1 h with rfl | h
    · omega
    · have := ih h; omega
theorem bulk_one (d : DataW H) : 1 ≤ Rows.uptoBulk d := by
  cases d with
  | lit l => cases l <;> simp [Rows.uptoBulk]
  | nil => simp [Rows.uptoBulk]
  | ptr d => simp [Rows.uptoBulk]
  | slice elems spare => simp [Rows.uptoBulk]
  | agg parts => simp [Rows.uptoBulk]
  | iface t d => simp [Rows.uptoBulk]
  | map entries => simp [Rows.uptoBulk]
  | held h => simp [Rows.uptoBulk]
theorem bulk_len (l : List (DataW H)) : l.length ≤ Rows.uptoBulkAll l := by
  induction l with
  | nil => simp [Rows.uptoBulkAll]
  | cons y r ih => have := bulk_one y; simp only [Rows.uptoBulkAll, List.length_cons]; omega
theorem exists_list {α : Type} (Pr : Nat → α → Prop) : ∀ n, (∀ i, i < n → ∃ a, Pr i a) → ∃ l : List α, l.length = n ∧ ∀ i a, l[i]? = some a → Pr i a
  | 0, _ => ⟨[], rfl, fun i a h => by simp at h⟩
  | n + 1, h => by
    obtain ⟨l, h1, h2⟩ := exists_list Pr n (fun i hi => h i (by omega))
    obtain ⟨a, ha⟩ := h n (by omega)
    refine ⟨l ++ [a], by simp [h1], fun i b hb => ?_⟩
    rcases Nat.lt_or_ge i l.length with hlt | hge
    · rw [List.getElem?_append_left hlt] at hb; exact h2 i b hb
    · rw [List.getElem?_append_right hge] at hb
      have h0 : i - l.length = 0 := by have := (List.getElem?_eq_some_iff.1 hb).1; simp at this; omega
      rw [h0] at hb
      simp at hb
      subst hb
      rw [show i = n by omega]
      exact ha
/-- a slice opened, element by element -/
theorem open_slice {α : Type} {t e : TypeId} {sz : Nat} (ht : Tryz.prog.underlying t = some (.slice e)) (hc : Tryz.prog.cellsOf e = sz) (Kp : α → List Value → Prop) (Good : α → Prop)
    (hel : ∀ m cs (x : DataW H × List MemPlace), DataW.trod enc Tryz.prog W 0 (fun _ => true) true m e cs = some x → Rows.uptoBulk x.1 ≤ B → ∃ a, Kp a cs ∧ Good a)
    (h : DataW.trod enc Tryz.prog W 0 (fun _ => true) true fuel t cs = some x) (hb : Rows.uptoBulk x.1 ≤ B) :
    ∃ (A : Option Addr) (c : Nat) (l : List α), cs = [.slice A l.length c] ∧ l.length ≤ c ∧ c ≤ maxLen ∧ l.length ≤ B ∧ (∀ a ∈ l, Good a) ∧
      (0 < l.length → ∃ ad, A = some ad ∧ ∀ j p, l[j]? = some p → ∃ cs2, cs2.length = sz ∧ Kp p cs2 ∧ ∀ i v, cs2[i]? = some v → W.cell? (ad.add (j * sz + i)) = some v) := by
  rcases DataW.trod_slice ht h with ⟨rfl, _⟩ | ⟨a, len, cap, elems, rest, n, rfl, rfl, rfl, _, hlc, hcm, hlen, hcells, _, _⟩
  · exact ⟨none, 0, [], rfl, Nat.le_refl _, by simp [maxLen], Nat.zero_le _, by simp, by simp⟩
  · simp only [Rows.uptoBulk] at hb
    have hln := bulk_len (elems.map (·.1))
    rw [List.length_map, hlen] at hln
    rw [hc] at hcells
    obtain ⟨l, h1, h2⟩ := exists_list (fun i p => ∃ cs2, cs2.length = sz ∧ Kp p cs2 ∧ Good p ∧ ∀ k v, cs2[k]? = some v → W.cell? (a.add (i * sz + k)) = some v) len (fun i hi => by
      have hi2 := hcells i hi
      have he : elems[i]? = some (elems[i]'(by omega)) := List.getElem?_eq_getElem (by omega)
      rw [he] at hi2
      cases hq : W.cells? 0 (a.add (i * sz)) sz with
      | none => rw [hq] at hi2; cases hi2
      | some cs2 =>
        rw [hq] at hi2
        obtain ⟨_, g1, g2⟩ := World.cells?_some hq
        have hm : (elems[i]'(by omega)).1 ∈ elems.map (·.1) := List.mem_map.2 ⟨_, List.getElem_mem _, rfl⟩
        have hbl := bulk_mem hm
        obtain ⟨p, k1, k2⟩ := hel n cs2 _ hi2 (by omega)
        refine ⟨p, cs2, g1, k1, k2, fun k v hk => ?_⟩
        have hk2 : k < sz := by have := (List.getElem?_eq_some_iff.1 hk).1; omega
        have := g2 k hk2
        rw [Addr.add_add] at this
        rw [this, hk])
    subst h1
    refine ⟨some a, cap, l, rfl, hlc, hcm, by omega, fun p hp => ?_, fun _ => ⟨a, rfl, fun j p hj => ?_⟩⟩
    · obtain ⟨j, hj⟩ := List.getElem?_of_mem hp
      obtain ⟨_, _, _, g, _⟩ := h2 j p hj
      exact g
    · obtain ⟨cs2, q1, q2, _, q3⟩ := h2 j p hj
      exact ⟨cs2, q1, q2, q3⟩
theorem open_bytes (h : DataW.trod enc Tryz.prog W 0 (fun _ => true) true fuel 45 cs = some x) (hb : Rows.uptoBulk x.1 ≤ 1048576) :
    ∃ (A : Option Addr) (c : Nat) (l : Sp.Bs), cs = [.slice A l.length c] ∧ l.length ≤ c ∧ l.length ≤ 1048576 ∧ ReadU W A l := by
  obtain ⟨A, c, l, rfl, h1, h2, h3, _, h4⟩ := open_slice (α := UInt8) Tryz.underlying45 cells5 (fun b cs => cs = [.int .u8 (b.toNat : Int)]) (fun _ => True) (fun m cs x hx _ => by
    obtain ⟨n, rfl, _, hw⟩ := DataW.trod_int Tryz.underlying5 hx
    have e1 : IntKind.u8.min = 0 := rfl
    have e2 : IntKind.u8.max = 255 := rfl
    have hr : 0 ≤ n ∧ n < 256 := by simp [Lit.wf] at hw; omega
    refine ⟨UInt8.ofNat n.toNat, ?_, trivial⟩
    rw [UInt8.toNat_ofNat']
    congr 2
    omega) h hb
  refine ⟨A, c, l, rfl, h1, h3, us_len l, by omega, fun h0 => ?_⟩
  obtain ⟨ad, rfl, hc⟩ := h4 (by simpa [us_len] using h0)
  refine ⟨ad, rfl, fun j p hj => ?_⟩
  simp only [us, List.getElem?_map, Option.map_eq_some_iff] at hj
  obtain ⟨b, hb, rfl⟩ := hj
  obtain ⟨cs2, q1, q2, q3⟩ := hc j b hb
  exact ⟨cs2, q1, q2, q3⟩
theorem open_flags (h : DataW.trod enc Tryz.prog W 0 (fun _ => true) true fuel 78 cs = some x) (hb : Rows.uptoBulk x.1 ≤ 1048576) :
    ∃ (A : Option Addr) (c : Nat) (l : List Bool), cs = [.slice A l.length c] ∧ l.length ≤ c ∧ l.length ≤ 1048576 ∧ ReadB W A l := by
  obtain ⟨A, c, l, rfl, h1, h2, h3, _, h4⟩ := open_slice (α := Bool) Tryz.underlying78 cells4 (fun b cs => cs = [.bool b]) (fun _ => True) (fun m cs x hx _ => by
    obtain ⟨b, rfl, _⟩ := DataW.trod_bool Tryz.underlying4 hx
    exact ⟨b, rfl, trivial⟩) h hb
  exact ⟨A, c, l, rfl, h1, h3, rfl, by omega, h4⟩
set_option maxRecDepth 100000 in
theorem open_call (h : DataW.trod enc Tryz.prog W 0 (fun _ => true) true fuel 51 cs = some x) (hb : Rows.uptoBulk x.1 ≤ 1048576) :
    ∃ (c : Sp.Call) (A : Option Addr) (k : Nat), cs = callCells c (.slice A c.data.length k) ∧ c.data.length ≤ k ∧ ReadU W A c.data ∧ CallB c ∧ i64 c.op := by
  obtain ⟨xs, n, rfl, rfl, hl, hlen, hf⟩ := DataW.trod_struct Tryz.underlying51 h
  rw [cells51] at hl
  match cs, hl with
  | [c0, c1, c2, c3, c4, c5, c6, c7, c8], _ =>
    match xs, hlen with
    | [x0, x1, x2, x3, x4, x5, x6, x7, x8], _ =>
      simp only [Rows.uptoBulk, Rows.uptoBulkAll, List.map_cons, List.map_nil] at hb
      have h0 : DataW.trod enc Tryz.prog W 0 (fun _ => true) true n 3 (([c0, c1, c2, c3, c4, c5, c6, c7, c8].drop 0).take (Tryz.prog.cellsOf 3)) = some x0 := hf 0 _ rfl
      have h1 : DataW.trod enc Tryz.prog W 0 (fun _ => true) true n 3 (([c0, c1, c2, c3, c4, c5, c6, c7, c8].drop 1).take (Tryz.prog.cellsOf 3)) = some x1 := hf 1 _ rfl
      have h2 : DataW.trod enc Tryz.prog W 0 (fun _ => true) true n 3 (([c0, c1, c2, c3, c4, c5, c6, c7, c8].drop 2).take (Tryz.prog.cellsOf 3)) = some x2 := hf 2 _ rfl
      have h3 : DataW.trod enc Tryz.prog W 0 (fun _ => true) true n 3 (([c0, c1, c2, c3, c4, c5, c6, c7, c8].drop 3).take (Tryz.prog.cellsOf 3)) = some x3 := hf 3 _ rfl
      have h4 : DataW.trod enc Tryz.prog W 0 (fun _ => true) true n 3 (([c0, c1, c2, c3, c4, c5, c6, c7, c8].drop 4).take (Tryz.prog.cellsOf 3)) = some x4 := hf 4 _ rfl
      have h5 : DataW.trod enc Tryz.prog W 0 (fun _ => true) true n 9 (([c0, c1, c2, c3, c4, c5, c6, c7, c8].drop 5).take (Tryz.prog.cellsOf 9)) = some x5 := hf 5 _ rfl
      have h6 : DataW.trod enc Tryz.prog W 0 (fun _ => true) true n 9 (([c0, c1, c2, c3, c4, c5, c6, c7, c8].drop 6).take (Tryz.prog.cellsOf 9)) = some x6 := hf 6 _ rfl
      have h7 : DataW.trod enc Tryz.prog W 0 (fun _ => true) true n 9 (([c0, c1, c2, c3, c4, c5, c6, c7, c8].drop 7).take (Tryz.prog.cellsOf 9)) = some x7 := hf 7 _ rfl
      have h8 : DataW.trod enc Tryz.prog W 0 (fun _ => true) true n 45 (([c0, c1, c2, c3, c4, c5, c6, c7, c8].drop 8).take (Tryz.prog.cellsOf 45)) = some x8 := hf 8 _ rfl
      rw [cells3] at h0
      obtain ⟨n0, e0, y0, w0⟩ := DataW.trod_int Tryz.underlying3 h0
      obtain rfl : c0 = .int .i64 n0 := by simpa using e0
      rw [cells3] at h1
      obtain ⟨n1, e1, y1, w1⟩ := DataW.trod_int Tryz.underlying3 h1
      obtain rfl : c1 = .int .i64 n1 := by simpa using e1
      rw [cells3] at h2
      obtain ⟨n2, e2, y2, w2⟩ := DataW.trod_int Tryz.underlying3 h2
      obtain rfl : c2 = .int .i64 n2 := by simpa using e2
      rw [cells3] at h3
      obtain ⟨n3, e3, y3, w3⟩ := DataW.trod_int Tryz.underlying3 h3
      obtain rfl : c3 = .int .i64 n3 := by simpa using e3
      rw [cells3] at h4
      obtain ⟨n4, e4, y4, w4⟩ := DataW.trod_int Tryz.underlying3 h4
      obtain rfl : c4 = .int .i64 n4 := by simpa using e4
      rw [cells9] at h5
      obtain ⟨s5, e5, y5, w5⟩ := DataW.trod_string Tryz.underlying9 h5
      obtain rfl : c5 = .string s5 := by simpa using e5
      obtain rfl : x5 = (.lit (.string s5.data.toList), []) := by simpa using y5
      rw [cells9] at h6
      obtain ⟨s6, e6, y6, w6⟩ := DataW.trod_string Tryz.underlying9 h6
      obtain rfl : c6 = .string s6 := by simpa using e6
      obtain rfl : x6 = (.lit (.string s6.data.toList), []) := by simpa using y6
      rw [cells9] at h7
      obtain ⟨s7, e7, y7, w7⟩ := DataW.trod_string Tryz.underlying9 h7
      obtain rfl : c7 = .string s7 := by simpa using e7
      obtain rfl : x7 = (.lit (.string s7.data.toList), []) := by simpa using y7
      rw [cells45] at h8
      obtain ⟨A, k, l, e8, l8, b8, r8⟩ := open_bytes h8 (by omega)
      obtain rfl : c8 = .slice A l.length k := by simpa using e8
      simp only [Rows.uptoBulk] at hb
      refine ⟨⟨n0, n1, n2, n3, n4, bl s5, bl s6, bl s7, l⟩, A, k, ?_, l8, r8, ⟨wf_i64 w1, wf_i64 w2, wf_i64 w3, wf_i64 w4, ?_, ?_, ?_, b8⟩, wf_i64 w0⟩
      · simp only [callCells, bl]
        rw [str_bl, str_bl, str_bl]
      · simp only [bl]; omega
      · simp only [bl]; omega
      · simp only [bl]; omega
set_option maxRecDepth 100000 in
theorem open_op (h : DataW.trod enc Tryz.prog W 0 (fun _ => true) true fuel 80 cs = some x) (hb : Rows.uptoBulk x.1 ≤ 1048576) :
    ∃ o : Sp.Op, ko.K W o cs ∧ OpB o := by
  obtain ⟨xs, n, rfl, rfl, hl, hlen, hf⟩ := DataW.trod_struct Tryz.underlying80 h
  rw [cells80] at hl
  match cs, hl with
  | [c0, c1, c2, c3, c4, c5, c6, c7, c8, c9, c10, c11, c12, c13, c14, c15], _ =>
    match xs, hlen with
    | [x0, x1, x2, x3, x4, x5, x6, x7], _ =>
      simp only [Rows.uptoBulk, Rows.uptoBulkAll, List.map_cons, List.map_nil] at hb
      have h0 : DataW.trod enc Tryz.prog W 0 (fun _ => true) true n 3 (([c0, c1, c2, c3, c4, c5, c6, c7, c8, c9, c10, c11, c12, c13, c14, c15].drop 0).take (Tryz.prog.cellsOf 3)) = some x0 := hf 0 _ rfl
      have h1 : DataW.trod enc Tryz.prog W 0 (fun _ => true) true n 3 (([c0, c1, c2, c3, c4, c5, c6, c7, c8, c9, c10, c11, c12, c13, c14, c15].drop 1).take (Tryz.prog.cellsOf 3)) = some x1 := hf 1 _ rfl
      have h2 : DataW.trod enc Tryz.prog W 0 (fun _ => true) true n 3 (([c0, c1, c2, c3, c4, c5, c6, c7, c8, c9, c10, c11, c12, c13, c14, c15].drop 2).take (Tryz.prog.cellsOf 3)) = some x2 := hf 2 _ rfl
      have h3 : DataW.trod enc Tryz.prog W 0 (fun _ => true) true n 3 (([c0, c1, c2, c3, c4, c5, c6, c7, c8, c9, c10, c11, c12, c13, c14, c15].drop 3).take (Tryz.prog.cellsOf 3)) = some x3 := hf 3 _ rfl
      have h4 : DataW.trod enc Tryz.prog W 0 (fun _ => true) true n 3 (([c0, c1, c2, c3, c4, c5, c6, c7, c8, c9, c10, c11, c12, c13, c14, c15].drop 4).take (Tryz.prog.cellsOf 3)) = some x4 := hf 4 _ rfl
      have h5 : DataW.trod enc Tryz.prog W 0 (fun _ => true) true n 51 (([c0, c1, c2, c3, c4, c5, c6, c7, c8, c9, c10, c11, c12, c13, c14, c15].drop 5).take (Tryz.prog.cellsOf 51)) = some x5 := hf 5 _ rfl
      have h6 : DataW.trod enc Tryz.prog W 0 (fun _ => true) true n 45 (([c0, c1, c2, c3, c4, c5, c6, c7, c8, c9, c10, c11, c12, c13, c14, c15].drop 14).take (Tryz.prog.cellsOf 45)) = some x6 := hf 6 _ rfl
      have h7 : DataW.trod enc Tryz.prog W 0 (fun _ => true) true n 78 (([c0, c1, c2, c3, c4, c5, c6, c7, c8, c9, c10, c11, c12, c13, c14, c15].drop 15).take (Tryz.prog.cellsOf 78)) = some x7 := hf 7 _ rfl
      rw [cells3] at h0
      obtain ⟨n0, e0, y0, w0⟩ := DataW.trod_int Tryz.underlying3 h0
      obtain rfl : c0 = .int .i64 n0 := by simpa using e0
      rw [cells3] at h1
      obtain ⟨n1, e1, y1, w1⟩ := DataW.trod_int Tryz.underlying3 h1
      obtain rfl : c1 = .int .i64 n1 := by simpa using e1
      rw [cells3] at h2
      obtain ⟨n2, e2, y2, w2⟩ := DataW.trod_int Tryz.underlying3 h2
      obtain rfl : c2 = .int .i64 n2 := by simpa using e2
      rw [cells3] at h3
      obtain ⟨n3, e3, y3, w3⟩ := DataW.trod_int Tryz.underlying3 h3
      obtain rfl : c3 = .int .i64 n3 := by simpa using e3
      rw [cells3] at h4
      obtain ⟨n4, e4, y4, w4⟩ := DataW.trod_int Tryz.underlying3 h4
      obtain rfl : c4 = .int .i64 n4 := by simpa using e4
      rw [cells51] at h5
      obtain ⟨c, A1, k1, e5, l5, r5, b5, i5⟩ := open_call h5 (by omega)
      rw [cells45] at h6
      obtain ⟨A2, k2, l2, e6, l6, b6, r6⟩ := open_bytes h6 (by omega)
      rw [cells78] at h7
      obtain ⟨A3, k3, l3, e7, l7, b7, r7⟩ := open_flags h7 (by omega)
      have q5 : [c5, c6, c7, c8, c9, c10, c11, c12, c13] = callCells c (.slice A1 c.data.length k1) := e5
      obtain rfl : c14 = .slice A2 l2.length k2 := by simpa using e6
      obtain rfl : c15 = .slice A3 l3.length k3 := by simpa using e7
      refine ⟨⟨n0, n1, n2, n3, n4, c, l2, l3⟩, ?_, ⟨wf_i64 w0, wf_i64 w1, wf_i64 w2, wf_i64 w3, wf_i64 w4, b5, b6, b7⟩⟩
      have e : [Value.int .i64 n0, .int .i64 n1, .int .i64 n2, .int .i64 n3, .int .i64 n4, c5, c6, c7, c8, c9, c10, c11, c12, c13, .slice A2 l2.length k2, .slice A3 l3.length k3] = opCells ⟨n0, n1, n2, n3, n4, c, l2, l3⟩ (.slice A1 c.data.length k1) (.slice A2 l2.length k2) (.slice A3 l3.length k3) := by
        simp only [callCells, List.cons.injEq, and_true] at q5
        obtain ⟨rfl, rfl, rfl, rfl, rfl, rfl, rfl, rfl, rfl⟩ := q5
        rfl
      rw [e]
      exact ko_mk W ⟨n0, n1, n2, n3, n4, c, l2, l3⟩ l5 r5 l6 r6 l7 r7
set_option maxRecDepth 100000 in
theorem open_play {v : Value} {d : DataW H} {ps : List MemPlace} {base : Nat} (hval : Value.okWide Tryz.prog W .any base 28 v) (h : DataW.Trod enc Tryz.prog W 0 (fun _ => true) true 28 v d ps) (hb : Rows.uptoBulk d ≤ 1048576) :
    ∃ (p : Sp.Play) (vp : Value), v = .agg (playCells p.nums vp).toArray ∧ PlayV W p vp ∧ PlayB p := by
  obtain ⟨arr, rfl, hsz⟩ := okWide_struct Tryz.underlying28 hval
  obtain ⟨fuel, hf0⟩ := h
  have hf1 : DataW.trod enc Tryz.prog W 0 (fun _ => true) true fuel 28 arr.toList = some (d, ps) := hf0
  obtain ⟨ll⟩ := arr
  obtain ⟨xs, n, rfl, hx, hl, hlen, hf⟩ := DataW.trod_struct Tryz.underlying28 hf1
  rw [cells28] at hl
  match ll, hl with
  | [c0, c1, c2, c3, c4, c5, c6, c7, c8, c9, c10, c11], _ =>
    match xs, hlen with
    | [x0, x1, x2], _ =>
      obtain ⟨rfl, _⟩ := Prod.mk.inj hx
      simp only [Rows.uptoBulk, Rows.uptoBulkAll, List.map_cons, List.map_nil] at hb
      have g0 : DataW.trod enc Tryz.prog W 0 (fun _ => true) true n 23 (([c0, c1, c2, c3, c4, c5, c6, c7, c8, c9, c10, c11].drop 0).take (Tryz.prog.cellsOf 23)) = some x0 := hf 0 _ rfl
      have g1 : DataW.trod enc Tryz.prog W 0 (fun _ => true) true n 25 (([c0, c1, c2, c3, c4, c5, c6, c7, c8, c9, c10, c11].drop 8).take (Tryz.prog.cellsOf 25)) = some x1 := hf 1 _ rfl
      have g2 : DataW.trod enc Tryz.prog W 0 (fun _ => true) true n 26 (([c0, c1, c2, c3, c4, c5, c6, c7, c8, c9, c10, c11].drop 11).take (Tryz.prog.cellsOf 26)) = some x2 := hf 2 _ rfl
      rw [cells23] at g0
      rw [cells25] at g1
      rw [cells26] at g2
      obtain ⟨ys, m, _, _, hly, hleny, hfy⟩ := DataW.trod_struct Tryz.underlying23 g0
      obtain ⟨zs, m2, _, _, hlz, hlenz, hfz⟩ := DataW.trod_struct Tryz.underlying25 g1
      match ys, hleny with
      | [y0, y1, y2, y3, y4, y5, y6, y7], _ =>
        match zs, hlenz with
        | [z0, z1, z2], _ =>
          have h0 : DataW.trod enc Tryz.prog W 0 (fun _ => true) true m 3 (((([c0, c1, c2, c3, c4, c5, c6, c7, c8, c9, c10, c11].drop 0).take 8).drop 0).take (Tryz.prog.cellsOf 3)) = some y0 := hfy 0 _ rfl
          have h1 : DataW.trod enc Tryz.prog W 0 (fun _ => true) true m 3 (((([c0, c1, c2, c3, c4, c5, c6, c7, c8, c9, c10, c11].drop 0).take 8).drop 1).take (Tryz.prog.cellsOf 3)) = some y1 := hfy 1 _ rfl
          have h2 : DataW.trod enc Tryz.prog W 0 (fun _ => true) true m 3 (((([c0, c1, c2, c3, c4, c5, c6, c7, c8, c9, c10, c11].drop 0).take 8).drop 2).take (Tryz.prog.cellsOf 3)) = some y2 := hfy 2 _ rfl
          have h3 : DataW.trod enc Tryz.prog W 0 (fun _ => true) true m 3 (((([c0, c1, c2, c3, c4, c5, c6, c7, c8, c9, c10, c11].drop 0).take 8).drop 3).take (Tryz.prog.cellsOf 3)) = some y3 := hfy 3 _ rfl
          have h4 : DataW.trod enc Tryz.prog W 0 (fun _ => true) true m 3 (((([c0, c1, c2, c3, c4, c5, c6, c7, c8, c9, c10, c11].drop 0).take 8).drop 4).take (Tryz.prog.cellsOf 3)) = some y4 := hfy 4 _ rfl
          have h5 : DataW.trod enc Tryz.prog W 0 (fun _ => true) true m 3 (((([c0, c1, c2, c3, c4, c5, c6, c7, c8, c9, c10, c11].drop 0).take 8).drop 5).take (Tryz.prog.cellsOf 3)) = some y5 := hfy 5 _ rfl
          have h6 : DataW.trod enc Tryz.prog W 0 (fun _ => true) true m 3 (((([c0, c1, c2, c3, c4, c5, c6, c7, c8, c9, c10, c11].drop 0).take 8).drop 6).take (Tryz.prog.cellsOf 3)) = some y6 := hfy 6 _ rfl
          have h7 : DataW.trod enc Tryz.prog W 0 (fun _ => true) true m 3 (((([c0, c1, c2, c3, c4, c5, c6, c7, c8, c9, c10, c11].drop 0).take 8).drop 7).take (Tryz.prog.cellsOf 3)) = some y7 := hfy 7 _ rfl
          have h8 : DataW.trod enc Tryz.prog W 0 (fun _ => true) true m2 3 (((([c0, c1, c2, c3, c4, c5, c6, c7, c8, c9, c10, c11].drop 8).take 3).drop 0).take (Tryz.prog.cellsOf 3)) = some z0 := hfz 0 _ rfl
          have h9 : DataW.trod enc Tryz.prog W 0 (fun _ => true) true m2 3 (((([c0, c1, c2, c3, c4, c5, c6, c7, c8, c9, c10, c11].drop 8).take 3).drop 1).take (Tryz.prog.cellsOf 3)) = some z1 := hfz 1 _ rfl
          have h10 : DataW.trod enc Tryz.prog W 0 (fun _ => true) true m2 3 (((([c0, c1, c2, c3, c4, c5, c6, c7, c8, c9, c10, c11].drop 8).take 3).drop 2).take (Tryz.prog.cellsOf 3)) = some z2 := hfz 2 _ rfl
          rw [cells3] at h0
          obtain ⟨n0, e0, _, w0⟩ := DataW.trod_int Tryz.underlying3 h0
          obtain rfl : c0 = .int .i64 n0 := by simpa using e0
          rw [cells3] at h1
          obtain ⟨n1, e1, _, w1⟩ := DataW.trod_int Tryz.underlying3 h1
          obtain rfl : c1 = .int .i64 n1 := by simpa using e1
          rw [cells3] at h2
          obtain ⟨n2, e2, _, w2⟩ := DataW.trod_int Tryz.underlying3 h2
          obtain rfl : c2 = .int .i64 n2 := by simpa using e2
          rw [cells3] at h3
          obtain ⟨n3, e3, _, w3⟩ := DataW.trod_int Tryz.underlying3 h3
          obtain rfl : c3 = .int .i64 n3 := by simpa using e3
          rw [cells3] at h4
          obtain ⟨n4, e4, _, w4⟩ := DataW.trod_int Tryz.underlying3 h4
          obtain rfl : c4 = .int .i64 n4 := by simpa using e4
          rw [cells3] at h5
          obtain ⟨n5, e5, _, w5⟩ := DataW.trod_int Tryz.underlying3 h5
          obtain rfl : c5 = .int .i64 n5 := by simpa using e5
          rw [cells3] at h6
          obtain ⟨n6, e6, _, w6⟩ := DataW.trod_int Tryz.underlying3 h6
          obtain rfl : c6 = .int .i64 n6 := by simpa using e6
          rw [cells3] at h7
          obtain ⟨n7, e7, _, w7⟩ := DataW.trod_int Tryz.underlying3 h7
          obtain rfl : c7 = .int .i64 n7 := by simpa using e7
          rw [cells3] at h8
          obtain ⟨n8, e8, _, w8⟩ := DataW.trod_int Tryz.underlying3 h8
          obtain rfl : c8 = .int .i64 n8 := by simpa using e8
          rw [cells3] at h9
          obtain ⟨n9, e9, _, w9⟩ := DataW.trod_int Tryz.underlying3 h9
          obtain rfl : c9 = .int .i64 n9 := by simpa using e9
          rw [cells3] at h10
          obtain ⟨n10, e10, _, w10⟩ := DataW.trod_int Tryz.underlying3 h10
          obtain rfl : c10 = .int .i64 n10 := by simpa using e10
          obtain ⟨A, k, l, e11, l1, l2, l3, hgood, hrow⟩ := open_slice (α := Sp.Op) (B := 1048576) Tryz.underlying26 cells80 (fun o cs => ko.K W o cs) OpB (fun m cs x hx hbx => open_op hx hbx) g2 (by omega)
          obtain rfl : c11 = .slice A l.length k := by simpa using e11
          refine ⟨⟨[n0, n1, n2, n3, n4, n5, n6, n7, n8, n9, n10], l⟩, .slice A l.length k, rfl, ⟨rfl, A, k, rfl, ⟨rfl, by show l.length ≤ 9223372036854775807; omega, hrow⟩, by simp only; omega, fun o ho => ?_⟩, ⟨fun y hy => ?_, hgood⟩⟩
          · have g := hgood o ho
            exact ⟨by have := g.data; omega, by have := g.keep; omega, by have := g.call.data; omega⟩
          · simp only [List.mem_cons, List.not_mem_nil, or_false] at hy
            rcases hy with rfl | rfl | rfl | rfl | rfl | rfl | rfl | rfl | rfl | rfl | rfl
            · exact wf_i64 w0
            · exact wf_i64 w1
            · exact wf_i64 w2
            · exact wf_i64 w3
            · exact wf_i64 w4
            · exact wf_i64 w5
            · exact wf_i64 w6
            · exact wf_i64 w7
            · exact wf_i64 w8
            · exact wf_i64 w9
            · exact wf_i64 w10
end
end Go.Proofs.YthnhfddlmkhgkaaGreatDoor

/- The kinds of the walks: a call, a step, as cells. Rows that a result holds: their block, their cells; frozen cells (those of []byte(s)) only behind the end. -/
import Derived.Test.YthnhfddlmkhgkaaGreatDoorZLibAll
set_option linter.unusedVariables false
namespace Go.Proofs.YthnhfddlmkhgkaaGreatDoor
open Go.RowKit Go.Proofs.YthnhfddlmkhgkaaGreatDoorW.PrintWords

theorem var_row {w : World} {n : String} {g : Nat} {cs : Array Value} (hg : Tryz.prog.globalNamed n = some g) (hv : w.var? Tryz.prog n = some cs) : ∃ t fr, w.heap[g]? = some (.cells cs t fr) := by
  unfold World.var? at hv
  rw [hg, Option.bind_some] at hv
  cases h : w.heap[g]? with
  | none => rw [h] at hv; cases hv
  | some o =>
    rw [h] at hv
    cases o with
    | cells c t fr => injection hv with hv; subst hv; exact ⟨t, fr, rfl⟩
    | _ => cases hv
theorem step_index : ∀ (i : Nat), i < 15 → ∀ w, (Instr.index 129 (.agg (rowCells Sp.stepRows)) (.int .i64 (i : Int))).run Tryz.prog w = .ok (.agg #[.string (str (Sp.stepRows.getD i ([], [])).1), .string (str (Sp.stepRows.getD i ([], [])).2)]) w
  | 0, _, _ => by kernel_rfl
  | 1, _, _ => by kernel_rfl
  | 2, _, _ => by kernel_rfl
  | 3, _, _ => by kernel_rfl
  | 4, _, _ => by kernel_rfl
  | 5, _, _ => by kernel_rfl
  | 6, _, _ => by kernel_rfl
  | 7, _, _ => by kernel_rfl
  | 8, _, _ => by kernel_rfl
  | 9, _, _ => by kernel_rfl
  | 10, _, _ => by kernel_rfl
  | 11, _, _ => by kernel_rfl
  | 12, _, _ => by kernel_rfl
  | 13, _, _ => by kernel_rfl
  | 14, _, _ => by kernel_rfl
  | n + 15, h, _ => absurd h (by omega)
theorem call_index : ∀ (i : Nat), i < 11 → ∀ w, (Instr.index 148 (.agg (rowCells Sp.callRows)) (.int .i64 (i : Int))).run Tryz.prog w = .ok (.agg #[.string (str (Sp.callRows.getD i ([], [])).1), .string (str (Sp.callRows.getD i ([], [])).2)]) w
  | 0, _, _ => by kernel_rfl
  | 1, _, _ => by kernel_rfl
  | 2, _, _ => by kernel_rfl
  | 3, _, _ => by kernel_rfl
  | 4, _, _ => by kernel_rfl
  | 5, _, _ => by kernel_rfl
  | 6, _, _ => by kernel_rfl
  | 7, _, _ => by kernel_rfl
  | 8, _, _ => by kernel_rfl
  | 9, _, _ => by kernel_rfl
  | 10, _, _ => by kernel_rfl
  | n + 11, h, _ => absurd h (by omega)
set_option maxHeartbeats 2000000 in
set_option maxRecDepth 100000 in
theorem stepOf_any (l : Sp.Bs) (w : World) (he : Env w) :
    Calls Tryz.prog 78 #[.string (str l)] w (BRet w (.int .i64 (Sp.findRow Sp.stepRows l : Nat))) := by
  obtain ⟨ty, fr, hrow⟩ := var_row gSteps he.steps
  have HROW := Lib.hid hrow
  obtain ⟨CS, hCS⟩ : ∃ CS, CS = rowCells Sp.stepRows := ⟨_, rfl⟩
  have HCS := Lib.hid hCS
  rw [← hCS] at HROW
  clear he hrow hCS
  go_enter Tryz.func78, Tryz.ntmps78
  go_wp2_with (refine wpList_load_row rfl 129 _ rfl 0 rfl ty CS fr _ HROW.out Tryz.underlying129 rfl (by rw [HCS.out]; kernel_rfl) ?_)
  go_loopw [6] (fun v6 wr => ∃ (i : Nat), v6 = .int .i64 (i : Int) ∧ i ≤ 15 ∧ Hid (∀ j, j < i → 0 < j → (Sp.stepRows.getD j ([], [])).1 ≠ l) ∧ Below w.heap.size w wr) (fun v6 _ => 15 - (intOf v6).toNat)
  case atStart => exact ⟨0, rfl, by omega, Lib.hid (fun j h => by omega), Below.refl _ _⟩
  case round =>
    obtain ⟨i, rfl, hi, HN, HB⟩ := hrel
    by_cases hlt : i < 15
    · have hix : ∀ w, (Instr.index 129 (.agg CS) (.int .i64 (i : Int))).run Tryz.prog w = .ok (.agg #[.string (str (Sp.stepRows.getD i ([], [])).1), .string (str (Sp.stepRows.getD i ([], [])).2)]) w := by rw [HCS.out]; exact step_index i hlt
      obtain ⟨n, hn⟩ : ∃ n, n = (Sp.stepRows.getD i ([], [])).1 := ⟨_, rfl⟩
      obtain ⟨f, hf⟩ : ∃ f, f = (Sp.stepRows.getD i ([], [])).2 := ⟨_, rfl⟩
      rw [← hn, ← hf] at hix
      have HX := Lib.hid hn
      clear hn hf
      have HL := Lib.hid hlt
      by_cases h0 : i = 0
      · have h1 : i ≤ 0 := by omega
        clear h0
        go_wp2
        go_roundw
        case rel => exact ⟨i + 1, by go_num, by omega, Lib.hid (fun j h => by omega), HB.alloc HB.size _⟩
        case measure => simp [intOf]; omega
      · have h1 : 0 < i := by omega
        clear h0
        have T := str_eqb n l
        by_cases he : n = l
        · rw [decide_eq_true he] at T
          have HE := Lib.hid he
          clear he
          go_wp2
          go_ret
          exact ⟨ret_int (by rw [Sp.find_some HN.out HL.out h1 (by rw [← HX.out, HE.out])]), HB.alloc HB.size _⟩
        · rw [decide_eq_false he] at T
          have HE := Lib.hid he
          clear he
          go_wp2
          go_roundw
          case rel => exact ⟨i + 1, by go_num, by omega, Lib.hid (fun j h h2 => by
            rcases Nat.lt_or_ge j i with h3 | h3
            · exact HN.out j h3 h2
            · obtain rfl : j = i := by omega
              rw [← HX.out]; exact HE.out), HB.alloc HB.size _⟩
          case measure => simp [intOf]; omega
    · go_wp2
      go_ret
      exact ⟨ret_int (by rw [Sp.find_none (fun j hj => HN.out j (by have : Sp.stepRows.length = 15 := rfl; omega))]; rfl), HB⟩
set_option maxHeartbeats 2000000 in
set_option maxRecDepth 100000 in
theorem callOf_any (l : Sp.Bs) (w : World) (he : Env w) :
    Calls Tryz.prog 104 #[.string (str l)] w (BRet w (.int .i64 (Sp.findRow Sp.callRows l : Nat))) := by
  obtain ⟨ty, fr, hrow⟩ := var_row gCalls he.calls
  have HROW := Lib.hid hrow
  obtain ⟨CS, hCS⟩ : ∃ CS, CS = rowCells Sp.callRows := ⟨_, rfl⟩
  have HCS := Lib.hid hCS
  rw [← hCS] at HROW
  clear he hrow hCS
  go_enter Tryz.func104, Tryz.ntmps104
  go_wp2_with (refine wpList_load_row rfl 148 _ rfl 3 rfl ty CS fr _ HROW.out Tryz.underlying148 rfl (by rw [HCS.out]; kernel_rfl) ?_)
  go_loopw [6] (fun v6 wr => ∃ (i : Nat), v6 = .int .i64 (i : Int) ∧ i ≤ 11 ∧ Hid (∀ j, j < i → 0 < j → (Sp.callRows.getD j ([], [])).1 ≠ l) ∧ Below w.heap.size w wr) (fun v6 _ => 11 - (intOf v6).toNat)
  case atStart => exact ⟨0, rfl, by omega, Lib.hid (fun j h => by omega), Below.refl _ _⟩
  case round =>
    obtain ⟨i, rfl, hi, HN, HB⟩ := hrel
    by_cases hlt : i < 11
    · have hix : ∀ w, (Instr.index 148 (.agg CS) (.int .i64 (i : Int))).run Tryz.prog w = .ok (.agg #[.string (str (Sp.callRows.getD i ([], [])).1), .string (str (Sp.callRows.getD i ([], [])).2)]) w := by rw [HCS.out]; exact call_index i hlt
      obtain ⟨n, hn⟩ : ∃ n, n = (Sp.callRows.getD i ([], [])).1 := ⟨_, rfl⟩
      obtain ⟨f, hf⟩ : ∃ f, f = (Sp.callRows.getD i ([], [])).2 := ⟨_, rfl⟩
      rw [← hn, ← hf] at hix
      have HX := Lib.hid hn
      clear hn hf
      have HL := Lib.hid hlt
      by_cases h0 : i = 0
      · have h1 : i ≤ 0 := by omega
        clear h0
        go_wp2
        go_roundw
        case rel => exact ⟨i + 1, by go_num, by omega, Lib.hid (fun j h => by omega), HB.alloc HB.size _⟩
        case measure => simp [intOf]; omega
      · have h1 : 0 < i := by omega
        clear h0
        have T := str_eqb n l
        by_cases he : n = l
        · rw [decide_eq_true he] at T
          have HE := Lib.hid he
          clear he
          go_wp2
          go_ret
          exact ⟨ret_int (by rw [Sp.find_some HN.out HL.out h1 (by rw [← HX.out, HE.out])]), HB.alloc HB.size _⟩
        · rw [decide_eq_false he] at T
          have HE := Lib.hid he
          clear he
          go_wp2
          go_roundw
          case rel => exact ⟨i + 1, by go_num, by omega, Lib.hid (fun j h h2 => by
            rcases Nat.lt_or_ge j i with h3 | h3
            · exact HN.out j h3 h2
            · obtain rfl : j = i := by omega
              rw [← HX.out]; exact HE.out), HB.alloc HB.size _⟩
          case measure => simp [intOf]; omega
    · go_wp2
      go_ret
      exact ⟨ret_int (by rw [Sp.find_none (fun j hj => HN.out j (by have : Sp.callRows.length = 11 := rfl; omega))]; rfl), HB⟩
end Go.Proofs.YthnhfddlmkhgkaaGreatDoor

set_option linter.unusedVariables false
namespace Go.Proofs.YthnhfddlmkhgkaaGreatDoor
open Go.RowKit Go.Proofs.YthnhfddlmkhgkaaGreatDoorW.PrintWords

theorem info80 : (Tryz.prog.info? 80).map (fun i => (i.zero, i.size, i.bytes)) = some (some (.agg #[(.int .i64 0), (.int .i64 0), (.int .i64 0), (.int .i64 0), (.int .i64 0), (.int .i64 0), (.int .i64 0), (.int .i64 0), (.int .i64 0), (.int .i64 0), (.string ⟨#[]⟩), (.string ⟨#[]⟩), (.string ⟨#[]⟩), (.slice none 0 0), (.slice none 0 0), (.slice none 0 0)]), 16, 200) := by kernel_rfl
def callCells (c : Sp.Call) (v : Value) : List Value := [.int .i64 c.op, .int .i64 c.h, .int .i64 c.h2, .int .i64 c.off, .int .i64 c.len, .string (str c.path), .string (str c.name), .string (str c.name2), v]
def opCells (o : Sp.Op) (v1 v2 v3 : Value) : List Value := [.int .i64 o.kind, .int .i64 o.a, .int .i64 o.k, .int .i64 o.m, .int .i64 o.x, .int .i64 o.call.op, .int .i64 o.call.h, .int .i64 o.call.h2, .int .i64 o.call.off, .int .i64 o.call.len, .string (str o.call.path), .string (str o.call.name), .string (str o.call.name2), v1, v2, v3]
/-- a call's kind -/
def kc : Kd Sp.Call := Kd.iso (Kd.pair (Kd.int .i64) (Kd.pair (Kd.int .i64) (Kd.pair (Kd.int .i64) (Kd.pair (Kd.int .i64) (Kd.pair (Kd.int .i64) (Kd.pair Kd.string (Kd.pair Kd.string (Kd.pair Kd.string (Kd.slice 5 (Kd.int .u8)))))))))) (fun x => (x.op, x.h, x.h2, x.off, x.len, str x.path, str x.name, str x.name2, us x.data))
theorem kc_open {w : World} {x : Sp.Call} {cs : List Value} (h : kc.K w x cs) : ∃ A c, cs = callCells x (.slice A x.data.length c) ∧ x.data.length ≤ c ∧ ReadU w A x.data := by
  obtain ⟨_, _, rfl, rfl, ⟨_, _, rfl, rfl, ⟨_, _, rfl, rfl, ⟨_, _, rfl, rfl, ⟨_, _, rfl, rfl, ⟨_, _, rfl, rfl, ⟨_, _, rfl, rfl, ⟨_, _, rfl, rfl, ⟨A8, c8, rfl, l8, g8⟩⟩⟩⟩⟩⟩⟩⟩⟩ := h
  simp only [us_len] at l8 g8
  exact ⟨A8, c8, by simp [callCells, us_len], l8, by rw [ReadU]; simpa [us_len] using g8⟩
theorem kc_mk (w : World) (x : Sp.Call) {A : Option Addr} {c : Nat} (l : x.data.length ≤ c) (g : ReadU w A x.data) : kc.K w x (callCells x (.slice A x.data.length c)) :=
  ⟨_, [.int .i64 x.h, .int .i64 x.h2, .int .i64 x.off, .int .i64 x.len, .string (str x.path), .string (str x.name), .string (str x.name2), .slice A x.data.length c], rfl, rfl, ⟨_, [.int .i64 x.h2, .int .i64 x.off, .int .i64 x.len, .string (str x.path), .string (str x.name), .string (str x.name2), .slice A x.data.length c], rfl, rfl, ⟨_, [.int .i64 x.off, .int .i64 x.len, .string (str x.path), .string (str x.name), .string (str x.name2), .slice A x.data.length c], rfl, rfl, ⟨_, [.int .i64 x.len, .string (str x.path), .string (str x.name), .string (str x.name2), .slice A x.data.length c], rfl, rfl, ⟨_, [.string (str x.path), .string (str x.name), .string (str x.name2), .slice A x.data.length c], rfl, rfl, ⟨_, [.string (str x.name), .string (str x.name2), .slice A x.data.length c], rfl, rfl, ⟨_, [.string (str x.name2), .slice A x.data.length c], rfl, rfl, ⟨_, [.slice A x.data.length c], rfl, rfl, ⟨A, c, by simp [us_len], by simpa [us_len] using l, by simpa [us_len, ReadU] using g⟩⟩⟩⟩⟩⟩⟩⟩⟩
theorem kc_openM {w : World} {base : Nat} {ok : Nat → Prop} {x : Sp.Call} {cs : List Value} (h : kc.M w base ok x cs) : ∃ v, cs = callCells x v ∧ (Kd.int .u8).R 5 w base ok v (us x.data) := by
  obtain ⟨_, _, rfl, rfl, ⟨_, _, rfl, rfl, ⟨_, _, rfl, rfl, ⟨_, _, rfl, rfl, ⟨_, _, rfl, rfl, ⟨_, _, rfl, rfl, ⟨_, _, rfl, rfl, ⟨_, _, rfl, rfl, ⟨v8, rfl, g8⟩⟩⟩⟩⟩⟩⟩⟩⟩ := h
  exact ⟨v8, rfl, g8⟩
theorem kc_mkM (w : World) (base : Nat) (ok : Nat → Prop) (x : Sp.Call) {v : Value} (g : (Kd.int .u8).R 5 w base ok v (us x.data)) : kc.M w base ok x (callCells x v) :=
  ⟨_, [.int .i64 x.h, .int .i64 x.h2, .int .i64 x.off, .int .i64 x.len, .string (str x.path), .string (str x.name), .string (str x.name2), v], rfl, rfl, ⟨_, [.int .i64 x.h2, .int .i64 x.off, .int .i64 x.len, .string (str x.path), .string (str x.name), .string (str x.name2), v], rfl, rfl, ⟨_, [.int .i64 x.off, .int .i64 x.len, .string (str x.path), .string (str x.name), .string (str x.name2), v], rfl, rfl, ⟨_, [.int .i64 x.len, .string (str x.path), .string (str x.name), .string (str x.name2), v], rfl, rfl, ⟨_, [.string (str x.path), .string (str x.name), .string (str x.name2), v], rfl, rfl, ⟨_, [.string (str x.name), .string (str x.name2), v], rfl, rfl, ⟨_, [.string (str x.name2), v], rfl, rfl, ⟨_, [v], rfl, rfl, ⟨v, rfl, g⟩⟩⟩⟩⟩⟩⟩⟩⟩
/-- a step's kind -/
def ko : Kd Sp.Op := Kd.iso (Kd.pair (Kd.int .i64) (Kd.pair (Kd.int .i64) (Kd.pair (Kd.int .i64) (Kd.pair (Kd.int .i64) (Kd.pair (Kd.int .i64) (Kd.pair kc (Kd.pair (Kd.slice 5 (Kd.int .u8)) (Kd.slice 4 Kd.bool)))))))) (fun x => (x.kind, x.a, x.k, x.m, x.x, x.call, us x.data, x.keep))
theorem ko_open {w : World} {x : Sp.Op} {cs : List Value} (h : ko.K w x cs) : ∃ A1 c1 A2 c2 A3 c3, cs = opCells x (.slice A1 x.call.data.length c1) (.slice A2 x.data.length c2) (.slice A3 x.keep.length c3) ∧ x.call.data.length ≤ c1 ∧ ReadU w A1 x.call.data ∧ x.data.length ≤ c2 ∧ ReadU w A2 x.data ∧ x.keep.length ≤ c3 ∧ ReadB w A3 x.keep := by
  obtain ⟨_, _, rfl, rfl, ⟨_, _, rfl, rfl, ⟨_, _, rfl, rfl, ⟨_, _, rfl, rfl, ⟨_, _, rfl, rfl, ⟨_, _, rfl, s5, ⟨_, _, rfl, ⟨A2, c2, rfl, l2, g2⟩, ⟨A3, c3, rfl, l3, g3⟩⟩⟩⟩⟩⟩⟩⟩ := h
  obtain ⟨A1, c1, rfl, l1, g1⟩ := kc_open s5
  simp only [us_len] at l2 g2
  exact ⟨A1, c1, A2, c2, A3, c3, by simp [opCells, callCells, us_len], l1, g1, l2, by rw [ReadU]; simpa [us_len] using g2, l3, g3⟩
theorem ko_mk (w : World) (x : Sp.Op) {A1 A2 A3 : Option Addr} {c1 c2 c3 : Nat} (l1 : x.call.data.length ≤ c1) (g1 : ReadU w A1 x.call.data) (l2 : x.data.length ≤ c2) (g2 : ReadU w A2 x.data) (l3 : x.keep.length ≤ c3) (g3 : ReadB w A3 x.keep) :
    ko.K w x (opCells x (.slice A1 x.call.data.length c1) (.slice A2 x.data.length c2) (.slice A3 x.keep.length c3)) :=
  ⟨_, .int .i64 x.a :: .int .i64 x.k :: .int .i64 x.m :: .int .i64 x.x :: (callCells x.call (.slice A1 x.call.data.length c1) ++ [.slice A2 x.data.length c2, .slice A3 x.keep.length c3]), rfl, rfl, ⟨_, .int .i64 x.k :: .int .i64 x.m :: .int .i64 x.x :: (callCells x.call (.slice A1 x.call.data.length c1) ++ [.slice A2 x.data.length c2, .slice A3 x.keep.length c3]), rfl, rfl, ⟨_, .int .i64 x.m :: .int .i64 x.x :: (callCells x.call (.slice A1 x.call.data.length c1) ++ [.slice A2 x.data.length c2, .slice A3 x.keep.length c3]), rfl, rfl, ⟨_, .int .i64 x.x :: (callCells x.call (.slice A1 x.call.data.length c1) ++ [.slice A2 x.data.length c2, .slice A3 x.keep.length c3]), rfl, rfl, ⟨_, callCells x.call (.slice A1 x.call.data.length c1) ++ [.slice A2 x.data.length c2, .slice A3 x.keep.length c3], rfl, rfl, ⟨_, [.slice A2 x.data.length c2, .slice A3 x.keep.length c3], rfl, kc_mk w x.call l1 g1, ⟨[.slice A2 x.data.length c2], [.slice A3 x.keep.length c3], rfl, ⟨A2, c2, by simp [us_len], by simpa [us_len] using l2, by simpa [us_len, ReadU] using g2⟩, ⟨A3, c3, rfl, l3, g3⟩⟩⟩⟩⟩⟩⟩⟩
theorem ko_openM {w : World} {base : Nat} {ok : Nat → Prop} {x : Sp.Op} {cs : List Value} (h : ko.M w base ok x cs) : ∃ v1 v2 v3, cs = opCells x v1 v2 v3 ∧ (Kd.int .u8).R 5 w base ok v1 (us x.call.data) ∧ (Kd.int .u8).R 5 w base ok v2 (us x.data) ∧ Kd.bool.R 4 w base ok v3 x.keep := by
  obtain ⟨_, _, rfl, rfl, ⟨_, _, rfl, rfl, ⟨_, _, rfl, rfl, ⟨_, _, rfl, rfl, ⟨_, _, rfl, rfl, ⟨_, _, rfl, s5, ⟨_, _, rfl, ⟨v2, rfl, g2⟩, ⟨v3, rfl, g3⟩⟩⟩⟩⟩⟩⟩⟩ := h
  obtain ⟨v1, rfl, g1⟩ := kc_openM s5
  exact ⟨v1, v2, v3, rfl, g1, g2, g3⟩
theorem ko_mkM (w : World) (base : Nat) (ok : Nat → Prop) (x : Sp.Op) {v1 v2 v3 : Value} (g1 : (Kd.int .u8).R 5 w base ok v1 (us x.call.data)) (g2 : (Kd.int .u8).R 5 w base ok v2 (us x.data)) (g3 : Kd.bool.R 4 w base ok v3 x.keep) : ko.M w base ok x (opCells x v1 v2 v3) :=
  ⟨_, .int .i64 x.a :: .int .i64 x.k :: .int .i64 x.m :: .int .i64 x.x :: (callCells x.call v1 ++ [v2, v3]), rfl, rfl, ⟨_, .int .i64 x.k :: .int .i64 x.m :: .int .i64 x.x :: (callCells x.call v1 ++ [v2, v3]), rfl, rfl, ⟨_, .int .i64 x.m :: .int .i64 x.x :: (callCells x.call v1 ++ [v2, v3]), rfl, rfl, ⟨_, .int .i64 x.x :: (callCells x.call v1 ++ [v2, v3]), rfl, rfl, ⟨_, callCells x.call v1 ++ [v2, v3], rfl, rfl, ⟨_, _, rfl, kc_mkM w base ok x.call g1, ⟨_, _, rfl, ⟨v2, rfl, g2⟩, ⟨v3, rfl, g3⟩⟩⟩⟩⟩⟩⟩⟩
end Go.Proofs.YthnhfddlmkhgkaaGreatDoor

set_option linter.unusedVariables false
namespace Go.Proofs.YthnhfddlmkhgkaaGreatDoor
open Go.RowKit Go.Proofs.YthnhfddlmkhgkaaGreatDoorW.PrintWords

/-- a pointer to a cell of a block, or none -/
def ptr (g : Nat) : Option Nat → Value
  | some k => .pointer (some ⟨g, k, none⟩)
  | none => .pointer none
theorem cell_eq {c : UInt8} {C : Int} (h : C = (c.toNat : Int)) : Sp.cell c = if C = 104 then some 1 else if C = 105 then some 2 else if C = 111 then some 3 else if C = 108 then some 4 else none := by
  have e : ∀ (k : UInt8) (K : Int), (k.toNat : Int) = K → (c = k ↔ C = K) := fun k K hk => by
    rw [h, ← hk]; exact ⟨fun e => by rw [e], fun e => UInt8.toNat_inj.1 (by omega)⟩
  unfold Sp.cell
  simp only [e 104 104 rfl, e 105 105 rfl, e 111 111 rfl, e 108 108 rfl]
theorem place_eq {c : UInt8} {C : Int} (h : C = (c.toNat : Int)) : Sp.place c = if C = 97 ∨ C = 106 then some 1 else if C = 107 then some 2 else if C = 109 then some 3 else if C = 120 then some 4 else none := by
  have e : ∀ (k : UInt8) (K : Int), (k.toNat : Int) = K → (c = k ↔ C = K) := fun k K hk => by
    rw [h, ← hk]; exact ⟨fun e => by rw [e], fun e => UInt8.toNat_inj.1 (by omega)⟩
  unfold Sp.place
  simp only [e 97 97 rfl, e 106 106 rfl, e 107 107 rfl, e 109 109 rfl, e 120 120 rfl]

set_option maxHeartbeats 1000000 in
set_option maxRecDepth 100000 in
theorem cell_any (g : Nat) (c : UInt8) (n : Int) (hn : n = (c.toNat : Int)) (w : World) :
    Calls Tryz.prog 97 #[.pointer (some ⟨g, 0, none⟩), .int .u8 n] w (SRet w (ptr g (Sp.cell c))) := by
  have h0 : 0 ≤ n := by omega
  have h1 : n ≤ 255 := by have := c.toNat_lt; omega
  rw [cell_eq hn]
  clear hn
  go_enter Tryz.func97, Tryz.ntmps97
  go_wp2
  all_goals go_ret
  all_goals (simp only [beq_iff_eq, beq_eq_false_iff_ne, ne_eq] at *; refine ⟨?_, rfl⟩; (repeat' split) <;> first | rfl | omega)

set_option maxHeartbeats 1000000 in
set_option maxRecDepth 100000 in
theorem place_any (g : Nat) (c : UInt8) (n : Int) (hn : n = (c.toNat : Int)) (w : World) :
    Calls Tryz.prog 81 #[.pointer (some ⟨g, 0, none⟩), .int .u8 n] w (SRet w (ptr g (Sp.place c))) := by
  have h0 : 0 ≤ n := by omega
  have h1 : n ≤ 255 := by have := c.toNat_lt; omega
  rw [place_eq hn]
  clear hn
  go_enter Tryz.func81, Tryz.ntmps81
  go_wp2
  all_goals go_ret
  all_goals (simp only [beq_iff_eq, beq_eq_false_iff_ne, ne_eq] at *; refine ⟨?_, rfl⟩; (repeat' split) <;> first | rfl | omega)
end Go.Proofs.YthnhfddlmkhgkaaGreatDoor

set_option linter.unusedVariables false
namespace Go.Proofs.YthnhfddlmkhgkaaGreatDoor
open Go.RowKit Go.Proofs.YthnhfddlmkhgkaaGreatDoorW.PrintWords

def ORow (e : TypeId) (w : World) (base : Nat) (v : Value) (vs : List Value) : Prop :=
  (vs = [] ∧ v = .slice none 0 0) ∨ ∃ g cells fr, v = .slice (some ⟨g, 0, none⟩) vs.length cells.size ∧ base ≤ g ∧ g < w.heap.size ∧ w.heap[g]? = some (.cells cells e fr) ∧ (∀ i, i < cells.size → ¬ (fr.1 ≤ i ∧ i < fr.2)) ∧ vs.length ≤ cells.size ∧ cells.size ≤ maxLen ∧ cells.toList.take vs.length = vs
theorem ORow.nil (e : TypeId) (w : World) (base : Nat) : ORow e w base (.slice none 0 0) [] := .inl ⟨rfl, rfl⟩
theorem ORow.own {e : TypeId} {w : World} {base n : Nat} {v : Value} {vs : List Value} (h : w.ownsRow base e 1 v n vs) : ORow e w base v vs := by
  obtain ⟨h1, h2⟩ := h
  rcases h2 with ⟨rfl, h2⟩ | ⟨g, cap, cur, rfl, h2, h3, h4, h5, h6, h7⟩
  · exact .inl ⟨List.eq_nil_of_length_eq_zero (by omega), rfl⟩
  · refine .inr ⟨g, cur, (0, 0), by rw [h1, h6]; simp, h2, ?_, h3, fun i _ => by omega, by omega, by omega, by rw [h1]; exact h7⟩
    rcases Nat.lt_or_ge g w.heap.size with h | h
    · exact h
    · rw [Array.getElem?_eq_none h] at h3; cases h3
theorem ORow.step {e : TypeId} {w w1 : World} {base : Nat} {v : Value} {vs : List Value} (h : ORow e w base v vs) (hs : w.heap.size ≤ w1.heap.size) (hm : ∀ k, v.ownBlock = some k → w1.heap[k]? = w.heap[k]?) : ORow e w1 base v vs := by
  rcases h with h | ⟨g, cells, fr, rfl, h1, h2, h3, h4⟩
  · exact .inl h
  · exact .inr ⟨g, cells, fr, rfl, h1, by omega, (hm g rfl).trans h3, h4⟩
theorem ORow.lt {e : TypeId} {w : World} {base : Nat} {v : Value} {vs : List Value} (h : ORow e w base v vs) : ∀ k, v.ownBlock = some k → base ≤ k ∧ k < w.heap.size := by
  rcases h with ⟨_, rfl⟩ | ⟨g, cells, fr, rfl, h1, h2, h3, h4⟩
  · intro k hk; cases hk
  · intro k hk; have : g = k := by simpa [Value.ownBlock] using hk
    omega
theorem ORow.typed {e : TypeId} {w : World} {base : Nat} {v : Value} {vs : List Value} (h : ORow e w base v vs) : ∀ k, v.ownBlock = some k → ∃ cells fr, w.heap[k]? = some (.cells cells e fr) := by
  rcases h with ⟨_, rfl⟩ | ⟨g, cells, fr, rfl, h1, h2, h3, h4⟩
  · intro k hk; cases hk
  · intro k hk; have : g = k := by simpa [Value.ownBlock] using hk
    subst this; exact ⟨cells, fr, h3⟩
theorem ORow.below {e : TypeId} {w w1 : World} {base : Nat} {v : Value} {vs : List Value} (h : ORow e w base v vs) (hb : Below w.heap.size w w1) : ORow e w1 base v vs :=
  h.step hb.size fun k hk => hb.block k (h.lt k hk).2
theorem ORow.lower {e : TypeId} {w : World} {base base' : Nat} {v : Value} {vs : List Value} (h : ORow e w base v vs) (hb : base' ≤ base) : ORow e w base' v vs := by
  rcases h with h | ⟨g, cells, fr, h0, h1, h2⟩
  · exact .inl h
  · exact .inr ⟨g, cells, fr, h0, by omega, h2⟩
theorem ORow.far {e : TypeId} {w : World} {base : Nat} {v : Value} {vs : List Value} (h : ORow e w base v vs) {p : Addr} (hp : ∀ k, v.ownBlock = some k → k ≠ p.block) (u : Value) : ORow e (w.setCell p u) base v vs :=
  h.step (by simp [World.setCell]) fun k hk => Below.heap_setCell w p u k (hp k hk)
/-- what such a row is, read -/
theorem ORow.reads {α : Type} {enc : α → Value} {h1 : ∀ x, (enc x).oneCell' = true} {e : TypeId} {w : World} {base : Nat} {v : Value} {xs : List α} (h : ORow e w base v (encs enc xs)) :
    ∃ A c, v = .slice A xs.length c ∧ xs.length ≤ c ∧ (Kd.scalar enc h1).C w A xs.length xs := by
  rcases h with ⟨h0, rfl⟩ | ⟨g, cells, fr, rfl, h2, h3, h4, h5, h6, h7, h8⟩
  · have : xs = [] := by cases xs with
      | nil => rfl
      | cons a b => simp [encs] at h0
    subst this
    exact ⟨none, 0, rfl, Nat.le_refl _, rfl, by simp, fun h => absurd h (Nat.lt_irrefl 0)⟩
  · rw [encs_length] at *
    simp only [maxLen] at h7
    refine ⟨some ⟨g, 0, none⟩, cells.size, rfl, h6, rfl, by omega, fun _ => ⟨_, rfl, fun j p hj => ⟨[enc p], rfl, rfl, fun i u hu => ?_⟩⟩⟩
    have hi : i = 0 := by
      cases i with
      | zero => rfl
      | succ i => simp at hu
    subst hi
    have hu' : enc p = u := by simpa using hu
    subst hu'
    have hjl : j < xs.length := (List.getElem?_eq_some_iff.1 hj).1
    rw [add_plain, cell_of_row _ _ _ _ _ _ h4]
    have h9 : (cells.toList.take xs.length)[j]? = (encs enc xs)[j]? := by rw [h8]
    rw [List.getElem?_take_of_lt hjl] at h9
    have h10 : (encs enc xs)[j]? = some (enc p) := by simp [encs, hj]
    rw [h10] at h9
    simpa [Kd.scalar] using h9
/-- bytes, bools -/
abbrev OU (w : World) (base : Nat) (v : Value) (l : List UInt8) : Prop := ORow 5 w base v (encs (Value.int .u8) (us l))
abbrev OB (w : World) (base : Nat) (v : Value) (l : List Bool) : Prop := ORow 4 w base v (encs Value.bool l)
theorem RowU.o {w : World} {base : Nat} {v : Value} {l : List UInt8} (h : RowU w base v l) : OU w base v l := ORow.own (Kd.own_of_R h)
theorem RowB.o {w : World} {base : Nat} {v : Value} {l : List Bool} (h : RowB w base v l) : OB w base v l := ORow.own (Kd.own_of_R h)
theorem OU.reads {w : World} {base : Nat} {v : Value} {l : List UInt8} (h : OU w base v l) : ∃ A c, v = .slice A l.length c ∧ l.length ≤ c ∧ ReadU w A l := by
  obtain ⟨A, c, h1, h2, h3⟩ := ORow.reads (h1 := fun _ => rfl) h
  rw [us_len] at h1 h2 h3
  exact ⟨A, c, h1, h2, by rw [ReadU]; exact h3⟩
theorem OB.reads {w : World} {base : Nat} {v : Value} {l : List Bool} (h : OB w base v l) : ∃ A c, v = .slice A l.length c ∧ l.length ≤ c ∧ ReadB w A l := ORow.reads (h1 := fun _ => rfl) h
/-- []byte(s) -/
theorem OU.conv (w : World) (l : List UInt8) (hl : l.length ≤ 1099511627776) {base : Nat} (hb : base ≤ w.heap.size) :
    OU (Lib.bytesWorld w 5 (str l)) base (.slice (some ⟨w.heap.size, 0, none⟩) l.length (grownCap w (str l).size 0 5)) l := by
  have hc := Lib.bytesWorld_at_new w 5 (str l)
  have hsz := Lib.bytesWorld_size w 5 (str l)
  have hcs : (Lib.bytesCells w 5 (str l)).size = grownCap w (str l).size 0 5 := by
    have h := grownCap_ge w (str l).size 0 5
    have h2 := str_size l
    have h3 : (str l).data.size = (str l).size := rfl
    unfold Lib.bytesCells
    rw [Array.size_append, Array.size_map, Array.size_replicate]
    omega
  have hg := grownCap_ge w (str l).size 0 5
  have hg2 := grownCap_le_maxLen w (str l).size 0 5 (by rw [str_size]; simp only [maxLen]; omega)
  rw [str_size] at hg
  have hel : (encs (Value.int .u8) (us l)).length = l.length := by rw [encs_length, us_len]
  refine .inr ⟨w.heap.size, Lib.bytesCells w 5 (str l), _, by rw [hcs, hel], hb, by omega, hc, fun i hi => by simp only; omega, by rw [hel, hcs]; exact hg, by rw [hcs]; exact hg2, ?_⟩
  rw [hel]
  have ht : (Lib.bytesCells w 5 (str l)).toList = (encs (Value.int .u8) (us l)) ++ List.replicate (grownCap w (str l).size 0 5 - (str l).size) (.int .u8 0) := by
    simp [Lib.bytesCells, encs, us, str, List.map_map, Function.comp_def]
  rw [ht, List.take_append_of_le_length (by rw [hel]; exact Nat.le_refl _), List.take_of_length_le (by rw [hel]; exact Nat.le_refl _)]
end Go.Proofs.YthnhfddlmkhgkaaGreatDoor

set_option linter.unusedVariables false
namespace Go.Proofs.YthnhfddlmkhgkaaGreatDoor
open Go.RowKit Go.Proofs.YthnhfddlmkhgkaaGreatDoorW.PrintWords

theorem row_set {w : World} {g k : Nat} {cs : Array Value} {t : TypeId} {fr : Nat × Nat} (h : w.heap[g]? = some (.cells cs t fr)) (u : Value) : (w.setCell ⟨g, k, none⟩ u).heap[g]? = some (.cells (cs.setIfInBounds k u) t fr) := by
  have hlt : g < w.heap.size := by
    rcases Nat.lt_or_ge g w.heap.size with h1 | h1
    · exact h1
    · rw [Array.getElem?_eq_none h1] at h; cases h
  rw [Array.getElem?_eq_getElem hlt] at h
  injection h with h
  unfold World.setCell
  simp only [Option.isSome_none, Bool.false_eq_true, if_false]
  rw [Array.getElem?_modify, if_pos rfl, Array.getElem?_eq_getElem hlt, h]
  rfl
theorem row_lt {w : World} {g : Nat} {o : Obj} (h : w.heap[g]? = some o) : g < w.heap.size := by
  rcases Nat.lt_or_ge g w.heap.size with h1 | h1
  · exact h1
  · rw [Array.getElem?_eq_none h1] at h; cases h
theorem row_frozen {w : World} {g : Nat} {cs : Array Value} {t : TypeId} (h : w.heap[g]? = some (.cells cs t (0, 0))) (k : Nat) : w.frozen? ⟨g, k, none⟩ = false := by
  simp [World.frozen?, h]
/-- a call's cells in a block of its own, its data's row made later, from base on -/
def CallAt (w : World) (base g : Nat) (c : Sp.Call) : Prop := ∃ v, w.heap[g]? = some (.cells (callCells c v).toArray 51 (0, 0)) ∧ OU w base v c.data ∧ ∀ k, v.ownBlock = some k → g < k
theorem CallAt.step {w w1 : World} {base g : Nat} {c : Sp.Call} (h : CallAt w base g c) (hs : w.heap.size ≤ w1.heap.size) (hm : ∀ k, g ≤ k → k < w.heap.size → w1.heap[k]? = w.heap[k]?) : CallAt w1 base g c := by
  obtain ⟨v, h1, h2, h3⟩ := h
  exact ⟨v, (hm g (Nat.le_refl _) (row_lt h1)).trans h1, h2.step hs (fun k hk => hm k (by have := h3 k hk; omega) (h2.lt k hk).2), h3⟩
theorem CallAt.below {w w1 : World} {base g : Nat} {c : Sp.Call} (h : CallAt w base g c) (hb : Below w.heap.size w w1) : CallAt w1 base g c :=
  h.step hb.size fun k _ hk => hb.block k hk
theorem CallAt.set {w : World} {base g : Nat} {c c' : Sp.Call} {k : Nat} {u : Value} (h : CallAt w base g c) (hd : c'.data = c.data) (hc : ∀ v, (callCells c v).toArray.setIfInBounds k u = (callCells c' v).toArray) : CallAt (w.setCell ⟨g, k, none⟩ u) base g c' := by
  obtain ⟨v, h1, h2, h3⟩ := h
  exact ⟨v, by rw [row_set h1, hc], by rw [hd]; exact h2.far (p := ⟨g, k, none⟩) (fun j hj => by have := h3 j hj; simp only; omega) u, h3⟩

theorem setT_eq {c : UInt8} {C : Int} (h : C = (c.toNat : Int)) (cl : Sp.Call) (s : Sp.Bs) : cl.setT c s = if C = 112 then { cl with path := s } else if C = 110 then { cl with name := s } else if C = 50 then { cl with name2 := s } else if C = 100 then { cl with data := s } else cl := by
  have e : ∀ (k : UInt8) (K : Int), (k.toNat : Int) = K → (c = k ↔ C = K) := fun k K hk => by
    rw [h, ← hk]; exact ⟨fun e => by rw [e], fun e => UInt8.toNat_inj.1 (by omega)⟩
  unfold Sp.Call.setT
  simp only [e 112 112 rfl, e 110 110 rfl, e 50 50 rfl, e 100 100 rfl]

def PutPost (base g : Nat) (w0 w : World) (c : Sp.Call) (e : Ending) (w' : World) : Prop := e = .returned (.tuple #[]) ∧ CallAt w' base g c ∧ Below base w0 w' ∧ ∀ k, k < w.heap.size → k ≠ g → w'.heap[k]? = w.heap[k]?
set_option maxHeartbeats 1000000 in
set_option maxRecDepth 100000 in
theorem put_any (g base : Nat) (c : UInt8) (n : Int) (hn : n = (c.toNat : Int)) (s : Sp.Bs) (cl : Sp.Call) (w0 w : World) (hs : s.length ≤ 1099511627776) (hb : base ≤ g) (hw : Below base w0 w) (hc : CallAt w base g cl) :
    Calls Tryz.prog 100 #[.pointer (some ⟨g, 0, none⟩), .int .u8 n, .string (str s)] w (PutPost base g w0 w (cl.setT c s)) := by
  have h0 : 0 ≤ n := by omega
  have h1 : n ≤ 255 := by have := c.toNat_lt; omega
  have hq := setT_eq hn cl s
  obtain ⟨cq, hcq⟩ : ∃ cq, cq = cl.setT c s := ⟨_, rfl⟩
  rw [← hcq] at hq ⊢
  have HQ := Lib.hid hq
  clear hn hq hcq
  have HC := Lib.hid hc
  obtain ⟨v, hrow, hR, hv⟩ := hc
  have hlt := row_lt hrow
  have f5 : w.cell? ⟨g, 5, none⟩ = some (.string (str cl.path)) := by rw [cell_of_row _ _ _ _ _ _ hrow]; rfl
  have f6 : w.cell? ⟨g, 6, none⟩ = some (.string (str cl.name)) := by rw [cell_of_row _ _ _ _ _ _ hrow]; rfl
  have f7 : w.cell? ⟨g, 7, none⟩ = some (.string (str cl.name2)) := by rw [cell_of_row _ _ _ _ _ _ hrow]; rfl
  have r5 := row_frozen hrow 5
  have r6 := row_frozen hrow 6
  have r7 := row_frozen hrow 7
  have hcv : (convert 9 45 (.string (str s))).run Tryz.prog w = .ok (.slice (some ⟨w.heap.size, 0, none⟩) s.length (grownCap w (str s).size 0 5)) (Lib.bytesWorld w 5 (str s)) := by
    have := Lib.run_convert_string_bytes (P := Tryz.prog) w 9 45 5 (str s) Tryz.underlying9 Tryz.underlying45 Tryz.underlying5
    rw [this, str_size]
  have hou := OU.conv w s hs (base := base) (by omega)
  have hbelow : Below w.heap.size w (Lib.bytesWorld w 5 (str s)) := Lib.bytesWorld_below w 5 (str s)
  obtain ⟨W, hW⟩ : ∃ W, W = Lib.bytesWorld w 5 (str s) := ⟨_, rfl⟩
  obtain ⟨cap, hcap⟩ : ∃ c, c = grownCap w (str s).size 0 5 := ⟨_, rfl⟩
  rw [← hW] at hcv hou hbelow
  rw [← hcap] at hcv hou
  clear hW hcap
  have hrow2 := (hbelow.block g hlt).trans hrow
  have f8 : W.cell? ⟨g, 8, none⟩ = some v := by rw [cell_of_row _ _ _ _ _ _ hrow2]; rfl
  have r8 := row_frozen hrow2 8
  have HH := Lib.hid (And.intro hrow2 (And.intro hou (And.intro hbelow hlt)))
  have HHv := Lib.hid hv
  clear hrow hR hv hou hbelow hrow2 hlt
  have HW := Lib.hid (And.intro hw hb)
  clear hw hb
  go_enter Tryz.func100, Tryz.ntmps100
  go_wp2
  all_goals go_end0
  all_goals (simp only [beq_iff_eq, beq_eq_false_iff_ne, ne_eq] at *; refine ⟨rfl, ?_, ?_, fun k hk hkg => ?_⟩; try rw [HQ.out])
  · rw [if_pos (by assumption)]; exact HC.out.set rfl (fun _ => rfl)
  · exact HW.out.1.setCell (p := ⟨g, 5, none⟩) HW.out.2 _
  · exact Below.heap_setCell w ⟨g, 5, none⟩ _ k hkg
  · rw [if_neg (by omega), if_pos (by assumption)]; exact HC.out.set rfl (fun _ => rfl)
  · exact HW.out.1.setCell (p := ⟨g, 6, none⟩) HW.out.2 _
  · exact Below.heap_setCell w ⟨g, 6, none⟩ _ k hkg
  · rw [if_neg (by omega), if_neg (by omega), if_pos (by assumption)]; exact HC.out.set rfl (fun _ => rfl)
  · exact HW.out.1.setCell (p := ⟨g, 7, none⟩) HW.out.2 _
  · exact Below.heap_setCell w ⟨g, 7, none⟩ _ k hkg
  · rw [if_neg (by omega), if_neg (by omega), if_neg (by omega), if_pos (by assumption)]
    obtain ⟨q1, q2, q3, q4⟩ := HH.out
    refine ⟨_, (row_set q1 _).trans rfl, q2.far (p := ⟨g, 8, none⟩) (fun k hk => ?_) _, fun k hk => ?_⟩
    all_goals
      have : w.heap.size = k := by simpa [Value.ownBlock] using hk
      first | omega | (simp only; omega)
  · obtain ⟨q1, q2, q3, q4⟩ := HH.out
    exact (HW.out.1.trans (q3.mono (by have := HW.out.2; omega))).setCell (p := ⟨g, 8, none⟩) HW.out.2 _
  · exact (Below.heap_setCell W ⟨g, 8, none⟩ _ k hkg).trans (HH.out.2.2.1.block k hk)
  · rw [if_neg (by omega), if_neg (by omega), if_neg (by omega), if_neg (by omega)]; exact HC.out
  · exact HW.out.1
  · rfl
end Go.Proofs.YthnhfddlmkhgkaaGreatDoor

set_option linter.unusedVariables false
namespace Go.Proofs.YthnhfddlmkhgkaaGreatDoor
open Go.RowKit Go.Proofs.YthnhfddlmkhgkaaGreatDoorW.PrintWords

/-- a slice of strings that is read -/
abbrev ReadS (w : World) (A : Option Addr) (l : List Sp.Bs) : Prop := Kd.string.C w A l.length (l.map str)
theorem ReadS.at_ {w : World} {A : Option Addr} {l : List Sp.Bs} (h : ReadS w A l) (k : Nat) (hk : k < l.length) : ∃ ad, A = some ad ∧ w.cell? (ad.add k) = some (.string (str (l[k]'hk))) := by
  obtain ⟨ad, e, hc⟩ := h.2.2 (by omega)
  obtain ⟨c, hl, hK, hcell⟩ := hc k (str (l[k]'hk)) (by rw [List.getElem?_map, List.getElem?_eq_getElem hk]; rfl)
  have hK' : c = [.string (str (l[k]'hk))] := hK
  subst hK'
  refine ⟨ad, e, ?_⟩
  have := hcell 0 _ rfl
  simpa [Kd.string, Kd.scalar] using this
theorem ReadS.below {w w1 : World} {A : Option Addr} {l : List Sp.Bs} (h : ReadS w A l) (hb : Below w.heap.size w w1) : ReadS w1 A l := Kd.C_below h hb
theorem RowS.reads {w : World} {base : Nat} {v : Value} {l : List Sp.Bs} (h : RowS w base v l) : ∃ A c, v = .slice A l.length c ∧ l.length ≤ c ∧ ReadS w A l := by
  obtain ⟨A, c, h1, h2, h3⟩ := Kd.R_reads h
  rw [List.length_map] at h1 h2 h3
  exact ⟨A, c, h1, h2, h3⟩
/-- cells of a table -/
theorem table_cell {w : World} {n : String} {g : Nat} {rows : List (Sp.Bs × Sp.Bs)} (hg : Tryz.prog.globalNamed n = some g) (hv : w.var? Tryz.prog n = some (rowCells rows)) (i : Nat) (hi : i < rows.length) :
    w.cell? ⟨g, i * 2, none⟩ = some (.string (str (rows.getD i ([], [])).1)) ∧ w.cell? ⟨g, i * 2 + 1, none⟩ = some (.string (str (rows.getD i ([], [])).2)) := by
  obtain ⟨t, fr, h⟩ := var_row hg hv
  have key : ∀ (l : List (Sp.Bs × Sp.Bs)) (i : Nat), i < l.length → (l.flatMap fun r => [Value.string (str r.1), Value.string (str r.2)])[2 * i]? = some (.string (str (l.getD i ([], [])).1)) ∧ (l.flatMap fun r => [Value.string (str r.1), Value.string (str r.2)])[2 * i + 1]? = some (.string (str (l.getD i ([], [])).2)) := by
    intro l
    induction l with
    | nil => intro i h; simp at h
    | cons a l ih =>
      intro i h
      cases i with
      | zero => simp
      | succ i =>
        have := ih i (by simpa using h)
        simpa [Nat.mul_add] using this
  rw [cell_of_row _ _ _ _ _ _ h, cell_of_row _ _ _ _ _ _ h]
  have := key rows i hi
  rw [Nat.mul_comm i 2]
  simpa [rowCells] using this
def lenCall (op : Nat) : Nat := (Sp.callRows.getD op ([], [])).2.length
theorem lenCall_le : ∀ op, lenCall op ≤ 4 := by
  intro op
  rcases Nat.lt_or_ge op 11 with h | h
  · have : ∀ o, o < 11 → lenCall o ≤ 4 := by decide
    exact this op h
  · simp [lenCall, List.getD, List.getElem?_eq_none (show Sp.callRows.length ≤ op from h)]

def ShapedPost (w : World) (r : Nat × Nat) (e : Ending) (w' : World) : Prop := e = .returned (.tuple #[.int .i64 (r.1 : Int), .int .i64 (r.2 : Int)]) ∧ Below w.heap.size w w'
set_option maxHeartbeats 2000000 in
set_option maxRecDepth 100000 in
theorem shaped_any (A : Option Addr) (ws : List Sp.Bs) (cap : Nat) (w : World) (he : Env w) (hr : ReadS w A ws) (hl : ws.length ≤ 1099511627776) :
    Calls Tryz.prog 57 #[.slice A ws.length cap] w (ShapedPost w (Sp.shaped ws)) := by
  cases ws with
  | nil =>
    go_enter Tryz.func57, Tryz.ntmps57
    go_wp2
    go_ret2
    exact ⟨rfl, Below.refl _ _⟩
  | cons n r =>
    obtain ⟨ad, hA, hcell⟩ := hr.at_ 0 (by simp)
    subst hA
    simp only [List.length_cons] at hl ⊢
    obtain ⟨op, hop⟩ : ∃ op, op = Sp.findRow Sp.callRows n := ⟨_, rfl⟩
    have hcell0 : w.cell? ad = some (.string (str n)) := by have := hcell; rwa [Addr.add_zero'] at this
    clear hcell hr
    have HE := Lib.hid he
    have HS : Hid (∀ w, Env w → Calls Tryz.prog 104 #[.string (str n)] w (BRet w (.int .i64 (op : Int)))) := Lib.hid (fun w h => by rw [hop]; exact callOf_any n w h)
    clear he
    by_cases h0 : op = 0
    · have T : ((op : Int) == 0) = true := beq_iff_eq.2 (by omega)
      have HSH : Hid (Sp.shaped (n :: r) = (0, 212)) := Lib.hid (by simp only [Sp.shaped]; rw [← hop, if_pos h0])
      clear h0 hop
      go_enter Tryz.func57, Tryz.ntmps57
      go_wp2_with (go_at_call 104; refine (HS.out _ HE.out).mono ?_; rintro e w1 ⟨rfl, HB⟩)
      go_ret2
      rw [HSH.out]
      exact ⟨rfl, HB⟩
    · have T : ((op : Int) == 0) = false := beq_eq_false_iff_ne.2 (by omega)
      have hlt := (Sp.find_lt (rows := Sp.callRows) (l := n) (by rw [← hop]; exact h0)).1
      rw [← hop] at hlt
      have hlt' : op < 11 := hlt
      obtain ⟨f, hf⟩ : ∃ f, f = (Sp.callRows.getD op ([], [])).2 := ⟨_, rfl⟩
      have hfl : f.length ≤ 4 := by rw [hf]; exact lenCall_le op
      have HSH : Hid (Sp.shaped (n :: r) = if r.length ≠ f.length then (0, 215) else (op, 0)) := Lib.hid (by simp only [Sp.shaped]; rw [← hop, if_neg h0, ← hf])
      have HC : Hid (∀ w, Env w → w.cell? ⟨3, op * 2 + 1, none⟩ = some (.string (str f))) := Lib.hid (fun w h => by rw [hf]; exact (table_cell gCalls h.calls op hlt).2)
      have hfs : (str f).size = f.length := str_size f
      clear h0 hop hlt hf
      by_cases hq : r.length = f.length
      · have T2 : ((r.length : Int) + 1 != 1 + (f.length : Int)) = false := by rw [bne_eq_false_iff_eq]; omega
        have HQ := Lib.hid hq
        clear hq
        go_enter Tryz.func57, Tryz.ntmps57
        go_wp2_with (go_at_call 104; refine (HS.out _ HE.out).mono ?_; rintro e w1 ⟨rfl, HB⟩; have hcf := HC.out _ (HE.out.below HB))
        go_ret2
        rw [HSH.out, if_neg (by simpa using HQ.out)]
        exact ⟨rfl, HB⟩
      · have T2 : ((r.length : Int) + 1 != 1 + (f.length : Int)) = true := by rw [bne_iff_ne]; omega
        have HQ := Lib.hid hq
        clear hq
        go_enter Tryz.func57, Tryz.ntmps57
        go_wp2_with (go_at_call 104; refine (HS.out _ HE.out).mono ?_; rintro e w1 ⟨rfl, HB⟩; have hcf := HC.out _ (HE.out.below HB))
        go_ret2
        rw [HSH.out, if_pos HQ.out]
        exact ⟨rfl, HB⟩
end Go.Proofs.YthnhfddlmkhgkaaGreatDoor

set_option linter.unusedVariables false
namespace Go.Proofs.YthnhfddlmkhgkaaGreatDoor
open Go.RowKit Go.Proofs.YthnhfddlmkhgkaaGreatDoorW.PrintWords

theorem number_some {l : Sp.Bs} {v : Int} (h : Sp.number l = some v) (w : World) (he : Env w) (hs : l.length ≤ 1099511627776) : Calls Tryz.prog 77 #[.string (str l)] w (BRet w (.tuple #[.int .i64 v, .bool true])) := by
  refine (number_any l w he hs).mono ?_
  rintro e w1 ⟨x, ok, rfl, hx, hb⟩
  rw [h] at hx
  cases ok with
  | true => injection hx with hx; subst hx; exact ⟨rfl, hb⟩
  | false => cases hx
def NoNum (w : World) (e : Ending) (w' : World) : Prop := ∃ v, e = .returned (.tuple #[.int .i64 v, .bool false]) ∧ Below w.heap.size w w'
theorem number_none {l : Sp.Bs} (h : Sp.number l = none) (w : World) (he : Env w) (hs : l.length ≤ 1099511627776) : Calls Tryz.prog 77 #[.string (str l)] w (NoNum w) := by
  refine (number_any l w he hs).mono ?_
  rintro e w1 ⟨x, ok, rfl, hx, hb⟩
  rw [h] at hx
  cases ok with
  | true => cases hx
  | false => exact ⟨x, rfl, hb⟩
theorem CallAt.num {w : World} {base g : Nat} {c : Sp.Call} (h : CallAt w base g c) : ∀ k, 1 ≤ k → k ≤ 4 → w.cell? ⟨g, k, none⟩ = some (.int .i64 (c.getN k)) ∧ w.frozen? ⟨g, k, none⟩ = false := by
  obtain ⟨v, h1, h2, h3⟩ := h
  intro k hk1 hk4
  refine ⟨?_, row_frozen h1 k⟩
  rw [cell_of_row _ _ _ _ _ _ h1]
  have : k = 1 ∨ k = 2 ∨ k = 3 ∨ k = 4 := by omega
  rcases this with rfl | rfl | rfl | rfl <;> rfl
theorem CallAt.putN {w : World} {base g : Nat} {c : Sp.Call} (h : CallAt w base g c) (k : Nat) (x : Int) (hk1 : 1 ≤ k) (hk4 : k ≤ 4) : CallAt (w.setCell ⟨g, k, none⟩ (.int .i64 x)) base g (c.setN k x) := by
  have : k = 1 ∨ k = 2 ∨ k = 3 ∨ k = 4 := by omega
  rcases this with rfl | rfl | rfl | rfl <;> exact h.set rfl (fun _ => rfl)
theorem cell_rng {c : UInt8} {k : Nat} (h : Sp.cell c = some k) : 1 ≤ k ∧ k ≤ 4 := by
  unfold Sp.cell at h
  repeat' split at h
  all_goals first | (cases h; omega) | cases h
theorem cell_some {g k : Nat} {c : UInt8} {n : Int} (hn : n = (c.toNat : Int)) (h : Sp.cell c = some k) (w : World) : Calls Tryz.prog 97 #[.pointer (some ⟨g, 0, none⟩), .int .u8 n] w (SRet w (.pointer (some ⟨g, k, none⟩))) := by
  have := cell_any g c n hn w; rw [h] at this; exact this
theorem cell_none {g : Nat} {c : UInt8} {n : Int} (hn : n = (c.toNat : Int)) (h : Sp.cell c = none) (w : World) : Calls Tryz.prog 97 #[.pointer (some ⟨g, 0, none⟩), .int .u8 n] w (SRet w (.pointer none)) := by
  have := cell_any g c n hn w; rw [h] at this; exact this
/-- a zero call's cells -/
def ZeroAt (w : World) (g : Nat) : Prop := w.heap[g]? = some (.cells (callCells {} (.slice none 0 0)).toArray 51 (0, 0))
theorem call_one (c : Sp.Call) {v : Value} (hv : v.oneCell' = true) : ((callCells c v).toArray.all (·.oneCell')) = true := by
  unfold callCells
  simp only [List.all_toArray, List.all_cons, List.all_nil, hv, Bool.and_true]
  rfl
theorem ORow.one {e : TypeId} {w : World} {base : Nat} {v : Value} {vs : List Value} (h : ORow e w base v vs) : v.oneCell' = true := by
  rcases h with ⟨_, rfl⟩ | ⟨g, cells, fr, rfl, _⟩ <;> rfl
theorem ZeroAt.below {w w1 : World} {g : Nat} (h : ZeroAt w g) (hb : Below w.heap.size w w1) : ZeroAt w1 g := (hb.block g (row_lt h)).trans h
theorem ZeroAt.far {w : World} {g : Nat} (h : ZeroAt w g) {p : Addr} (hp : g ≠ p.block) (u : Value) : ZeroAt (w.setCell p u) g := (Below.heap_setCell w p u g hp).trans h
theorem setRow_other {w : World} {g k : Nat} (cs : Array Value) (h : k ≠ g) : (w.setRow g cs).heap[k]? = w.heap[k]? := by
  unfold World.setRow
  rw [Array.getElem?_modify, if_neg (Ne.symm h)]
theorem setRow_below {B g : Nat} {w0 w : World} (hb : Below B w0 w) (hBg : B ≤ g) (cs : Array Value) : Below B w0 (w.setRow g cs) :=
  hb.trans ⟨rfl, rfl, rfl, by simp [World.setRow], fun k hk => setRow_other cs (by omega)⟩
def CallPost (w : World) (r : Sp.Call × Nat) (e : Ending) (w' : World) : Prop :=
  ∃ v, e = .returned (.tuple #[.agg (callCells r.1 v).toArray, .int .i64 (r.2 : Int)]) ∧ OU w' w.heap.size v r.1.data ∧ Below w.heap.size w w'
set_option maxHeartbeats 2000000 in
set_option maxRecDepth 100000 in
theorem call_any (op : Nat) (A : Option Addr) (ws : List Sp.Bs) (cap : Nat) (w : World) (he : Env w) (hr : ReadS w A ws) (h0 : 0 < op) (h11 : op < 11) (hl : lenCall op < ws.length) (hws : ∀ x ∈ ws, x.length ≤ 1099511627776) :
    Calls Tryz.prog 58 #[.int .i64 (op : Int), .slice A ws.length cap] w (CallPost w (Sp.call op ws)) := by
  obtain ⟨f, hf⟩ : ∃ f, f = (Sp.callRows.getD op ([], [])).2 := ⟨_, rfl⟩
  have hfl : f.length ≤ 4 := by rw [hf]; exact lenCall_le op
  have hfw : f.length < ws.length := by rw [hf]; exact hl
  have hfs : (str f).size = f.length := str_size f
  have HC : Hid (∀ w, Env w → w.cell? ⟨3, op * 2 + 1, none⟩ = some (.string (str f))) := Lib.hid (fun w h => by rw [hf]; exact (table_cell gCalls h.calls op h11).2)
  have hcf := HC.out w he
  have h3 : 3 < w.heap.size := var_lt gCalls he.calls
  have HF := Lib.hid hf
  have HE := Lib.hid he
  have HR := Lib.hid hr
  have HW := Lib.hid hws
  have HSP : Hid (Sp.call op ws = match Sp.fillCall f (ws.drop 1) { op := op } with | some c => (c, 0) | none => ({}, 213)) := Lib.hid (by rw [hf]; rfl)
  clear hf he hr hl hws
  go_enter Tryz.func58, Tryz.ntmps58
  go_wp2
  obtain ⟨W0, hW0⟩ : ∃ W0, W0 = ((w.alloc (Obj.cells #[Value.int IntKind.i64 0, Value.int IntKind.i64 0, Value.int IntKind.i64 0, Value.int IntKind.i64 0, Value.int IntKind.i64 0, Value.string { data := #[] }, Value.string { data := #[] }, Value.string { data := #[] }, Value.slice none 0 0] 51)).alloc (Obj.cells #[Value.int IntKind.i64 ↑op, Value.int IntKind.i64 0, Value.int IntKind.i64 0, Value.int IntKind.i64 0, Value.int IntKind.i64 0, Value.string { data := #[] }, Value.string { data := #[] }, Value.string { data := #[] }, Value.slice none 0 0] 51)) := ⟨_, rfl⟩
  have hB0 : Below w.heap.size w W0 := by rw [hW0]; exact ((Below.refl _ _).alloc (Nat.le_refl _) _).alloc (by simp) _
  have hG0 : ZeroAt W0 w.heap.size := by
    unfold ZeroAt; rw [hW0, heap_alloc_old (h := by simp), heap_alloc_new]; rfl
  have hC0 : CallAt W0 w.heap.size (w.heap.size + 1) { op := op } := by
    rw [hW0]
    refine ⟨.slice none 0 0, ?_, ORow.nil _ _ _, fun k hk => by simp [Value.ownBlock] at hk⟩
    have hq := heap_alloc_new (w.alloc (Obj.cells #[Value.int IntKind.i64 0, Value.int IntKind.i64 0, Value.int IntKind.i64 0, Value.int IntKind.i64 0, Value.int IntKind.i64 0, Value.string { data := #[] }, Value.string { data := #[] }, Value.string { data := #[] }, Value.slice none 0 0] 51)) (Obj.cells #[Value.int IntKind.i64 ↑op, Value.int IntKind.i64 0, Value.int IntKind.i64 0, Value.int IntKind.i64 0, Value.int IntKind.i64 0, Value.string { data := #[] }, Value.string { data := #[] }, Value.string { data := #[] }, Value.slice none 0 0] 51)
    rw [World.size_alloc] at hq
    exact hq
  rw [← hW0]
  clear hW0 hcf
  go_loopw [20] (fun v20 wr => ∃ (i : Nat) (c : Sp.Call), v20 = .int .i64 (i : Int) ∧ i ≤ f.length ∧ CallAt wr w.heap.size (w.heap.size + 1) c ∧ ZeroAt wr w.heap.size ∧ Hid (Sp.fillCall f (ws.drop 1) { op := op } = Sp.fillCall (f.drop i) (ws.drop (1 + i)) c) ∧ Below w.heap.size w wr) (fun v20 _ => f.length - (intOf v20).toNat)
  case atStart => exact ⟨0, _, rfl, Nat.zero_le _, hC0, hG0, Lib.hid rfl, hB0⟩
  case round =>
    obtain ⟨i, c, rfl, hi, HCA, HG, HQ, HB⟩ := hrel
    clear hC0 hG0 hB0
    have hcf := HC.out wr (HE.out.below HB)
    by_cases hlt : i < f.length
    · have hw1 : IntKind.i64.wrap (1 + (i : Int)) = 1 + (i : Int) := by rw [IntKind.wrap_i64]; omega
      obtain ⟨ad, hA, hcell⟩ := (HR.out.below HB).at_ (1 + i) (by omega)
      subst hA
      go_wp2
      refine region_mix [] [0, 1, 2, 3, 4, 5, 6, 7, 8, 9, 10, 11, 12] [] mixed (by kernel_rfl) (fun _ _ _ _ _ h => h) ?_
      simp only [pick, List.getElem?_cons_zero, List.getElem?_cons_succ]
      refine wpPre_nil ?_
      have q1 : (0 : Int) ≤ (op : Int) ∧ (op : Int) < 11 := ⟨by omega, by omega⟩
      have q2 : (0 : Int) ≤ (i : Int) ∧ (i : Int) < (f.length : Int) := ⟨by omega, by omega⟩
      have q3 : (0 : Int) ≤ 1 + (i : Int) ∧ 1 + (i : Int) < (ws.length : Int) := ⟨by omega, by omega⟩
      have q4 : (1 + (i : Int)).toNat = 1 + i := by omega
      obtain ⟨L, hL⟩ : ∃ L : Int, L = ((f[i]'hlt).toNat : Int) := ⟨_, rfl⟩
      have hx : ∀ h : i < (str f).size, (((str f)[i]'h).toNat : Int) = L := fun h => by rw [hL]; rfl
      obtain ⟨l, hl⟩ : ∃ l, l = f[i]'hlt := ⟨_, rfl⟩
      obtain ⟨x, hxw⟩ : ∃ x, x = ws[1 + i]'(by omega) := ⟨_, rfl⟩
      rw [← hxw] at hcell
      rw [← hl] at hL
      have HL := Lib.hid hL
      have hL0 : 0 ≤ L := by omega
      have hL1 : L ≤ 255 := by have := l.toNat_lt; omega
      have HX := Lib.hid (HW.out x (by rw [hxw]; exact List.getElem_mem _))
      have HQ2 : Hid (Sp.fillCall f (ws.drop 1) { op := op } = Sp.fillCall (l :: f.drop (i + 1)) (x :: ws.drop (1 + (i + 1))) c) := Lib.hid (by
        rw [HQ.out, List.drop_eq_getElem_cons hlt, ← hl, List.drop_eq_getElem_cons (show 1 + i < ws.length by omega), ← hxw]; rfl)
      have hcell' : wr.drew.cell? (ad.add (1 + i)) = some (.string (str x)) := hcell
      have hcf' : wr.drew.cell? ⟨3, op * 2 + 1, none⟩ = some (.string (str f)) := hcf
      clear hl hxw HQ hL hcf
      repeat still_step
      refine wpStill_nil ?_
      clear q1 q2 q3 q4 hx hcell hcell' hcf'
      have HBd := HB.drew
      have HCd := HCA.below ((Below.refl _ _).drew)
      have HGd : ZeroAt wr.drew w.heap.size := HG
      obtain ⟨W, hW⟩ : ∃ W, W = wr.drew := ⟨_, rfl⟩
      rw [← hW] at HBd HCd HGd ⊢
      clear hW HB HCA HG
      cases hcl : Sp.cell l with
      | some k =>
        have hk := cell_rng hcl
        have HCL := Lib.hid hcl
        clear hcl
        cases hnm : Sp.number x with
        | some v =>
          have HNM := Lib.hid hnm
          clear hnm
          have HQ3 : Hid (Sp.fillCall f (ws.drop 1) { op := op } = Sp.fillCall (f.drop (i + 1)) (ws.drop (1 + (i + 1))) (c.setN k v)) := Lib.hid (by rw [HQ2.out]; simp only [Sp.fillCall, HCL.out, HNM.out])
          go_wp2_with (first | (go_at_call 97; refine (cell_some HL.out HCL.out _).mono ?_; rintro e w1 ⟨rfl, rfl⟩) | (go_at_call 77; refine (number_some HNM.out _ (HE.out.below HBd) HX.out).mono ?_; rintro e w2 ⟨rfl, HB2⟩; have HC2 := HCd.below HB2; have HB3 := Lib.hid (HBd.trans (HB2.mono HBd.size)); obtain ⟨hcc, hcfz⟩ := HC2.num k hk.1 hk.2))
          go_roundw
          case rel => exact ⟨i + 1, c.setN k v, by go_num, by omega, HC2.putN k v hk.1 hk.2, (HGd.below HB2).far (by simp only; omega) _, HQ3, HB3.out.setCell (by simp only; omega) _⟩
          case measure => simp [intOf]; omega
        | none =>
          have HNM := Lib.hid hnm
          clear hnm
          have HQ3 : Hid (Sp.call op ws = ({}, 213)) := Lib.hid (by rw [HSP.out, HQ2.out]; simp only [Sp.fillCall, HCL.out, HNM.out])
          go_wp2_with (first | (go_at_call 97; refine (cell_some HL.out HCL.out _).mono ?_; rintro e w1 ⟨rfl, rfl⟩) | (go_at_call 77; refine (number_none HNM.out _ (HE.out.below HBd) HX.out).mono ?_; rintro e w2 ⟨v, rfl, HB2⟩; have HG2 := HGd.below HB2; have HB3 := Lib.hid (HBd.trans (HB2.mono HBd.size))) | (refine wpList_store_row rfl 51 _ _ rfl w.heap.size (callCells {} (.slice none 0 0)).toArray rfl rfl 51 _ HG2 (by kernel_rfl) rfl (call_one _ rfl) ?_))
          refine bodyPost_ret (results_ct rfl _ _ w.heap.size 51 (callCells {} (.slice none 0 0)).toArray (0, 0) _ rfl (setRow_heap _ _ _ _ _ _ HG2) Tryz.underlying51 rfl (by kernel_rfl)) rfl ?_
          rw [HQ3.out]
          exact ⟨.slice none 0 0, rfl, ORow.nil _ _ _, setRow_below HB3.out (Nat.le_refl _) _⟩
      | none =>
        have HCL := Lib.hid hcl
        clear hcl
        have HQ3 : Hid (Sp.fillCall f (ws.drop 1) { op := op } = Sp.fillCall (f.drop (i + 1)) (ws.drop (1 + (i + 1))) (c.setT l x)) := Lib.hid (by rw [HQ2.out]; simp only [Sp.fillCall, HCL.out])
        go_wp2_with (first | (go_at_call 97; refine (cell_none HL.out HCL.out _).mono ?_; rintro e w1 ⟨rfl, rfl⟩) | (go_at_call 100; refine (put_any (w.heap.size + 1) w.heap.size l L HL.out x c w W HX.out (by omega) HBd HCd).mono ?_; rintro e w2 ⟨rfl, HC2, HB2, HK2⟩; have HG2 : ZeroAt w2 w.heap.size := (HK2 _ (row_lt HGd) (by omega)).trans HGd; clear HK2))
        go_roundw
        case rel => exact ⟨i + 1, c.setT l x, by go_num, by omega, HC2, HG2, HQ3, HB2⟩
        case measure => simp [intOf]; omega
    · obtain ⟨v, hv1, hv2, hv3⟩ := HCA
      go_wp2_with (first | (refine wpList_load_row rfl 51 _ rfl (w.heap.size + 1) rfl 51 (callCells c v).toArray _ _ hv1 Tryz.underlying51 rfl (by kernel_rfl) ?_) | (refine wpList_store_row rfl 51 _ _ rfl w.heap.size (callCells c v).toArray rfl rfl 51 _ HG (by kernel_rfl) rfl (call_one _ hv2.one) ?_))
      refine bodyPost_ret (results_ct rfl _ _ w.heap.size 51 (callCells c v).toArray (0, 0) _ rfl (setRow_heap _ _ _ _ _ _ HG) Tryz.underlying51 rfl (by kernel_rfl)) rfl ?_
      have hii : i = f.length := by omega
      have hq : Sp.call op ws = (c, 0) := by
        rw [HSP.out, HQ.out, hii, List.drop_length]
        simp [Sp.fillCall]
      rw [hq]
      exact ⟨v, rfl, hv2.step (by simp) (fun k hk => setRow_other _ (show k ≠ w.heap.size by have := (hv3 k hk); omega)), setRow_below HB (Nat.le_refl _) _⟩
end Go.Proofs.YthnhfddlmkhgkaaGreatDoor

/- Walks: what some functions of the play package and its laws compute, as contracts. -/
import Derived.Test.YthnhfddlmkhgkaaGreatDoorZWritten
set_option linter.unusedVariables false
namespace Go.Proofs.YthnhfddlmkhgkaaGreatDoor
open Go.RowKit Go.Proofs.YthnhfddlmkhgkaaGreatDoorW.PrintWords

set_option maxHeartbeats 2000000 in
set_option maxRecDepth 100000 in
theorem printCall_any (c : Sp.Call) (va : Value) (w : World) (he : Env w) (hc : CallV w c va) (hb : CallB c) :
    Calls Tryz.prog 25 #[.agg (callCells c va).toArray] w (W2 w (Sp.printCall c)) := by
  obtain ⟨A, ka, rfl, hra⟩ := hc
  obtain ⟨t, e, hw⟩ : ∃ t e, Sp.written c = (t, e) := ⟨_, _, rfl⟩
  have HC53 : Hid (∀ w1, Below w.heap.size w w1 → Calls Tryz.prog 53 #[.agg (callCells c (.slice A c.data.length ka)).toArray] w1 (W2 w1 (t, e))) := Lib.hid (fun w1 h => by
    rw [← hw]; exact written_any c _ w1 (he.below h) ⟨A, ka, rfl, hra.below h⟩ hb)
  have HSP : Hid (Sp.printCall c = if e = 0 ∧ 1048576 < t.length then ([], 216) else (t, e)) := Lib.hid (by unfold Sp.printCall; rw [hw])
  have hsz : (str t).size = t.length := str_size t
  clear hw he hra hb
  have hX := cbox_row w c (.slice A c.data.length ka)
  have HB := Lib.hid (cbox_below w c (.slice A c.data.length ka))
  obtain ⟨z, hz⟩ : ∃ b, b = decide (e = 0) := ⟨_, rfl⟩
  obtain ⟨m, hm⟩ : ∃ b, b = decide (1048576 < t.length) := ⟨_, rfl⟩
  have T1 : ((e : Int) == 0) = z := by rw [hz, Bool.eq_iff_iff]; simp
  have T2 : decide (1048576 < (t.length : Int)) = m := by rw [hm, decide_eq_decide]; omega
  have HZ := Lib.hid (And.intro hz hm)
  clear hz hm
  have hX' : (w.alloc (.cells #[.int .i64 c.op, .int .i64 c.h, .int .i64 c.h2, .int .i64 c.off, .int .i64 c.len, .string (str c.path), .string (str c.name), .string (str c.name2), .slice A c.data.length ka] 51)).heap[w.heap.size]? = some (.cells (callCells c (.slice A c.data.length ka)).toArray 51 (0, 0)) := hX
  show Calls Tryz.prog 25 #[.agg #[.int .i64 c.op, .int .i64 c.h, .int .i64 c.h2, .int .i64 c.off, .int .i64 c.len, .string (str c.path), .string (str c.name), .string (str c.name2), .slice A c.data.length ka]] w _
  cases z <;> cases m
  all_goals
    go_enter Tryz.func25, Tryz.ntmps25
    go_wp2_with (first | (refine wpList_load_row rfl 51 (.tmp 1) rfl w.heap.size rfl 51 (callCells c (.slice A c.data.length ka)).toArray _ _ hX' Tryz.underlying51 rfl (by kernel_rfl) ?_) | (go_at_call 53; refine (HC53.out _ HB.out).mono ?_; rintro e1 w6 ⟨rfl, hb6⟩))
    go_ret2
    refine ⟨?_, HB.out.trans (hb6.mono HB.out.size)⟩
    rw [HSP.out]
    have h := HZ.out
    simp only [eq_comm (a := true), eq_comm (a := false), decide_eq_true_iff, decide_eq_false_iff_not] at h
    first
      | (rw [if_pos ⟨h.1, h.2⟩]; rfl)
      | (rw [if_neg (by simp only [not_and]; intro h1; first | exact h.2 | exact absurd h1 h.1)]; rfl)
end Go.Proofs.YthnhfddlmkhgkaaGreatDoor

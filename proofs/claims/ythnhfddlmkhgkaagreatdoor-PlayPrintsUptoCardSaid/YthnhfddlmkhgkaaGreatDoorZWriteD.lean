/- Walks: what some functions of the play package and its laws compute, as contracts. -/
import Derived.Test.YthnhfddlmkhgkaaGreatDoorZWriteC
set_option linter.unusedVariables false
namespace Go.Proofs.YthnhfddlmkhgkaaGreatDoor
open Go.RowKit Go.Proofs.YthnhfddlmkhgkaaGreatDoorW.PrintWords

theorem printCall_errC (c : Sp.Call) : Sp.printCall c = if Sp.errC c ≠ 0 then ([], Sp.errC c) else if 1048576 < (Sp.textC c).length then ([], 216) else (Sp.textC c, 0) := by
  unfold Sp.printCall
  rw [Sp.written_errC]
  by_cases h : Sp.errC c = 0
  · have hno : ¬ (Sp.errC c ≠ 0) := fun q => q h
    rw [if_pos h, if_neg hno]
    simp only [true_and]
  · have hno : ¬ (Sp.errC c = 0 ∧ 1048576 < (([], Sp.errC c) : Sp.Bs × Nat).1.length) := fun q => h q.1
    rw [if_neg h, if_pos h, if_neg hno]
theorem errC_op {c : Sp.Call} (h : Sp.errC c = 0) : 0 < c.op ∧ c.op < 11 := by
  unfold Sp.errC at h
  by_cases q : c.op < 1 ∨ 11 ≤ c.op
  · rw [if_pos q] at h; cases h
  · omega
set_option maxHeartbeats 4000000 in
set_option maxRecDepth 100000 in
theorem rprintCall_any (c : Sp.Call) (va : Value) (w : World) (he : EnvR w) (hc : CallV w c va) (hb : CallB c) :
    Calls Tryz.prog 26 #[.agg (callCells c va).toArray] w (W2 w (Sp.printCall c)) := by
  obtain ⟨A, ka, rfl, hra⟩ := hc
  obtain ⟨e, hee⟩ : ∃ e, e = Sp.errC c := ⟨_, rfl⟩
  obtain ⟨t, ht⟩ : ∃ t, t = Sp.textC c := ⟨_, rfl⟩
  have HSP : Hid (Sp.printCall c = if e ≠ 0 then ([], e) else if 1048576 < t.length then ([], 216) else (t, 0)) := Lib.hid (by rw [hee, ht]; exact printCall_errC c)
  have hX : (w.alloc (.cells #[.int .i64 c.op, .int .i64 c.h, .int .i64 c.h2, .int .i64 c.off, .int .i64 c.len, .string (str c.path), .string (str c.name), .string (str c.name2), .slice A c.data.length ka] 51)).heap[w.heap.size]? = some (.cells (callCells c (.slice A c.data.length ka)).toArray 51 (0, 0)) := cbox_row w c (.slice A c.data.length ka)
  obtain ⟨W0, hW0⟩ : ∃ W0, W0 = w.alloc (.cells #[.int .i64 c.op, .int .i64 c.h, .int .i64 c.h2, .int .i64 c.off, .int .i64 c.len, .string (str c.path), .string (str c.name), .string (str c.name2), .slice A c.data.length ka] 51) := ⟨_, rfl⟩
  have hB0 : Below w.heap.size w W0 := by rw [hW0]; exact (Below.refl _ _).alloc (Nat.le_refl _) _
  rw [← hW0] at hX
  have HC54 : Hid (Calls Tryz.prog 54 #[.agg (callCells c (.slice A c.data.length ka)).toArray] W0 (BRet W0 (.int .i64 (e : Nat)))) := Lib.hid (by
    rw [hee]; exact rcallErr_any c _ W0 (he.below hB0) ⟨A, ka, rfl, hra.below hB0⟩)
  have hsz : (str t).size = t.length := str_size t
  have HB := Lib.hid hB0
  have HX := Lib.hid hX
  show Calls Tryz.prog 26 #[.agg #[.int .i64 c.op, .int .i64 c.h, .int .i64 c.h2, .int .i64 c.off, .int .i64 c.len, .string (str c.path), .string (str c.name), .string (str c.name2), .slice A c.data.length ka]] w _
  by_cases h0 : e = 0
  · have hop := errC_op (c := c) (by rw [← hee]; exact h0)
    have T1 : ((e : Int) != 0) = false := by rw [h0]; rfl
    have HC55 : Hid (∀ w1, Below W0.heap.size W0 w1 → Calls Tryz.prog 55 #[.agg (callCells c (.slice A c.data.length ka)).toArray] w1 (BRet w1 (.string (str t)))) := Lib.hid (fun w1 h => by
      have hbw := HB.out.trans (h.mono HB.out.size)
      rw [ht]; exact rcallText_any c _ w1 (he.below hbw) ⟨A, ka, rfl, hra.below hbw⟩ hb hop.1 hop.2)
    have HE0 := Lib.hid h0
    have HXW : Hid (∀ w1, Below W0.heap.size W0 w1 → w1.heap[w.heap.size]? = some (.cells (callCells c (.slice A c.data.length ka)).toArray 51 (0, 0))) := Lib.hid (fun w1 h => (h.block _ (row_lt HX.out)).trans HX.out)
    clear hee ht he hra hb h0 hop hB0
    by_cases hm : 1048576 < t.length
    · have T2 : decide (1048576 < (t.length : Int)) = true := decide_eq_true (by omega)
      have HF : Hid (Sp.printCall c = ([], 216)) := Lib.hid (by rw [HSP.out, if_neg (fun q => q HE0.out), if_pos hm])
      clear HSP hm
      go_enter Tryz.func26, Tryz.ntmps26
      go_upto_region 1 with fail
      rw [← hW0]
      clear hW0
      go_wp2_with (first | (refine wpList_load_row rfl 51 (.tmp 1) rfl w.heap.size rfl 51 (callCells c (.slice A c.data.length ka)).toArray _ _ hX Tryz.underlying51 rfl (by kernel_rfl) ?_) | (go_at_call 54; refine HC54.out.mono ?_; rintro e1 w1 ⟨rfl, hb1⟩; have hX1 := HXW.out w1 hb1; clear hX) | (refine wpList_load_row rfl 51 (.tmp 1) rfl w.heap.size rfl 51 (callCells c (.slice A c.data.length ka)).toArray _ _ hX1 Tryz.underlying51 rfl (by kernel_rfl) ?_) | (go_at_call 55; refine (HC55.out _ hb1).mono ?_; rintro e2 w2 ⟨rfl, hb2⟩))
      go_ret2
      rw [HF.out]
      exact ⟨rfl, HB.out.trans ((hb1.trans (hb2.mono hb1.size)).mono HB.out.size)⟩
    · have T2 : decide (1048576 < (t.length : Int)) = false := decide_eq_false (by omega)
      have HF : Hid (Sp.printCall c = (t, 0)) := Lib.hid (by rw [HSP.out, if_neg (fun q => q HE0.out), if_neg hm])
      clear HSP hm
      go_enter Tryz.func26, Tryz.ntmps26
      go_upto_region 1 with fail
      rw [← hW0]
      clear hW0
      go_wp2_with (first | (refine wpList_load_row rfl 51 (.tmp 1) rfl w.heap.size rfl 51 (callCells c (.slice A c.data.length ka)).toArray _ _ hX Tryz.underlying51 rfl (by kernel_rfl) ?_) | (go_at_call 54; refine HC54.out.mono ?_; rintro e1 w1 ⟨rfl, hb1⟩; have hX1 := HXW.out w1 hb1; clear hX) | (refine wpList_load_row rfl 51 (.tmp 1) rfl w.heap.size rfl 51 (callCells c (.slice A c.data.length ka)).toArray _ _ hX1 Tryz.underlying51 rfl (by kernel_rfl) ?_) | (go_at_call 55; refine (HC55.out _ hb1).mono ?_; rintro e2 w2 ⟨rfl, hb2⟩))
      go_ret2
      rw [HF.out]
      exact ⟨rfl, HB.out.trans ((hb1.trans (hb2.mono hb1.size)).mono HB.out.size)⟩
  · have T1 : ((e : Int) != 0) = true := by rw [bne_iff_ne]; omega
    have HF : Hid (Sp.printCall c = ([], e)) := Lib.hid (by rw [HSP.out, if_pos h0])
    clear HSP hee ht he hra hb h0 hB0
    go_enter Tryz.func26, Tryz.ntmps26
    go_upto_region 1 with fail
    rw [← hW0]
    clear hW0
    go_wp2_with (first | (refine wpList_load_row rfl 51 (.tmp 1) rfl w.heap.size rfl 51 (callCells c (.slice A c.data.length ka)).toArray _ _ hX Tryz.underlying51 rfl (by kernel_rfl) ?_) | (go_at_call 54; refine HC54.out.mono ?_; rintro e1 w1 ⟨rfl, hb1⟩))
    go_ret2
    rw [HF.out]
    exact ⟨rfl, HB.out.trans (hb1.mono HB.out.size)⟩
end Go.Proofs.YthnhfddlmkhgkaaGreatDoor

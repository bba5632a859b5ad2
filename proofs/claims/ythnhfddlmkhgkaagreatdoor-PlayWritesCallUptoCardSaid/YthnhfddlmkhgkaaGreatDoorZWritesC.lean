/- Walks: what some functions of the play package and its laws compute, as contracts. -/
import Derived.Test.YthnhfddlmkhgkaaGreatDoorZWriteD
import Derived.Test.YthnhfddlmkhgkaaGreatDoorZReadsC
set_option linter.unusedVariables false
namespace Go.Proofs.YthnhfddlmkhgkaaGreatDoor
open Go.RowKit Go.Proofs.YthnhfddlmkhgkaaGreatDoorW.PrintWords

/-- a call's box, its data laid anew -/
theorem call_put8 (c : Sp.Call) (v u : Value) : (callCells c v).toArray.setIfInBounds 8 u = (callCells c u).toArray := rfl
theorem two_boxes (w : World) (o1 o2 : Obj) : ((w.alloc o1).alloc o2).heap[w.heap.size]? = some o1 ∧ ((w.alloc o1).alloc o2).heap[w.heap.size + 1]? = some o2 ∧ Below w.heap.size w ((w.alloc o1).alloc o2) := by
  have h1 := heap_alloc_new w o1
  have h2 := heap_alloc_new (w.alloc o1) o2
  rw [World.size_alloc] at h2
  exact ⟨(heap_alloc_old _ _ (row_lt h1)).trans h1, h2, ((Below.refl _ _).alloc (Nat.le_refl _) _).alloc (by simp) _⟩
set_option maxHeartbeats 8000000 in
set_option maxRecDepth 100000 in
/-- the walk of PlayWritesCall -/
theorem writes_any (c : Sp.Call) (va : Value) (w : World) (he : EnvR w) (hc : CallV w c va) (hb : CallB c) :
    Calls Tryz.prog 9 #[.agg (callCells c va).toArray] w (BRet w (.bool true)) := by
  obtain ⟨A, ka, rfl, hra⟩ := hc
  obtain ⟨t, n, htn⟩ : ∃ t n, Sp.printCall c = (t, n) := ⟨_, _, rfl⟩
  have H25 : Hid (∀ (w1 : World) (v : Value), Env w1 → CallV w1 c v → Calls Tryz.prog 25 #[.agg (callCells c v).toArray] w1 (fun e w' => e = .returned (.tuple #[.string (str t), .int .i64 (n : Int)]) ∧ Below w1.heap.size w1 w')) := Lib.hid (fun w1 v h hv => by
    have h := printCall_any c v w1 h hv hb
    rw [htn] at h
    exact h)
  have H26 : Hid (∀ (w1 : World) (v : Value), EnvR w1 → CallV w1 c v → Calls Tryz.prog 26 #[.agg (callCells c v).toArray] w1 (fun e w' => e = .returned (.tuple #[.string (str t), .int .i64 (n : Int)]) ∧ Below w1.heap.size w1 w')) := Lib.hid (fun w1 v h hv => by
    have h := rprintCall_any c v w1 h hv hb
    rw [htn] at h
    exact h)
  have H27 : Hid (∀ w (v v' : Value), CallV w c v → CallV w c v' → Calls Tryz.prog 27 #[.agg (callCells c v).toArray, .agg (callCells c v').toArray] w (BRet w (.bool true))) := Lib.hid (fun w v v' h h' => by
    have h2 := sameCall_any c c v v' w h h' (by have := hb.data; omega)
    rwa [decide_eq_true rfl] at h2)
  have H18 : Hid (∀ w, Env w → Calls Tryz.prog 18 #[] w (BRet w (.bool true))) := Lib.hid first_any
  have H24 : Hid (∀ w1, Below w.heap.size w w1 → Calls Tryz.prog 24 #[.slice A c.data.length ka] w1 (fun e w' => ∃ B k2, e = .returned (.slice B c.data.length k2) ∧ RowU w' w1.heap.size (.slice B c.data.length k2) c.data ∧ Below w1.heap.size w1 w')) := Lib.hid (fun w1 h => (bytes_any A c.data ka w1 (hra.below h) (by have := hb.data; omega)).mono fun e w' ⟨v, h1, h2, h3⟩ => by
    obtain ⟨B, k2, e2, _, _⟩ := OU.reads (RowU.o h2)
    subst e2
    exact ⟨B, k2, h1, h2, h3⟩)
  have hX := (two_boxes w (.cells (callCells c (.slice A c.data.length ka)).toArray 51) (.cells (callCells c (.slice A c.data.length ka)).toArray 51))
  have hX0 := cbox_row w c (.slice A c.data.length ka)
  have HX := Lib.hid hX
  have HE := Lib.hid he
  have HR := Lib.hid hra
  clear he hb hra htn hX
  show Calls Tryz.prog 9 #[.agg #[.int .i64 c.op, .int .i64 c.h, .int .i64 c.h2, .int .i64 c.off, .int .i64 c.len, .string (str c.path), .string (str c.name), .string (str c.name2), .slice A c.data.length ka]] w _
  go_enter Tryz.func9, Tryz.ntmps9
  go_upto_region 2 with (refine wpList_load_row rfl 51 (.tmp 1) rfl w.heap.size rfl 51 #[.int .i64 c.op, .int .i64 c.h, .int .i64 c.h2, .int .i64 c.off, .int .i64 c.len, .string (str c.path), .string (str c.name), .string (str c.name2), .slice A c.data.length ka] (0, 0) _ hX0 Tryz.underlying51 rfl (by kernel_rfl) ?_)
  obtain ⟨W1, hW1⟩ : ∃ W1, W1 = (w.alloc (.cells #[.int .i64 c.op, .int .i64 c.h, .int .i64 c.h2, .int .i64 c.off, .int .i64 c.len, .string (str c.path), .string (str c.name), .string (str c.name2), .slice A c.data.length ka] 51)).alloc (.cells #[.int .i64 c.op, .int .i64 c.h, .int .i64 c.h2, .int .i64 c.off, .int .i64 c.len, .string (str c.path), .string (str c.name), .string (str c.name2), .slice A c.data.length ka] 51) := ⟨_, rfl⟩
  have HX1 : Hid (W1.heap[w.heap.size]? = some (.cells (callCells c (.slice A c.data.length ka)).toArray 51 (0, 0)) ∧ W1.heap[w.heap.size + 1]? = some (.cells (callCells c (.slice A c.data.length ka)).toArray 51 (0, 0)) ∧ Below w.heap.size w W1) := Lib.hid (by rw [hW1]; exact HX.out)
  rw [← hW1]
  clear hW1 HX hX0
  have x8 := (call_all HX1.out.1).2.2.2.2.2.2.2.2
  go_upto_region 3 with (go_at_call 24; refine (H24.out _ HX1.out.2.2).mono ?_; rintro e w1 ⟨B, k2, rfl, hv, hb1⟩; have hr1 := (hb1.block _ (row_lt HX1.out.2.1)).trans HX1.out.2.1; have y8 := (call_all hr1).2.2.2.2.2.2.2.2; have hf8 := row_frozen hr1 8; have HV := Lib.hid hv; have HB1 := Lib.hid hb1; clear hv hb1 x8)
  obtain ⟨W2, hW2⟩ : ∃ W2, W2 = w1.setCell ⟨w.heap.size + 1, 8, none⟩ (.slice B c.data.length k2) := ⟨_, rfl⟩
  have HX2 : Hid (W2.heap[w.heap.size]? = some (.cells (callCells c (.slice A c.data.length ka)).toArray 51 (0, 0)) ∧ W2.heap[w.heap.size + 1]? = some (.cells (callCells c (.slice B c.data.length k2)).toArray 51 (0, 0)) ∧ Below w.heap.size w W2 ∧ CallV W2 c (.slice B c.data.length k2) ∧ CallV W2 c (.slice A c.data.length ka)) := Lib.hid (by
    obtain ⟨h1, h2, h3⟩ := HX1.out
    have hb := h3.trans (HB1.out.mono h3.size)
    have hb2 : Below w.heap.size w W2 := by rw [hW2]; exact hb.setCell (by simp) _
    have h1' := (HB1.out.block _ (row_lt h1)).trans h1
    have ho : OU W2 W1.heap.size (.slice B c.data.length k2) c.data := by
      rw [hW2]
      refine (RowU.o HV.out).far (fun k hk e2 => ?_) _
      have := ((RowU.o HV.out).lt k hk).1
      have hlt := row_lt h2
      simp only at e2
      omega
    obtain ⟨B2, k3, e3, _, h4⟩ := OU.reads ho
    injection e3 with q1 q2 q3
    subst q1 q3
    exact ⟨by rw [hW2]; exact (Below.heap_setCell w1 ⟨w.heap.size + 1, 8, none⟩ _ w.heap.size (by simp only; omega)).trans h1', by rw [hW2, row_set hr1, call_put8], hb2, ⟨_, _, rfl, h4⟩, ⟨A, ka, rfl, HR.out.below hb2⟩⟩)
  rw [← hW2]
  clear hW2 hr1 y8 hf8 HX1
  obtain ⟨hA, hBx, _⟩ := HX2.out
  have hHB : Hid (∀ w3, Below W2.heap.size W2 w3 → w3.heap[w.heap.size]? = some (.cells (callCells c (.slice A c.data.length ka)).toArray 51 (0, 0)) ∧ w3.heap[w.heap.size + 1]? = some (.cells (callCells c (.slice B c.data.length k2)).toArray 51 (0, 0)) ∧ Below w.heap.size w w3 ∧ CallV w3 c (.slice B c.data.length k2) ∧ CallV w3 c (.slice A c.data.length ka)) := Lib.hid (fun w3 h => by
    obtain ⟨h1, h2, h3, h4, h5⟩ := HX2.out
    exact ⟨(h.block _ (row_lt h1)).trans h1, (h.block _ (row_lt h2)).trans h2, h3.trans (h.mono h3.size), h4.under h, h5.under h⟩)
  have tk0 := trivial
  go_wp2_with (first
    | (have tq := tk0; refine wpList_load_row rfl 51 (.tmp 3) rfl (w.heap.size + 1) rfl 51 (callCells c (.slice B c.data.length k2)).toArray (0, 0) _ hBx Tryz.underlying51 rfl (by kernel_rfl) ?_)
    | (go_at_call 25; refine (H25.out _ _ (HE.out.env.below HX2.out.2.2.1) HX2.out.2.2.2.1).mono ?_; rintro e w3 ⟨rfl, hb3⟩; obtain ⟨g1, g2, g3, g4, g5⟩ := hHB.out _ hb3; clear tk0; have tk1 := trivial)
    | (have tq := tk1; refine wpList_load_row rfl 51 (.tmp 1) rfl w.heap.size rfl 51 (callCells c (.slice A c.data.length ka)).toArray (0, 0) _ g1 Tryz.underlying51 rfl (by kernel_rfl) ?_)
    | (go_at_call 26; refine (H26.out _ _ (HE.out.below g3) g5).mono ?_; rintro e w4 ⟨rfl, hb4⟩; have hb4' := hb3.trans (hb4.mono hb3.size); obtain ⟨m1, m2, m3, m4, m5⟩ := hHB.out _ hb4'; clear tk1; have tk2 := trivial)
    | (have tq := tk2; refine wpList_load_row rfl 51 (.tmp 3) rfl (w.heap.size + 1) rfl 51 (callCells c (.slice B c.data.length k2)).toArray (0, 0) _ m2 Tryz.underlying51 rfl (by kernel_rfl) ?_)
    | (have tq := tk2; refine wpList_load_row rfl 51 (.tmp 1) rfl w.heap.size rfl 51 (callCells c (.slice A c.data.length ka)).toArray (0, 0) _ m1 Tryz.underlying51 rfl (by kernel_rfl) ?_)
    | (go_at_call 27; refine (H27.out _ _ _ m4 m5).mono ?_; rintro e w5 ⟨rfl, hb5⟩; have HB5 := Lib.hid (m3.trans (hb5.mono m3.size)))
    | (go_at_call 17; refine (num_any _ _).mono ?_; rintro e w7 ⟨rfl, rfl⟩)
    | (go_at_call 18; refine (H18.out _ (HE.out.env.below HB5.out)).mono ?_; rintro e w8 ⟨rfl, hb8⟩))
  go_ret
  exact ⟨rfl, HB5.out.trans (hb8.mono HB5.out.size)⟩
end Go.Proofs.YthnhfddlmkhgkaaGreatDoor

/- Walks: what some functions of the play package and its laws compute, as contracts. -/
import Derived.Test.YthnhfddlmkhgkaaGreatDoorZPrintsD
import Derived.Test.YthnhfddlmkhgkaaGreatDoorZPrintsE
import Derived.Test.YthnhfddlmkhgkaaGreatDoorZFirst
set_option linter.unusedVariables false
namespace Go.Proofs.YthnhfddlmkhgkaaGreatDoor
open Go.RowKit Go.Proofs.YthnhfddlmkhgkaaGreatDoorW.PrintWords

theorem playV_long {w : World} {base : Nat} {v : Value} {p : Sp.Play} (h : OpsRow w base v p.ops) (h11 : p.nums.length = 11) (hb : PlayB p) (hl : p.ops.length ≤ 1048576) : PlayV w p v := by
  obtain ⟨A, c, e, _, r⟩ := h.reads
  exact ⟨h11, A, c, e, r, by omega, fun o ho => ⟨by have := (hb.ops o ho).data; omega, by have := (hb.ops o ho).keep; omega, by have := (hb.ops o ho).call.data; omega⟩⟩
set_option maxHeartbeats 8000000 in
set_option maxRecDepth 100000 in
/-- the walk of PlayPrints -/
theorem prints_any (p : Sp.Play) (vp : Value) (w : World) (he : EnvP w) (hv : PlayV w p vp) (hb : PlayB p) (hn : p.ops.length ≤ 1048576) :
    Calls Tryz.prog 4 #[.agg (playCells p.nums vp).toArray] w (BRet w (.bool true)) := by
  have hv0 := hv
  obtain ⟨na, A, ka, rfl, _, _, _⟩ := hv
  obtain ⟨t, n, htn⟩ : ∃ t n, Sp.print p = (t, n) := ⟨_, _, rfl⟩
  have H20 : Hid (∀ w1, Below w.heap.size w w1 → Calls Tryz.prog 20 #[.agg (playCells p.nums (.slice A p.ops.length ka)).toArray] w1 (fun e w' => ∃ v, e = .returned (.agg (playCells p.nums v).toArray) ∧ PlayV w' p v ∧ Below w1.heap.size w1 w')) := Lib.hid (fun w1 h => (twin_any p _ w1 (hv0.below h) (fun o ho => ⟨(hb.ops o ho).data, (hb.ops o ho).keep, (hb.ops o ho).call.data⟩) hn).mono fun e w' ⟨v, h1, h2, h3⟩ => ⟨v, h1, playV_long h2 na hb hn, h3⟩)
  have H19 : Hid (∀ (w1 : World) (v : Value), Env w1 → PlayV w1 p v → Calls Tryz.prog 19 #[.agg (playCells p.nums v).toArray] w1 (fun e w' => e = .returned (.tuple #[.string (str t), .int .i64 (n : Int)]) ∧ Below w1.heap.size w1 w')) := Lib.hid (fun w1 v h hv => by
    have h := print_any p v w1 h hv hb
    rw [htn] at h
    exact h)
  have H21 : Hid (∀ (w1 : World), EnvP w1 → Below w.heap.size w w1 → Calls Tryz.prog 21 #[.agg (playCells p.nums (.slice A p.ops.length ka)).toArray] w1 (fun e w' => e = .returned (.tuple #[.string (str t), .int .i64 (n : Int)]) ∧ Below w1.heap.size w1 w')) := Lib.hid (fun w1 h hw => by
    have h := rprint_any p _ w1 h (hv0.below hw) hb
    rw [htn] at h
    exact h)
  have H18 : Hid (∀ w, Env w → Calls Tryz.prog 18 #[] w (BRet w (.bool true))) := Lib.hid first_any
  have HE := Lib.hid he
  obtain ⟨N, hN⟩ : ∃ N, N = p.nums := ⟨_, rfl⟩
  rw [← hN] at H20 H19 H21 na ⊢
  obtain ⟨a0, a1, a2, a3, a4, a5, a6, a7, a8, a9, a10, ea⟩ := list11 na
  have hx0 := pbox_row w N (.slice A p.ops.length ka)
  have hb0 := pbox_below w N (.slice A p.ops.length ka)
  obtain ⟨W0, hW0⟩ : ∃ W0, W0 = pbox w N (.slice A p.ops.length ka) := ⟨_, rfl⟩
  rw [← hW0] at hx0 hb0
  have hw0 : W0 = w.alloc (.cells #[.int .i64 a0, .int .i64 a1, .int .i64 a2, .int .i64 a3, .int .i64 a4, .int .i64 a5, .int .i64 a6, .int .i64 a7, .int .i64 a8, .int .i64 a9, .int .i64 a10, .slice A p.ops.length ka] 28) := by rw [hW0, ea]; rfl
  have hsz12 : (playCells N (.slice A p.ops.length ka)).toArray.size = 12 := by simp [playCells, na]
  have HX0 := Lib.hid hx0
  have HB0 := Lib.hid hb0
  rw [show #[Value.agg (playCells N (.slice A p.ops.length ka)).toArray] = #[Value.agg #[.int .i64 a0, .int .i64 a1, .int .i64 a2, .int .i64 a3, .int .i64 a4, .int .i64 a5, .int .i64 a6, .int .i64 a7, .int .i64 a8, .int .i64 a9, .int .i64 a10, .slice A p.ops.length ka]] by rw [ea]; rfl]
  clear hN hv0 hb he hb0 hW0 htn ea
  go_enter Tryz.func4, Tryz.ntmps4
  go_upto_region 1 with fail
  rw [← hw0]
  clear hw0
  have tk0 := trivial
  go_wp2_with (first
    | (have tq := tk0; refine wpList_load_row rfl 28 (.tmp 1) rfl w.heap.size rfl 28 (playCells N (.slice A p.ops.length ka)).toArray (0, 0) _ hx0 Tryz.underlying28 rfl (by rw [hsz12]; kernel_rfl) ?_)
    | (go_at_call 20; refine (H20.out _ HB0.out).mono ?_; rintro e w1 ⟨v, rfl, hv1, hb1⟩; have HW1 := Lib.hid (And.intro hv1 (HB0.out.trans (hb1.mono HB0.out.size))); have hx1 := (hb1.block _ (row_lt HX0.out)).trans HX0.out; clear hv1 hb1 tk0 hx0)
    | (go_at_call 19; refine (H19.out _ _ (HE.out.r.env.below HW1.out.2) HW1.out.1).mono ?_; rintro e w2 ⟨rfl, hb2⟩; have HW2 := Lib.hid (HW1.out.2.trans (hb2.mono HW1.out.2.size)); have hx2 := (hb2.block _ (row_lt hx1)).trans hx1; clear hb2 hx1; have tk1 := trivial)
    | (have tq := tk1; refine wpList_load_row rfl 28 (.tmp 1) rfl w.heap.size rfl 28 (playCells N (.slice A p.ops.length ka)).toArray (0, 0) _ hx2 Tryz.underlying28 rfl (by rw [hsz12]; kernel_rfl) ?_)
    | (go_at_call 21; refine (H21.out _ (HE.out.below HW2.out) HW2.out).mono ?_; rintro e w3 ⟨rfl, hb3⟩; have HW3 := Lib.hid (HW2.out.trans (hb3.mono HW2.out.size)); clear hb3 tk1 hx2)
    | (go_at_call 17; refine (num_any _ _).mono ?_; rintro e w7 ⟨rfl, rfl⟩)
    | (go_at_call 18; refine (H18.out _ (HE.out.r.env.below HW3.out)).mono ?_; rintro e w8 ⟨rfl, hb8⟩))
  go_ret
  exact ⟨rfl, HW3.out.trans (hb8.mono HW3.out.size)⟩
end Go.Proofs.YthnhfddlmkhgkaaGreatDoor

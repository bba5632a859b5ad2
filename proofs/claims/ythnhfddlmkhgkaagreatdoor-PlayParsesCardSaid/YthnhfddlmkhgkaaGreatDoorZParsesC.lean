/- Walks: what some functions of the play package and its laws compute, as contracts. -/
import Derived.Test.YthnhfddlmkhgkaaGreatDoorZRefK
import Derived.Test.YthnhfddlmkhgkaaGreatDoorZCanonC
import Derived.Test.YthnhfddlmkhgkaaGreatDoorZReadsC
set_option linter.unusedVariables false
namespace Go.Proofs.YthnhfddlmkhgkaaGreatDoor
open Go.RowKit Go.Proofs.YthnhfddlmkhgkaaGreatDoorW.PrintWords

theorem play15 (t : Sp.Bs) (p : Sp.Play) (n er : Nat) (hp : Sp.parse t = (p, n, er)) (a0 a1 a2 a3 a4 a5 a6 a7 a8 a9 a10 : Int) (ea : p.nums = [a0, a1, a2, a3, a4, a5, a6, a7, a8, a9, a10]) (w : World) (he : EnvP w) (hs : t.length ≤ 140737488355328) :
    Calls Tryz.prog 15 #[.string (str t)] w (P14 p a0 a1 a2 a3 a4 a5 a6 a7 a8 a9 a10 n er w) := by
  have hb := parse_B t
  have h := rparse_any t w he hs
  rw [hp] at h hb
  refine h.mono ?_
  rintro e w1 ⟨v, rfl, h11, ho, hbl⟩
  have hv := playV_of ho h11 hb.1 hb.2
  have hv' := hv
  obtain ⟨_, A, k, rfl, _⟩ := hv
  refine ⟨A, k, ?_, hv', hbl⟩
  simp only
  rw [ea]
  rfl
theorem PlayV.und {w w1 : World} {p : Sp.Play} {v : Value} (h : PlayV w p v) (hb : Below w.heap.size w w1) : PlayV w1 p v := by
  obtain ⟨h1, A, k, e, r, h2⟩ := h
  exact ⟨h1, A, k, e, r.below hb, h2⟩
set_option maxHeartbeats 8000000 in
set_option maxRecDepth 100000 in
/-- the walk of PlayParses -/
theorem parses_any (t : Sp.Bs) (w : World) (he : EnvP w) (hs : t.length ≤ 140737488355328) : Calls Tryz.prog 3 #[.string (str t)] w (BRet w (.bool true)) := by
  obtain ⟨p, n, er, hp⟩ : ∃ p n er, Sp.parse t = (p, n, er) := ⟨_, _, _, rfl⟩
  have hl : p.nums.length = 11 := by
    have h := nums_parse t
    rwa [hp] at h
  obtain ⟨a0, a1, a2, a3, a4, a5, a6, a7, a8, a9, a10, ea⟩ := list11 hl
  have H14 : Hid (∀ w, Env w → Calls Tryz.prog 14 #[.string (str t)] w (P14 p a0 a1 a2 a3 a4 a5 a6 a7 a8 a9 a10 n er w)) := Lib.hid (fun w h => play14 t p n er hp a0 a1 a2 a3 a4 a5 a6 a7 a8 a9 a10 ea w h hs)
  have H15 : Hid (∀ w, EnvP w → Calls Tryz.prog 15 #[.string (str t)] w (P14 p a0 a1 a2 a3 a4 a5 a6 a7 a8 a9 a10 n er w)) := Lib.hid (fun w h => play15 t p n er hp a0 a1 a2 a3 a4 a5 a6 a7 a8 a9 a10 ea w h hs)
  have H16 : Hid (∀ (w : World) (A B : Option Addr) (j k : Nat), PlayV w p (.slice A p.ops.length j) → PlayV w p (.slice B p.ops.length k) → Calls Tryz.prog 16 #[.agg #[.int .i64 a0, .int .i64 a1, .int .i64 a2, .int .i64 a3, .int .i64 a4, .int .i64 a5, .int .i64 a6, .int .i64 a7, .int .i64 a8, .int .i64 a9, .int .i64 a10, .slice A p.ops.length j], .agg #[.int .i64 a0, .int .i64 a1, .int .i64 a2, .int .i64 a3, .int .i64 a4, .int .i64 a5, .int .i64 a6, .int .i64 a7, .int .i64 a8, .int .i64 a9, .int .i64 a10, .slice B p.ops.length k]] w (BRet w (.bool true))) := Lib.hid (fun w A B j k h1 h2 => play16 p a0 a1 a2 a3 a4 a5 a6 a7 a8 a9 a10 ea A B j k w h1 h2)
  have H18 : Hid (∀ w, Env w → Calls Tryz.prog 18 #[] w (BRet w (.bool true))) := Lib.hid first_any
  have HE := Lib.hid he
  clear he hs hp hl ea
  go_enter Tryz.func3, Tryz.ntmps3
  go_wp2_with (first
    | (go_at_call 14; refine (H14.out _ HE.out.r.env).mono ?_; rintro e w1 ⟨A, k, rfl, hv1, hb1⟩)
    | (go_at_call 15; refine (H15.out _ (HE.out.below (hb1.alloc hb1.size _))).mono ?_; rintro e w2 ⟨B, k2, rfl, hv2, hb2⟩; have hrA := two_rows hb2 (.cells #[.int .i64 a0, .int .i64 a1, .int .i64 a2, .int .i64 a3, .int .i64 a4, .int .i64 a5, .int .i64 a6, .int .i64 a7, .int .i64 a8, .int .i64 a9, .int .i64 a10, .slice B p.ops.length k2] 28); have hrB := heap_alloc_new w2 (.cells #[.int .i64 a0, .int .i64 a1, .int .i64 a2, .int .i64 a3, .int .i64 a4, .int .i64 a5, .int .i64 a6, .int .i64 a7, .int .i64 a8, .int .i64 a9, .int .i64 a10, .slice B p.ops.length k2] 28); have HV := Lib.hid (And.intro (((hv1.und ((Below.refl _ _).alloc (Nat.le_refl _) _)).und hb2).und (below_new w2 (.cells #[.int .i64 a0, .int .i64 a1, .int .i64 a2, .int .i64 a3, .int .i64 a4, .int .i64 a5, .int .i64 a6, .int .i64 a7, .int .i64 a8, .int .i64 a9, .int .i64 a10, .slice B p.ops.length k2] 28))) (hv2.und (below_new w2 (.cells #[.int .i64 a0, .int .i64 a1, .int .i64 a2, .int .i64 a3, .int .i64 a4, .int .i64 a5, .int .i64 a6, .int .i64 a7, .int .i64 a8, .int .i64 a9, .int .i64 a10, .slice B p.ops.length k2] 28)))); have HB2 := Lib.hid (((hb1.alloc hb1.size _).trans (hb2.mono (hb1.alloc hb1.size _).size)).alloc ((hb1.alloc hb1.size _).trans (hb2.mono (hb1.alloc hb1.size _).size)).size (.cells #[.int .i64 a0, .int .i64 a1, .int .i64 a2, .int .i64 a3, .int .i64 a4, .int .i64 a5, .int .i64 a6, .int .i64 a7, .int .i64 a8, .int .i64 a9, .int .i64 a10, .slice B p.ops.length k2] 28)); clear hv1 hb1 hv2 hb2; have tk1 := trivial)
    | (have tq := tk1; refine wpList_load_row rfl 28 (.tmp 3) rfl w1.heap.size rfl 28 #[.int .i64 a0, .int .i64 a1, .int .i64 a2, .int .i64 a3, .int .i64 a4, .int .i64 a5, .int .i64 a6, .int .i64 a7, .int .i64 a8, .int .i64 a9, .int .i64 a10, .slice A p.ops.length k] (0, 0) _ hrA Tryz.underlying28 rfl (by kernel_rfl) ?_)
    | (have tq := tk1; refine wpList_load_row rfl 28 (.tmp 6) rfl w2.heap.size rfl 28 #[.int .i64 a0, .int .i64 a1, .int .i64 a2, .int .i64 a3, .int .i64 a4, .int .i64 a5, .int .i64 a6, .int .i64 a7, .int .i64 a8, .int .i64 a9, .int .i64 a10, .slice B p.ops.length k2] (0, 0) _ hrB Tryz.underlying28 rfl (by kernel_rfl) ?_)
    | (go_at_call 16; refine (H16.out _ _ _ _ _ HV.out.1 HV.out.2).mono ?_; rintro e w3 ⟨rfl, hb3⟩; have HB3 := Lib.hid (HB2.out.trans (hb3.mono HB2.out.size)); clear hb3)
    | (go_at_call 17; refine (num_any _ _).mono ?_; rintro e w7 ⟨rfl, rfl⟩)
    | (go_at_call 18; refine (H18.out _ (HE.out.r.env.below HB3.out)).mono ?_; rintro e w8 ⟨rfl, hb8⟩))
  go_ret
  exact ⟨rfl, HB3.out.trans (hb8.mono HB3.out.size)⟩
end Go.Proofs.YthnhfddlmkhgkaaGreatDoor

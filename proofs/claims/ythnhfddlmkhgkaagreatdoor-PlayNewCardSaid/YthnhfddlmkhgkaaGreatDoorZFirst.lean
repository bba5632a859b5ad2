/- Walks: what some functions of the play package and its laws compute, as contracts. -/
import Derived.Test.YthnhfddlmkhgkaaGreatDoorZLittle
import Derived.Test.YthnhfddlmkhgkaaGreatDoorZLawAll
set_option linter.unusedVariables false
namespace Go.Proofs.YthnhfddlmkhgkaaGreatDoor
open Go.RowKit Go.Proofs.YthnhfddlmkhgkaaGreatDoorW.PrintWords

/-- the little play, as a value -/
def lagg (v : Value) : Array Value := #[.int .i64 2, .int .i64 4, .int .i64 4, .int .i64 16, .int .i64 32, .int .i64 8192, .int .i64 200, .int .i64 40, .int .i64 2, .int .i64 8, .int .i64 64, v]
theorem first45 (w : World) : Calls Tryz.prog 45 #[] w (fun e w' => ∃ A k, e = .returned (.tuple #[.agg (lagg (.slice A 3 k)), .string (str Sp.littleT)]) ∧ PlayV w' Sp.little (.slice A 3 k) ∧ Below w.heap.size w w') := by
  refine (little_any w).mono ?_
  rintro e w1 ⟨v, rfl, hv, hb⟩
  have hv' := hv
  obtain ⟨_, A, k, rfl, _⟩ := hv
  exact ⟨A, k, rfl, hv', hb⟩
theorem first19 (A : Option Addr) (k : Nat) (w : World) (he : Env w) (hv : PlayV w Sp.little (.slice A 3 k)) : Calls Tryz.prog 19 #[.agg (lagg (.slice A 3 k))] w (fun e w' => e = .returned (.tuple #[.string (str Sp.littleT), .int .i64 0]) ∧ Below w.heap.size w w') := by
  have h := print_any Sp.little (.slice A 3 k) w he hv little_B
  rw [Sp.little_print] at h
  exact h
theorem first14 (w : World) (he : Env w) : Calls Tryz.prog 14 #[.string (str Sp.littleT)] w (fun e w' => ∃ A k, e = .returned (.tuple #[.agg (lagg (.slice A 3 k)), .int .i64 0, .int .i64 0]) ∧ PlayV w' Sp.little (.slice A 3 k) ∧ Below w.heap.size w w') := by
  have h := parse_any Sp.littleT w he (by decide +kernel)
  rw [Sp.little_parse] at h
  refine h.mono ?_
  rintro e w1 ⟨v, rfl, h11, ho, hb⟩
  have hv := playV_of ho h11 little_B (by decide)
  have hv' := hv
  obtain ⟨_, A, k, rfl, _⟩ := hv
  exact ⟨A, k, rfl, hv', hb⟩
theorem first16 (A B : Option Addr) (j k : Nat) (w : World) (ha : PlayV w Sp.little (.slice A 3 j)) (hb : PlayV w Sp.little (.slice B 3 k)) : Calls Tryz.prog 16 #[.agg (lagg (.slice A 3 j)), .agg (lagg (.slice B 3 k))] w (BRet w (.bool true)) := by
  have h := same_any Sp.little Sp.little _ _ w ha hb
  rw [decide_eq_true rfl] at h
  exact h
set_option maxHeartbeats 4000000 in
set_option maxRecDepth 100000 in
theorem first_any (w : World) (he : Env w) : Calls Tryz.prog 18 #[] w (BRet w (.bool true)) := by
  have HE := Lib.hid he
  obtain ⟨LT, hLT⟩ : ∃ x, x = str Sp.littleT := ⟨_, rfl⟩
  have H45 : Hid (∀ w, Calls Tryz.prog 45 #[] w (fun e w' => ∃ A k, e = .returned (.tuple #[.agg #[.int .i64 2, .int .i64 4, .int .i64 4, .int .i64 16, .int .i64 32, .int .i64 8192, .int .i64 200, .int .i64 40, .int .i64 2, .int .i64 8, .int .i64 64, .slice A 3 k], .string LT]) ∧ PlayV w' Sp.little (.slice A 3 k) ∧ Below w.heap.size w w')) := Lib.hid (fun w => by rw [hLT]; exact first45 w)
  have H19 : Hid (∀ A k w, Env w → PlayV w Sp.little (.slice A 3 k) → Calls Tryz.prog 19 #[.agg #[.int .i64 2, .int .i64 4, .int .i64 4, .int .i64 16, .int .i64 32, .int .i64 8192, .int .i64 200, .int .i64 40, .int .i64 2, .int .i64 8, .int .i64 64, .slice A 3 k]] w (fun e w' => e = .returned (.tuple #[.string LT, .int .i64 0]) ∧ Below w.heap.size w w')) := Lib.hid (fun A k w h1 h2 => by rw [hLT]; exact first19 A k w h1 h2)
  have H14 : Hid (∀ w, Env w → Calls Tryz.prog 14 #[.string LT] w (fun e w' => ∃ A k, e = .returned (.tuple #[.agg #[.int .i64 2, .int .i64 4, .int .i64 4, .int .i64 16, .int .i64 32, .int .i64 8192, .int .i64 200, .int .i64 40, .int .i64 2, .int .i64 8, .int .i64 64, .slice A 3 k], .int .i64 0, .int .i64 0]) ∧ PlayV w' Sp.little (.slice A 3 k) ∧ Below w.heap.size w w')) := Lib.hid (fun w h => by rw [hLT]; exact first14 w h)
  have H16 : Hid (∀ A B j k w, PlayV w Sp.little (.slice A 3 j) → PlayV w Sp.little (.slice B 3 k) → Calls Tryz.prog 16 #[.agg #[.int .i64 2, .int .i64 4, .int .i64 4, .int .i64 16, .int .i64 32, .int .i64 8192, .int .i64 200, .int .i64 40, .int .i64 2, .int .i64 8, .int .i64 64, .slice A 3 j], .agg #[.int .i64 2, .int .i64 4, .int .i64 4, .int .i64 16, .int .i64 32, .int .i64 8192, .int .i64 200, .int .i64 40, .int .i64 2, .int .i64 8, .int .i64 64, .slice B 3 k]] w (BRet w (.bool true))) := Lib.hid (fun A B j k w h1 h2 => first16 A B j k w h1 h2)
  clear hLT he
  go_enter Tryz.func18, Tryz.ntmps18
  go_wp2_with (first
    | (go_at_call 45; refine (H45.out _).mono ?_; rintro e w1 ⟨A, k, rfl, hv, hb⟩; have hb1 := hb.alloc hb.size (.cells #[.int .i64 2, .int .i64 4, .int .i64 4, .int .i64 16, .int .i64 32, .int .i64 8192, .int .i64 200, .int .i64 40, .int .i64 2, .int .i64 8, .int .i64 64, .slice A 3 k] 28); have hv1 := hv.below ((Below.refl _ _).alloc (Nat.le_refl _) (.cells #[.int .i64 2, .int .i64 4, .int .i64 4, .int .i64 16, .int .i64 32, .int .i64 8192, .int .i64 200, .int .i64 40, .int .i64 2, .int .i64 8, .int .i64 64, .slice A 3 k] 28)); have hr1 := heap_alloc_new w1 (.cells #[.int .i64 2, .int .i64 4, .int .i64 4, .int .i64 16, .int .i64 32, .int .i64 8192, .int .i64 200, .int .i64 40, .int .i64 2, .int .i64 8, .int .i64 64, .slice A 3 k] 28); have HR1 := Lib.hid (And.intro hb1 (And.intro hv1 hr1)); clear hb1 hv1 hr1 hb hv)
    | (go_at_call 19; refine (H19.out A k _ (HE.out.below HR1.out.1) HR1.out.2.1).mono ?_; rintro e w2 ⟨rfl, hb2⟩; have HR2 := Lib.hid (And.intro (HR1.out.1.trans (hb2.mono HR1.out.1.size)) (And.intro (HR1.out.2.1.below hb2) ((hb2.block _ (row_lt HR1.out.2.2)).trans HR1.out.2.2))); clear hb2)
    | (go_at_call 14; refine (H14.out _ (HE.out.below HR2.out.1)).mono ?_; rintro e w3 ⟨B, j, rfl, hv3, hb3⟩; have HR3 := Lib.hid (And.intro (HR2.out.1.trans (hb3.mono HR2.out.1.size)) (And.intro (HR2.out.2.1.below hb3) (And.intro hv3 ((hb3.block _ (row_lt HR2.out.2.2)).trans HR2.out.2.2)))); have hb4 : Below w3.heap.size w3 (w3.alloc (.cells #[.int .i64 2, .int .i64 4, .int .i64 4, .int .i64 16, .int .i64 32, .int .i64 8192, .int .i64 200, .int .i64 40, .int .i64 2, .int .i64 8, .int .i64 64, .slice B 3 j] 28)) := (Below.refl _ _).alloc (Nat.le_refl _) _; have HR4 := Lib.hid (And.intro (HR3.out.1.trans (hb4.mono HR3.out.1.size)) (And.intro (HR3.out.2.1.below hb4) (And.intro (HR3.out.2.2.1.below hb4) ((hb4.block _ (row_lt HR3.out.2.2.2)).trans HR3.out.2.2.2)))); clear hb4 hb3 hv3)
    | (refine wpList_load_row rfl 28 (.tmp 1) rfl w1.heap.size rfl 28 _ _ _ HR4.out.2.2.2 Tryz.underlying28 rfl (by kernel_rfl) ?_)
    | (go_at_call 16; refine (H16.out B A j k _ HR4.out.2.2.1 HR4.out.2.1).mono ?_; rintro e w5 ⟨rfl, hb5⟩; have HR5 := Lib.hid (HR4.out.1.trans (hb5.mono HR4.out.1.size)); clear hb5)
    | (go_at_call 17; refine (num_any _ _).mono ?_; rintro e w6 ⟨rfl, rfl⟩))
  go_ret
  exact ⟨rfl, HR5.out⟩
end Go.Proofs.YthnhfddlmkhgkaaGreatDoor

/- Walks: what some functions of the play package and its laws compute, as contracts. -/
import Derived.Test.YthnhfddlmkhgkaaGreatDoorZRoundC
import Derived.Test.YthnhfddlmkhgkaaGreatDoorZLawAll
set_option linter.unusedVariables false
namespace Go.Proofs.YthnhfddlmkhgkaaGreatDoor
open Go.RowKit Go.Proofs.YthnhfddlmkhgkaaGreatDoorW.PrintWords

theorem parse_len {t : Sp.Bs} (h : 1048576 < t.length) : Sp.parse t = ({}, 0, 216) := by unfold Sp.parse; rw [if_pos h]
theorem parse_err {t : Sp.Bs} (h : (Sp.parse t).2.2 ≠ 0) : (Sp.parse t).1 = {} := by
  by_cases hl : 1048576 < t.length
  · rw [parse_len hl]
  · rw [Sp.parse_small (by omega)] at *
    rcases Sp.lines_tell _ t 1 false {} (Nat.le_refl _) (Nat.le_refl _) with h1 | h1
    · rcases h1.2 with h2 | h2
      · exact absurd h2 h
      · exact h2.2
    · exact h1.2.2.1
theorem parse_fine {t : Sp.Bs} (h : (Sp.parse t).2.2 = 0) : (Sp.parse t).2.1 = 0 := by
  by_cases hl : 1048576 < t.length
  · rw [parse_len hl]
  · rw [Sp.parse_small (by omega)] at *
    rcases Sp.lines_tell _ t 1 false {} (Nat.le_refl _) (Nat.le_refl _) with h1 | h1
    · exact h1.1
    · exact absurd h h1.2.1
theorem nilV (w : World) : PlayV w {} (.slice none 0 0) := ⟨rfl, none, 0, rfl, ⟨rfl, by simp, fun h => absurd h (by simp)⟩, by simp, by simp⟩
theorem nums_parse (t : Sp.Bs) : (Sp.parse t).1.nums.length = 11 := by
  by_cases h : (Sp.parse t).2.2 = 0
  · exact (Sp.parse_ok h).2.1
  · rw [parse_err h]; rfl

set_option maxHeartbeats 8000000 in
set_option maxRecDepth 100000 in
/-- the walk of PlayCanon -/
theorem canon_any (t0 : Sp.Bs) (w : World) (he : Env w) (hs0 : t0.length ≤ 140737488355328) :
    Calls Tryz.prog 6 #[.string (str t0)] w (BRet w (.bool true)) := by
  obtain ⟨p, n0, er0, hp⟩ : ∃ p n e, Sp.parse t0 = (p, n, e) := ⟨_, _, _, rfl⟩
  have na : p.nums.length = 11 := by have h := nums_parse t0; rwa [hp] at h
  obtain ⟨a0, a1, a2, a3, a4, a5, a6, a7, a8, a9, a10, ea⟩ := list11 na
  have hB : PlayB p := by have h := (parse_B t0).1; rwa [hp] at h
  have HE := Lib.hid he
  have H18 : Hid (∀ w, Env w → Calls Tryz.prog 18 #[] w (BRet w (.bool true))) := Lib.hid first_any
  have H14 : Hid (∀ w, Env w → Calls Tryz.prog 14 #[.string (str t0)] w (P14 p a0 a1 a2 a3 a4 a5 a6 a7 a8 a9 a10 n0 er0 w)) := Lib.hid (fun w h => play14 t0 p n0 er0 hp _ _ _ _ _ _ _ _ _ _ _ ea w h hs0)
  by_cases he0 : er0 = 0
  · have hn0 : n0 = 0 := by have h := parse_fine (t := t0) (by rw [hp]; exact he0); rwa [hp] at h
    subst he0 hn0
    have hok : Sp.okPlay p := by have h := Sp.parse_ok (t := t0) (by rw [hp]); rwa [hp] at h
    have H19 : Hid (∀ A k w, Env w → PlayV w p (.slice A p.ops.length k) → Calls Tryz.prog 19 #[.agg #[.int .i64 a0, .int .i64 a1, .int .i64 a2, .int .i64 a3, .int .i64 a4, .int .i64 a5, .int .i64 a6, .int .i64 a7, .int .i64 a8, .int .i64 a9, .int .i64 a10, .slice A p.ops.length k]] w (W2 w (Sp.print p))) := Lib.hid (fun A k w h1 h2 => play19 p _ _ _ _ _ _ _ _ _ _ _ ea A k w h1 h2 hB)
    have H16 : Hid (∀ A B j k w, PlayV w p (.slice A p.ops.length j) → PlayV w p (.slice B p.ops.length k) → Calls Tryz.prog 16 #[.agg #[.int .i64 a0, .int .i64 a1, .int .i64 a2, .int .i64 a3, .int .i64 a4, .int .i64 a5, .int .i64 a6, .int .i64 a7, .int .i64 a8, .int .i64 a9, .int .i64 a10, .slice A p.ops.length j], .agg #[.int .i64 a0, .int .i64 a1, .int .i64 a2, .int .i64 a3, .int .i64 a4, .int .i64 a5, .int .i64 a6, .int .i64 a7, .int .i64 a8, .int .i64 a9, .int .i64 a10, .slice B p.ops.length k]] w (BRet w (.bool true))) := Lib.hid (fun A B j k w h1 h2 => play16 p _ _ _ _ _ _ _ _ _ _ _ ea A B j k w h1 h2)
    rcases Sp.print_ok hok with h0 | h216
    · obtain ⟨t, er, hpr⟩ : ∃ t er, Sp.print p = (t, er) := ⟨_, _, rfl⟩
      have her : er = 0 := by rw [hpr] at h0; exact h0
      subst her
      rw [hpr] at H19
      have hpb := Sp.print_back na (by rw [hpr])
      rw [hpr] at hpb
      have hlen : t.length ≤ 1048576 := by
        obtain ⟨_, _, t2, _, h4, h5⟩ := Sp.print_open (p := p) (by rw [hpr])
        rw [hpr] at h4
        simp only at h4
        rw [h4]; exact h5
      have H14b : Hid (∀ w, Env w → Calls Tryz.prog 14 #[.string (str t)] w (P14 p a0 a1 a2 a3 a4 a5 a6 a7 a8 a9 a10 0 0 w)) := Lib.hid (fun w h => play14 t p 0 0 hpb _ _ _ _ _ _ _ _ _ _ _ ea w h (by omega))
      clear hpb hlen hpr ea na hB he hp hok h0
      go_enter Tryz.func6, Tryz.ntmps6
      go_wp2_with (first
        | (go_at_call 18; refine (H18.out _ HE.out).mono ?_; rintro e w1 ⟨rfl, hb⟩; have HB1 := Lib.hid hb; clear hb)
        | (go_at_call 14; refine (H14b.out _ (HE.out.below HR3.out.1)).mono ?_; rintro e w4 ⟨B, j, rfl, hv4, hb4⟩; have hb5 : Below w4.heap.size w4 (w4.alloc (.cells #[.int .i64 a0, .int .i64 a1, .int .i64 a2, .int .i64 a3, .int .i64 a4, .int .i64 a5, .int .i64 a6, .int .i64 a7, .int .i64 a8, .int .i64 a9, .int .i64 a10, .slice B p.ops.length j] 28)) := (Below.refl _ _).alloc (Nat.le_refl _) _; have HR4 := Lib.hid (And.intro ((HR3.out.1.trans (hb4.mono HR3.out.1.size)).trans (hb5.mono (Nat.le_trans HR3.out.1.size hb4.size))) (And.intro ((HR3.out.2.1.below hb4).below hb5) (And.intro (hv4.below hb5) (And.intro ((hb5.block _ (Nat.lt_of_lt_of_le (row_lt HR3.out.2.2) hb4.size)).trans ((hb4.block _ (row_lt HR3.out.2.2)).trans HR3.out.2.2)) (heap_alloc_new w4 (.cells #[.int .i64 a0, .int .i64 a1, .int .i64 a2, .int .i64 a3, .int .i64 a4, .int .i64 a5, .int .i64 a6, .int .i64 a7, .int .i64 a8, .int .i64 a9, .int .i64 a10, .slice B p.ops.length j] 28)))))); clear hb4 hb5 hv4)
        | (go_at_call 14; refine (H14.out _ (HE.out.below HB1.out)).mono ?_; rintro e w2 ⟨A, k, rfl, hv2, hb2⟩; have hb3 : Below w2.heap.size w2 (w2.alloc (.cells #[.int .i64 a0, .int .i64 a1, .int .i64 a2, .int .i64 a3, .int .i64 a4, .int .i64 a5, .int .i64 a6, .int .i64 a7, .int .i64 a8, .int .i64 a9, .int .i64 a10, .slice A p.ops.length k] 28)) := (Below.refl _ _).alloc (Nat.le_refl _) _; have HR2 := Lib.hid (And.intro ((HB1.out.trans (hb2.mono HB1.out.size)).trans (hb3.mono (Nat.le_trans HB1.out.size hb2.size))) (And.intro (hv2.below hb3) (heap_alloc_new w2 (.cells #[.int .i64 a0, .int .i64 a1, .int .i64 a2, .int .i64 a3, .int .i64 a4, .int .i64 a5, .int .i64 a6, .int .i64 a7, .int .i64 a8, .int .i64 a9, .int .i64 a10, .slice A p.ops.length k] 28)))); clear hb2 hb3 hv2)
        | (refine wpList_load_row rfl 28 (.tmp 10) rfl w4.heap.size rfl 28 _ _ _ HR5.out.2.2.2.2 Tryz.underlying28 rfl (by kernel_rfl) ?_)
        | (refine wpList_load_row rfl 28 (.tmp 4) rfl w2.heap.size rfl 28 _ _ _ HR5.out.2.2.2.1 Tryz.underlying28 rfl (by kernel_rfl) ?_)
        | (go_at_call 19; refine (H19.out B j _ (HE.out.below HR4.out.1) HR4.out.2.2.1).mono ?_; rintro e w5 ⟨rfl, hb5⟩; have HR5 := Lib.hid (And.intro (HR4.out.1.trans (hb5.mono HR4.out.1.size)) (And.intro (HR4.out.2.1.below hb5) (And.intro (HR4.out.2.2.1.below hb5) (And.intro ((hb5.block _ (row_lt HR4.out.2.2.2.1)).trans HR4.out.2.2.2.1) ((hb5.block _ (row_lt HR4.out.2.2.2.2)).trans HR4.out.2.2.2.2))))); clear hb5)
        | (go_at_call 19; refine (H19.out A k _ (HE.out.below HR2.out.1) HR2.out.2.1).mono ?_; rintro e w3 ⟨rfl, hb3⟩; have HR3 := Lib.hid (And.intro (HR2.out.1.trans (hb3.mono HR2.out.1.size)) (And.intro (HR2.out.2.1.below hb3) ((hb3.block _ (row_lt HR2.out.2.2)).trans HR2.out.2.2))); clear hb3)
        | (go_at_call 16; refine (H16.out B A j k _ HR5.out.2.2.1 HR5.out.2.1).mono ?_; rintro e w6 ⟨rfl, hb6⟩; have HR6 := Lib.hid (HR5.out.1.trans (hb6.mono HR5.out.1.size)); clear hb6)
        | (go_at_call 17; refine (num_any _ _).mono ?_; rintro e w7 ⟨rfl, rfl⟩))
      go_ret
      exact ⟨rfl, HR6.out⟩
    · rw [h216] at H19
      clear ea na hB he hp hok h216
      go_enter Tryz.func6, Tryz.ntmps6
      go_wp2_with (first
        | (go_at_call 18; refine (H18.out _ HE.out).mono ?_; rintro e w1 ⟨rfl, hb⟩; have HB1 := Lib.hid hb; clear hb)
        | (go_at_call 14; refine (H14.out _ (HE.out.below HB1.out)).mono ?_; rintro e w2 ⟨A, k, rfl, hv2, hb2⟩; have hb3 : Below w2.heap.size w2 (w2.alloc (.cells #[.int .i64 a0, .int .i64 a1, .int .i64 a2, .int .i64 a3, .int .i64 a4, .int .i64 a5, .int .i64 a6, .int .i64 a7, .int .i64 a8, .int .i64 a9, .int .i64 a10, .slice A p.ops.length k] 28)) := (Below.refl _ _).alloc (Nat.le_refl _) _; have HR2 := Lib.hid (And.intro ((HB1.out.trans (hb2.mono HB1.out.size)).trans (hb3.mono (Nat.le_trans HB1.out.size hb2.size))) (hv2.below hb3)); clear hb2 hb3 hv2)
        | (go_at_call 19; refine (H19.out A k _ (HE.out.below HR2.out.1) HR2.out.2).mono ?_; rintro e w3 ⟨rfl, hb3⟩; have HR3 := Lib.hid (HR2.out.1.trans (hb3.mono HR2.out.1.size)); clear hb3)
        | (go_at_call 17; refine (num_any _ _).mono ?_; rintro e w7 ⟨rfl, rfl⟩))
      go_ret
      exact ⟨ret_bool (by rw [Lib.toList_data]; rfl), HR3.out⟩
  · have T : ((er0 : Int) != 0) = true := by rw [bne_iff_ne]; omega
    have hp1 : p = {} := by have h := parse_err (t := t0) (by rw [hp]; exact he0); rwa [hp] at h
    have H16 : Hid (∀ A j w, PlayV w p (.slice A p.ops.length j) → Calls Tryz.prog 16 #[.agg #[.int .i64 a0, .int .i64 a1, .int .i64 a2, .int .i64 a3, .int .i64 a4, .int .i64 a5, .int .i64 a6, .int .i64 a7, .int .i64 a8, .int .i64 a9, .int .i64 a10, .slice A p.ops.length j], .agg #[.int .i64 0, .int .i64 0, .int .i64 0, .int .i64 0, .int .i64 0, .int .i64 0, .int .i64 0, .int .i64 0, .int .i64 0, .int .i64 0, .int .i64 0, .slice none 0 0]] w (BRet w (.bool true))) := Lib.hid (fun A j w h1 => by
      have h := same_any p {} _ _ w h1 (nilV w)
      rw [decide_eq_true hp1, ea] at h
      exact h)
    clear hp1 ea na hB he hp he0
    go_enter Tryz.func6, Tryz.ntmps6
    go_wp2_with (first
      | (go_at_call 18; refine (H18.out _ HE.out).mono ?_; rintro e w1 ⟨rfl, hb⟩; have HB1 := Lib.hid hb; clear hb)
      | (go_at_call 14; refine (H14.out _ (HE.out.below HB1.out)).mono ?_; rintro e w2 ⟨A, k, rfl, hv2, hb2⟩; have hb3 : Below w2.heap.size w2 (w2.alloc (.cells #[.int .i64 a0, .int .i64 a1, .int .i64 a2, .int .i64 a3, .int .i64 a4, .int .i64 a5, .int .i64 a6, .int .i64 a7, .int .i64 a8, .int .i64 a9, .int .i64 a10, .slice A p.ops.length k] 28)) := (Below.refl _ _).alloc (Nat.le_refl _) _; have HR2 := Lib.hid (And.intro ((HB1.out.trans (hb2.mono HB1.out.size)).trans (hb3.mono (Nat.le_trans HB1.out.size hb2.size))) (hv2.below hb3)); clear hb2 hb3 hv2)
      | (go_at_call 16; refine (H16.out A k _ HR2.out.2).mono ?_; rintro e w6 ⟨rfl, hb6⟩; have HR6 := Lib.hid (HR2.out.1.trans (hb6.mono HR2.out.1.size)); clear hb6)
      | (go_at_call 17; refine (num_any _ _).mono ?_; rintro e w7 ⟨rfl, rfl⟩))
    go_ret
    exact ⟨rfl, HR6.out⟩
end Go.Proofs.YthnhfddlmkhgkaaGreatDoor

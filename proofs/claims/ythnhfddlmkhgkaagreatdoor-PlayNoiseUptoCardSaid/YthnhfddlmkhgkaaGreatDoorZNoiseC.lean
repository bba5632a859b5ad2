/- Walks: what some functions of the play package and its laws compute, as contracts. -/
import Derived.Test.YthnhfddlmkhgkaaGreatDoorZNoiseN
import Derived.Test.YthnhfddlmkhgkaaGreatDoorZRoundC
set_option linter.unusedVariables false
namespace Go.Proofs.YthnhfddlmkhgkaaGreatDoor
open Go.RowKit Go.Proofs.YthnhfddlmkhgkaaGreatDoorW.PrintWords

set_option maxHeartbeats 8000000 in
set_option maxRecDepth 100000 in
/-- the walk of PlayNoise -/
theorem noise_any (p : Sp.Play) (vp : Value) (nz : List Int) (A2 : Option Addr) (k2 : Nat) (deaf : Sp.Bs) (w : World) (he : Env w) (hv : PlayV w p vp) (hb : PlayB p) (hr : ReadI w A2 nz) :
    Calls Tryz.prog 7 #[.agg (playCells p.nums vp).toArray, .slice A2 nz.length k2, .string (str deaf)] w (BRet w (.bool true)) := by
  have hv0 := hv
  obtain ⟨na, A, k, rfl, _, _, _⟩ := hv
  obtain ⟨a0, a1, a2, a3, a4, a5, a6, a7, a8, a9, a10, ea⟩ := list11 na
  rw [ea]
  show Calls Tryz.prog 7 #[.agg #[.int .i64 a0, .int .i64 a1, .int .i64 a2, .int .i64 a3, .int .i64 a4, .int .i64 a5, .int .i64 a6, .int .i64 a7, .int .i64 a8, .int .i64 a9, .int .i64 a10, .slice A p.ops.length k], .slice A2 nz.length k2, .string (str deaf)] w _
  have HE := Lib.hid he
  have HI := Lib.hid hr
  have hszd : (str deaf).size = deaf.length := str_size deaf
  have H18 : Hid (∀ w, Env w → Calls Tryz.prog 18 #[] w (BRet w (.bool true))) := Lib.hid first_any
  have hb1 : Below w.heap.size w (w.alloc (.cells #[.int .i64 a0, .int .i64 a1, .int .i64 a2, .int .i64 a3, .int .i64 a4, .int .i64 a5, .int .i64 a6, .int .i64 a7, .int .i64 a8, .int .i64 a9, .int .i64 a10, .slice A p.ops.length k] 28)) := (Below.refl _ _).alloc (Nat.le_refl _) _
  have hr1 := heap_alloc_new w (.cells #[.int .i64 a0, .int .i64 a1, .int .i64 a2, .int .i64 a3, .int .i64 a4, .int .i64 a5, .int .i64 a6, .int .i64 a7, .int .i64 a8, .int .i64 a9, .int .i64 a10, .slice A p.ops.length k] 28)
  have HR1 := Lib.hid (And.intro hb1 (And.intro (hv0.below hb1) hr1))
  clear hb1 hr1 hv0 hr
  have H19 : Hid (∀ A k w, Env w → PlayV w p (.slice A p.ops.length k) → Calls Tryz.prog 19 #[.agg #[.int .i64 a0, .int .i64 a1, .int .i64 a2, .int .i64 a3, .int .i64 a4, .int .i64 a5, .int .i64 a6, .int .i64 a7, .int .i64 a8, .int .i64 a9, .int .i64 a10, .slice A p.ops.length k]] w (W2 w (Sp.print p))) := Lib.hid (fun A k w h1 h2 => play19 p _ _ _ _ _ _ _ _ _ _ _ ea A k w h1 h2 hb)
  have H16 : Hid (∀ A B j k w, PlayV w p (.slice A p.ops.length j) → PlayV w p (.slice B p.ops.length k) → Calls Tryz.prog 16 #[.agg #[.int .i64 a0, .int .i64 a1, .int .i64 a2, .int .i64 a3, .int .i64 a4, .int .i64 a5, .int .i64 a6, .int .i64 a7, .int .i64 a8, .int .i64 a9, .int .i64 a10, .slice A p.ops.length j], .agg #[.int .i64 a0, .int .i64 a1, .int .i64 a2, .int .i64 a3, .int .i64 a4, .int .i64 a5, .int .i64 a6, .int .i64 a7, .int .i64 a8, .int .i64 a9, .int .i64 a10, .slice B p.ops.length k]] w (BRet w (.bool true))) := Lib.hid (fun A B j k w h1 h2 => play16 p _ _ _ _ _ _ _ _ _ _ _ ea A B j k w h1 h2)
  obtain ⟨t, er, hpr⟩ : ∃ t er, Sp.print p = (t, er) := ⟨_, _, rfl⟩
  rw [hpr] at H19
  have hszt : (str t).size = t.length := str_size t
  by_cases he0 : er = 0
  case neg =>
    have T : ((er : Int) != 0) = true := by rw [bne_iff_ne]; omega
    clear hpr ea na hb he he0
    go_enter Tryz.func7, Tryz.ntmps7
    go_wp2_with (first | (go_at_call 18; refine (H18.out _ (HE.out.below HR1.out.1)).mono ?_; rintro e w1 ⟨rfl, hb⟩; have HR2 := Lib.hid (And.intro (HR1.out.1.trans (hb.mono HR1.out.1.size)) (And.intro (HR1.out.2.1.below hb) ((hb.block _ (row_lt HR1.out.2.2)).trans HR1.out.2.2))); clear hb) | (refine wpList_load_row rfl 28 (.tmp 3) rfl w.heap.size rfl 28 _ _ _ HR2.out.2.2 Tryz.underlying28 rfl (by kernel_rfl) ?_) | (go_at_call 19; refine (H19.out A k _ (HE.out.below HR2.out.1) HR2.out.2.1).mono ?_; rintro e w2 ⟨rfl, hb2⟩; have HR3 := Lib.hid (And.intro (HR2.out.1.trans (hb2.mono HR2.out.1.size)) (And.intro (HR2.out.2.1.below hb2) ((hb2.block _ (row_lt HR2.out.2.2)).trans HR2.out.2.2))); clear hb2) | (go_at_call 17; refine (num_any _ _).mono ?_; rintro e w7 ⟨rfl, rfl⟩))
    go_ret
    exact ⟨rfl, HR3.out.1⟩
  subst he0
  by_cases ct : 65536 < t.length
  case pos =>
    have T : decide (65536 < (t.length : Int)) = true := decide_eq_true (by omega)
    clear hpr ea na hb he ct
    go_enter Tryz.func7, Tryz.ntmps7
    go_wp2_with (first | (go_at_call 18; refine (H18.out _ (HE.out.below HR1.out.1)).mono ?_; rintro e w1 ⟨rfl, hb⟩; have HR2 := Lib.hid (And.intro (HR1.out.1.trans (hb.mono HR1.out.1.size)) (And.intro (HR1.out.2.1.below hb) ((hb.block _ (row_lt HR1.out.2.2)).trans HR1.out.2.2))); clear hb) | (refine wpList_load_row rfl 28 (.tmp 3) rfl w.heap.size rfl 28 _ _ _ HR2.out.2.2 Tryz.underlying28 rfl (by kernel_rfl) ?_) | (go_at_call 19; refine (H19.out A k _ (HE.out.below HR2.out.1) HR2.out.2.1).mono ?_; rintro e w2 ⟨rfl, hb2⟩; have HR3 := Lib.hid (And.intro (HR2.out.1.trans (hb2.mono HR2.out.1.size)) (And.intro (HR2.out.2.1.below hb2) ((hb2.block _ (row_lt HR2.out.2.2)).trans HR2.out.2.2))); clear hb2) | (go_at_call 17; refine (num_any _ _).mono ?_; rintro e w7 ⟨rfl, rfl⟩))
    go_ret
    exact ⟨rfl, HR3.out.1⟩
  have T1 : decide (65536 < (t.length : Int)) = false := decide_eq_false (by omega)
  by_cases cd : 64 < deaf.length
  case pos =>
    have T : decide (64 < (deaf.length : Int)) = true := decide_eq_true (by omega)
    clear hpr ea na hb he ct cd
    go_enter Tryz.func7, Tryz.ntmps7
    go_wp2_with (first | (go_at_call 18; refine (H18.out _ (HE.out.below HR1.out.1)).mono ?_; rintro e w1 ⟨rfl, hb⟩; have HR2 := Lib.hid (And.intro (HR1.out.1.trans (hb.mono HR1.out.1.size)) (And.intro (HR1.out.2.1.below hb) ((hb.block _ (row_lt HR1.out.2.2)).trans HR1.out.2.2))); clear hb) | (refine wpList_load_row rfl 28 (.tmp 3) rfl w.heap.size rfl 28 _ _ _ HR2.out.2.2 Tryz.underlying28 rfl (by kernel_rfl) ?_) | (go_at_call 19; refine (H19.out A k _ (HE.out.below HR2.out.1) HR2.out.2.1).mono ?_; rintro e w2 ⟨rfl, hb2⟩; have HR3 := Lib.hid (And.intro (HR2.out.1.trans (hb2.mono HR2.out.1.size)) (And.intro (HR2.out.2.1.below hb2) ((hb2.block _ (row_lt HR2.out.2.2)).trans HR2.out.2.2))); clear hb2) | (go_at_call 17; refine (num_any _ _).mono ?_; rintro e w7 ⟨rfl, rfl⟩))
    go_ret
    exact ⟨rfl, HR3.out.1⟩
  have T2 : decide (64 < (deaf.length : Int)) = false := decide_eq_false (by omega)
  have HLAW : Hid (∀ Q : Sp.Bs, 10 ∉ Q → Q.length ≤ 64 → ∀ fs, (Sp.noised Q t fs).length ≤ 217612 ∧ Sp.parse (Sp.lead2 (Sp.noised Q t fs)) = (p, 0, 0)) := Lib.hid (fun Q h1 h2 fs => by
    have h := Sp.noise_law na (by rw [hpr]) (by rw [hpr]; show t.length ≤ 65536; omega) h1 h2 fs
    rw [hpr] at h
    exact h)
  have H14 : Hid (∀ X : Sp.Bs, X.length ≤ 217612 → Sp.parse (Sp.lead2 X) = (p, 0, 0) → ∀ w, Env w → Calls Tryz.prog 14 #[.string (str (Sp.lead2 X))] w (P14 p a0 a1 a2 a3 a4 a5 a6 a7 a8 a9 a10 0 0 w)) := Lib.hid (fun X hX hp w h => play14 _ p 0 0 hp _ _ _ _ _ _ _ _ _ _ _ ea w h (by unfold Sp.lead2; simp; omega))
  have ht2 : t.length ≤ 65536 := by omega
  have hd2 : deaf.length ≤ 64 := by omega
  clear hpr ea na hb he ct cd
  go_enter Tryz.func7, Tryz.ntmps7
  go_wp2_with (first | (go_at_call 18; refine (H18.out _ (HE.out.below HR1.out.1)).mono ?_; rintro e w1 ⟨rfl, hb⟩; have HR2 := Lib.hid (And.intro (HR1.out.1.trans (hb.mono HR1.out.1.size)) (And.intro (HR1.out.2.1.below hb) ((hb.block _ (row_lt HR1.out.2.2)).trans HR1.out.2.2))); clear hb) | (refine wpList_load_row rfl 28 (.tmp 3) rfl w.heap.size rfl 28 _ _ _ HR2.out.2.2 Tryz.underlying28 rfl (by kernel_rfl) ?_) | (go_at_call 19; refine (H19.out A k _ (HE.out.below HR2.out.1) HR2.out.2.1).mono ?_; rintro e w2 ⟨rfl, hb2⟩; have HR3 := Lib.hid (And.intro (HR2.out.1.trans (hb2.mono HR2.out.1.size)) (And.intro (HR2.out.2.1.below hb2) ((hb2.block _ (row_lt HR2.out.2.2)).trans HR2.out.2.2))); clear hb2) | (go_at_call 17; refine (num_any _ _).mono ?_; rintro e w7 ⟨rfl, rfl⟩))
  go_loopw [10, 11] (fun v10 v11 wr => ∃ (i : Nat) (o : Sp.Bs), v11 = .int .i64 (i : Int) ∧ i ≤ deaf.length ∧ o.length ≤ i ∧ RowU wr w2.heap.size v10 o ∧ Hid (o = (deaf.take i).filter (· ≠ 10)) ∧ Below w2.heap.size w2 wr) (fun _ v11 _ => deaf.length - (intOf v11).toNat)
  case atStart => exact ⟨0, [], rfl, Nat.zero_le _, Nat.le_refl _, RowU.nil _ _, Lib.hid (by simp), Below.refl _ _⟩
  case round =>
    obtain ⟨i, o, rfl, hi, hol, HO, HQ, HB⟩ := hrel
    by_cases hlt : i < deaf.length
    · have q2 : (0 : Int) ≤ (i : Int) ∧ (i : Int) < (deaf.length : Int) := ⟨by omega, by omega⟩
      obtain ⟨C, hC⟩ : ∃ C : Int, C = ((deaf[i]'hlt).toNat : Int) := ⟨_, rfl⟩
      have hx : ∀ h : i < (str deaf).size, (((str deaf)[i]'h).toNat : Int) = C := fun h => by rw [hC]; rfl
      have T10 : (C != 10) = !decide (deaf[i]'hlt = 10) := by rw [← u8_eqb 10 hC rfl]; rfl
      have hC0 : 0 ≤ C := by omega
      have HCC := Lib.hid hC
      have htk : deaf.take (i + 1) = deaf.take i ++ [deaf[i]'hlt] := List.take_succ_eq_append_getElem hlt
      clear hC
      by_cases c10 : deaf[i]'hlt = 10
      · rw [decide_eq_true c10] at T10
        have T10 : (C != 10) = false := T10
        have HN : Hid (o = (deaf.take (i + 1)).filter (· ≠ 10)) := Lib.hid (by rw [htk, List.filter_append, ← HQ.out, c10]; simp)
        clear c10 htk HCC
        go_wp2
        go_roundw
        case rel => exact ⟨i + 1, o, by go_num, by omega, by omega, HO, HN, HB⟩
        case measure => simp [intOf]; omega
      · rw [decide_eq_false c10] at T10
        have T10 : (C != 10) = true := T10
        have HN : Hid (o ++ [deaf[i]'hlt] = (deaf.take (i + 1)).filter (· ≠ 10)) := Lib.hid (by rw [htk, List.filter_append, ← HQ.out]; simp [c10])
        generalize deaf[i]'hlt = c at HN HCC c10
        clear c10 htk
        go_wp2_with (at_builtin; refine ap_u8 (W := wr) (base := w2.heap.size) (w0 := w2) (v := u10) (l := o) (c := c) rfl rfl rfl rfl HCC.out HO HB HB.size (by omega) ?_; intro v1 wn HO1 HB1 j1 j2; clear j1 j2)
        go_roundw
        case rel => exact ⟨i + 1, o ++ [c], by go_num, by omega, by simp; omega, HO1, HN, HB1⟩
        case measure => simp [intOf]; omega
    · have hcv := own_string (P := Tryz.prog) Tryz.underlying45 Tryz.underlying5 Tryz.underlying9 (Kd.own_of_R HO)
      rw [str_us] at hcv
      have HQ10 : Hid (10 ∉ o) := Lib.hid (by rw [HQ.out]; simp)
      have hol2 : o.length ≤ 64 := by omega
      have H22 : Hid (Calls Tryz.prog 22 #[.string (str t), .slice A2 nz.length k2, .string (str o)] wr (fun e w' => ∃ fs, e = .returned (.string (str (Sp.noised o t fs))) ∧ Below wr.heap.size wr w')) := Lib.hid (noisy_any t nz A2 k2 o wr (HI.out.below (HR3.out.1.trans (HB.mono HR3.out.1.size))) ht2 hol2)
      go_wp2_with (first
        | (go_at_call 22; refine H22.out.mono ?_; rintro e w4 ⟨fs, rfl, hb4⟩; obtain ⟨hnl, hnp⟩ := HLAW.out o HQ10.out hol2 fs; obtain ⟨NL, hNL⟩ : ∃ x, x = Sp.noised o t fs := ⟨_, rfl⟩; rw [← hNL] at hnl hnp ⊢; have hNs := str_size NL; have hadd := str_cat2 [10, 32, 10, 35, 32, 120, 10] NL; obtain ⟨TX, hTX⟩ : ∃ x, x = str (Sp.lead2 NL) := ⟨_, rfl⟩; have hadd : (⟨#[10, 32, 10, 35, 32, 120, 10]⟩ : ByteArray) ++ str NL = TX := by { rw [hTX]; exact hadd }; have H14b := Lib.hid (H14.out NL hnl hnp); rw [← hTX] at H14b; have HB5 := Lib.hid (HB.trans (hb4.mono HB.size)); clear hTX hNL hnp hb4)
        | (go_at_call 14; refine (H14b.out _ (HE.out.below (HR3.out.1.trans (HB5.out.mono HR3.out.1.size)))).mono ?_; rintro e w5 ⟨B, j2, rfl, hv5, hb5⟩; have hb6 : Below w5.heap.size w5 (w5.alloc (.cells #[.int .i64 a0, .int .i64 a1, .int .i64 a2, .int .i64 a3, .int .i64 a4, .int .i64 a5, .int .i64 a6, .int .i64 a7, .int .i64 a8, .int .i64 a9, .int .i64 a10, .slice B p.ops.length j2] 28)) := (Below.refl _ _).alloc (Nat.le_refl _) _; have hq := HB5.out.trans (hb5.mono HB5.out.size); have HR6 := Lib.hid (And.intro ((HR3.out.1.trans (hq.mono HR3.out.1.size)).trans (hb6.mono (Nat.le_trans HR3.out.1.size hq.size))) (And.intro ((HR3.out.2.1.below hq).below hb6) (And.intro (hv5.below hb6) ((hb6.block _ (Nat.lt_of_lt_of_le (row_lt HR3.out.2.2) hq.size)).trans ((hq.block _ (row_lt HR3.out.2.2)).trans HR3.out.2.2))))); clear hb5 hb6 hv5 hq)
        | (refine wpList_load_row rfl 28 (.tmp 3) rfl w.heap.size rfl 28 _ _ _ HR6.out.2.2.2 Tryz.underlying28 rfl (by kernel_rfl) ?_)
        | (go_at_call 16; refine (H16.out B A j2 k _ HR6.out.2.2.1 HR6.out.2.1).mono ?_; rintro e w8 ⟨rfl, hb8⟩; have HR8 := Lib.hid (HR6.out.1.trans (hb8.mono HR6.out.1.size)); clear hb8)
        | (go_at_call 17; refine (num_any _ _).mono ?_; rintro e w7 ⟨rfl, rfl⟩))
      go_ret
      exact ⟨rfl, HR8.out⟩
end Go.Proofs.YthnhfddlmkhgkaaGreatDoor

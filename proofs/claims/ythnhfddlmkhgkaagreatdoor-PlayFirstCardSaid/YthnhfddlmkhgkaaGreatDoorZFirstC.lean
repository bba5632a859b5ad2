/- Walks: what some functions of the play package and its laws compute, as contracts. -/
import Derived.Test.YthnhfddlmkhgkaaGreatDoorZLineAt
set_option linter.unusedVariables false
namespace Go.Proofs.YthnhfddlmkhgkaaGreatDoor
open Go.RowKit Go.Proofs.YthnhfddlmkhgkaaGreatDoorW.PrintWords

theorem str_app (a b : Sp.Bs) : str a ++ str b = str (a ++ b) := by
  apply ByteArray.ext
  simp [str]
theorem lines_le (k : Nat) : ∀ (t : Sp.Bs) (n : Nat) (b : Bool) (p : Sp.Play), t.length ≤ k → (Sp.lines t n b p).2.1 ≤ n + t.length := by
  induction k with
  | zero =>
    intro t n b p ht
    obtain rfl : t = [] := List.eq_nil_of_length_eq_zero (by omega)
    rw [Sp.lines_nil]
    cases b <;> simp
  | succ k ih =>
    intro t n b p ht
    by_cases he : t = []
    · subst he
      rw [Sp.lines_nil]
      cases b <;> simp
    · rw [Sp.lines_cons he]
      split
      · simp
      · have hl : (Sp.rest1 t).length < t.length := by
          cases t with
          | nil => exact absurd rfl he
          | cons c r => exact Sp.rest1_len c r
        have := ih (Sp.rest1 t) (n + 1) (Sp.lineOf (Sp.line1 t) b p).2.1 (Sp.lineOf (Sp.line1 t) b p).1 (by omega)
        omega
theorem parse_line_le (t : Sp.Bs) : (Sp.parse t).2.1 ≤ 1 + t.length := by
  unfold Sp.parse
  split
  · simp
  · exact lines_le _ t 1 false {} (Nat.le_refl _)
set_option maxHeartbeats 8000000 in
set_option maxRecDepth 100000 in
/-- the walk of PlayFirst -/
theorem firstLaw_any (t bh : Sp.Bs) (n : Int) (w : World) (he : Env w) (hs : t.length ≤ 140737488355328) (hs2 : bh.length ≤ 140737488355328) (hn : i64 n) :
    Calls Tryz.prog 8 #[.string (str t), .string (str bh), .int .i64 n] w (BRet w (.bool true)) := by
  have HE := Lib.hid he
  have H18 : Hid (∀ w, Env w → Calls Tryz.prog 18 #[] w (BRet w (.bool true))) := Lib.hid first_any
  have hsz : (str t).size = t.length := str_size t
  have hsz2 : (str bh).size = bh.length := str_size bh
  by_cases c1 : n < 0
  · have T1 : decide (n < 0) = true := decide_eq_true c1
    go_enter Tryz.func8, Tryz.ntmps8
    go_wp2_with (first | (go_at_call 18; refine (H18.out _ HE.out).mono ?_; rintro e w1 ⟨rfl, hb⟩; have HB1 := Lib.hid hb; clear hb))
    go_ret
    exact ⟨rfl, HB1.out⟩
  have T1 : decide (n < 0) = false := decide_eq_false c1
  by_cases c2 : 100 < n
  · have T2 : decide (100 < n) = true := decide_eq_true c2
    go_enter Tryz.func8, Tryz.ntmps8
    go_wp2_with (first | (go_at_call 18; refine (H18.out _ HE.out).mono ?_; rintro e w1 ⟨rfl, hb⟩; have HB1 := Lib.hid hb; clear hb))
    go_ret
    exact ⟨rfl, HB1.out⟩
  have T2 : decide (100 < n) = false := decide_eq_false c2
  by_cases c3 : 65536 < t.length
  · have T3 : decide (65536 < (t.length : Int)) = true := decide_eq_true (by omega)
    go_enter Tryz.func8, Tryz.ntmps8
    go_wp2_with (first | (go_at_call 18; refine (H18.out _ HE.out).mono ?_; rintro e w1 ⟨rfl, hb⟩; have HB1 := Lib.hid hb; clear hb))
    go_ret
    exact ⟨rfl, HB1.out⟩
  have T3 : decide (65536 < (t.length : Int)) = false := decide_eq_false (by omega)
  by_cases c4 : 65536 < bh.length
  · have T4 : decide (65536 < (bh.length : Int)) = true := decide_eq_true (by omega)
    go_enter Tryz.func8, Tryz.ntmps8
    go_wp2_with (first | (go_at_call 18; refine (H18.out _ HE.out).mono ?_; rintro e w1 ⟨rfl, hb⟩; have HB1 := Lib.hid hb; clear hb))
    go_ret
    exact ⟨rfl, HB1.out⟩
  have T4 : decide (65536 < (bh.length : Int)) = false := decide_eq_false (by omega)
  obtain ⟨jj, rfl⟩ : ∃ jj : Nat, n = jj := ⟨n.toNat, by omega⟩
  have hj : jj ≤ 100 := by omega
  have htl : t.length ≤ 65536 := by omega
  have hbl : bh.length ≤ 65536 := by omega
  obtain ⟨p, m, er, hp⟩ : ∃ p n e, Sp.parse t = (p, n, e) := ⟨_, _, _, rfl⟩
  have na : p.nums.length = 11 := by have h := nums_parse t; rwa [hp] at h
  obtain ⟨a0, a1, a2, a3, a4, a5, a6, a7, a8, a9, a10, ea⟩ := list11 na
  have H14 : Hid (∀ w, Env w → Calls Tryz.prog 14 #[.string (str t)] w (P14 p a0 a1 a2 a3 a4 a5 a6 a7 a8 a9 a10 m er w)) := Lib.hid (fun w h => play14 t p m er hp _ _ _ _ _ _ _ _ _ _ _ ea w h hs)
  clear c1 c2 c3 c4
  by_cases hA : er ≠ 0 ∧ m = 0
  · have TA1 : ((er : Int) != 0) = true := by rw [bne_iff_ne]; omega
    have TA2 : ((m : Int) == 0) = true := beq_iff_eq.2 (by omega)
    obtain ⟨f1, f2, f3⟩ := Sp.first_none htl (by rw [hp]; exact hA.1) (by rw [hp]; exact hA.2)
    rw [hp] at f1
    obtain ⟨q, hq⟩ : ∃ q, Sp.parse ([35, 32, 110, 111, 110, 101, 10] ++ t) = (q, 0, 211) := ⟨(Sp.parse ([35, 32, 110, 111, 110, 101, 10] ++ t)).1, Prod.ext rfl (Prod.ext f2 f3)⟩
    have nb : q.nums.length = 11 := by have h := nums_parse ([35, 32, 110, 111, 110, 101, 10] ++ t); rwa [hq] at h
    obtain ⟨b0, b1, b2, b3, b4, b5, b6, b7, b8, b9, b10, eb⟩ := list11 nb
    have H14b : Hid (∀ w, Env w → Calls Tryz.prog 14 #[.string (str ([35, 32, 110, 111, 110, 101, 10] ++ t))] w (P14 q b0 b1 b2 b3 b4 b5 b6 b7 b8 b9 b10 0 211 w)) := Lib.hid (fun w h => play14 _ q 0 211 hq _ _ _ _ _ _ _ _ _ _ _ eb w h (by simp; omega))
    have hadd : (⟨#[35, 32, 110, 111, 110, 101, 10]⟩ : ByteArray) ++ str t = str ([35, 32, 110, 111, 110, 101, 10] ++ t) := str_app [35, 32, 110, 111, 110, 101, 10] t
    have her : er = 211 := f1
    subst her
    obtain ⟨TX, hTX⟩ : ∃ x, x = str ([35, 32, 110, 111, 110, 101, 10] ++ t) := ⟨_, rfl⟩
    rw [← hTX] at hadd H14b
    clear f1 f2 f3 hq nb eb hp na ea hTX he
    go_enter Tryz.func8, Tryz.ntmps8
    go_wp2_with (first | (go_at_call 18; refine (H18.out _ HE.out).mono ?_; rintro e w1 ⟨rfl, hb⟩; have HB1 := Lib.hid hb; clear hb) | (go_at_call 14; refine (H14b.out _ (HE.out.below HR3.out.1)).mono ?_; rintro e w4 ⟨B, j2, rfl, hv4, hb4⟩; have HB5 := Lib.hid ((HR3.out.1.trans (hb4.mono HR3.out.1.size)).alloc (Nat.le_trans HR3.out.1.size hb4.size) (.cells #[.int .i64 b0, .int .i64 b1, .int .i64 b2, .int .i64 b3, .int .i64 b4, .int .i64 b5, .int .i64 b6, .int .i64 b7, .int .i64 b8, .int .i64 b9, .int .i64 b10, .slice B q.ops.length j2] 28)); clear hb4 hv4) | (go_at_call 14; refine (H14.out _ (HE.out.below HB1.out)).mono ?_; rintro e w2 ⟨A, k, rfl, hv2, hb2⟩; have hb3 : Below w2.heap.size w2 (w2.alloc (.cells #[.int .i64 a0, .int .i64 a1, .int .i64 a2, .int .i64 a3, .int .i64 a4, .int .i64 a5, .int .i64 a6, .int .i64 a7, .int .i64 a8, .int .i64 a9, .int .i64 a10, .slice A p.ops.length k] 28)) := (Below.refl _ _).alloc (Nat.le_refl _) _; have HR3 := Lib.hid (And.intro ((HB1.out.trans (hb2.mono HB1.out.size)).trans (hb3.mono (Nat.le_trans HB1.out.size hb2.size))) (And.intro (hv2.below hb3) (heap_alloc_new w2 (.cells #[.int .i64 a0, .int .i64 a1, .int .i64 a2, .int .i64 a3, .int .i64 a4, .int .i64 a5, .int .i64 a6, .int .i64 a7, .int .i64 a8, .int .i64 a9, .int .i64 a10, .slice A p.ops.length k] 28)))); clear hb2 hb3 hv2) | (go_at_call 17; refine (num_any _ _).mono ?_; rintro e w7 ⟨rfl, rfl⟩))
    go_ret
    exact ⟨rfl, HB5.out⟩
  · have hBc : (er = 0 ∧ m = 0) ∨ (er ≠ 0 ∧ m ≠ 0) := by
      by_cases h0 : er = 0
      · have h := Sp.parse_zero htl (by rw [hp]; exact h0)
        rw [hp] at h
        exact .inl ⟨h0, h⟩
      · exact .inr ⟨h0, fun h => hA ⟨h0, h⟩⟩
    have hl := Sp.first_lead jj hj htl
    rw [hp] at hl
    obtain ⟨U0, hU0⟩ : ∃ x, x = str (List.replicate jj 10) := ⟨_, rfl⟩
    obtain ⟨TX, hTX⟩ : ∃ x, x = str (List.replicate jj 10 ++ t) := ⟨_, rfl⟩
    have hU0s : U0.size = jj := by rw [hU0, str_size, List.length_replicate]
    have hadd : U0 ++ str t = TX := by rw [hU0, hTX, str_app]
    have H16 : Hid (∀ A B j k w, PlayV w p (.slice A p.ops.length j) → PlayV w p (.slice B p.ops.length k) → Calls Tryz.prog 16 #[.agg #[.int .i64 a0, .int .i64 a1, .int .i64 a2, .int .i64 a3, .int .i64 a4, .int .i64 a5, .int .i64 a6, .int .i64 a7, .int .i64 a8, .int .i64 a9, .int .i64 a10, .slice A p.ops.length j], .agg #[.int .i64 a0, .int .i64 a1, .int .i64 a2, .int .i64 a3, .int .i64 a4, .int .i64 a5, .int .i64 a6, .int .i64 a7, .int .i64 a8, .int .i64 a9, .int .i64 a10, .slice B p.ops.length k]] w (BRet w (.bool true))) := Lib.hid (fun A B j k w h1 h2 => play16 p _ _ _ _ _ _ _ _ _ _ _ ea A B j k w h1 h2)
    rcases hBc with ⟨hb0, hm0⟩ | ⟨hb0, hm0⟩
    · subst hb0 hm0
      have H14c : Hid (∀ w, Env w → Calls Tryz.prog 14 #[.string TX] w (P14 p a0 a1 a2 a3 a4 a5 a6 a7 a8 a9 a10 0 0 w)) := Lib.hid (fun w h => by rw [hTX]; exact play14 _ p 0 0 (by rw [hl]; simp) _ _ _ _ _ _ _ _ _ _ _ ea w h (by simp; omega))
      clear hl hTX hp na ea he hA
      go_enter Tryz.func8, Tryz.ntmps8
      go_wp2_with (first | (go_at_call 18; refine (H18.out _ HE.out).mono ?_; rintro e w1 ⟨rfl, hb⟩; have HB1 := Lib.hid hb; clear hb) | (go_at_call 14; refine (H14.out _ (HE.out.below HB1.out)).mono ?_; rintro e w2 ⟨A, k, rfl, hv2, hb2⟩; have hb3 : Below w2.heap.size w2 (w2.alloc (.cells #[.int .i64 a0, .int .i64 a1, .int .i64 a2, .int .i64 a3, .int .i64 a4, .int .i64 a5, .int .i64 a6, .int .i64 a7, .int .i64 a8, .int .i64 a9, .int .i64 a10, .slice A p.ops.length k] 28)) := (Below.refl _ _).alloc (Nat.le_refl _) _; have HR3 := Lib.hid (And.intro ((HB1.out.trans (hb2.mono HB1.out.size)).trans (hb3.mono (Nat.le_trans HB1.out.size hb2.size))) (And.intro (hv2.below hb3) (heap_alloc_new w2 (.cells #[.int .i64 a0, .int .i64 a1, .int .i64 a2, .int .i64 a3, .int .i64 a4, .int .i64 a5, .int .i64 a6, .int .i64 a7, .int .i64 a8, .int .i64 a9, .int .i64 a10, .slice A p.ops.length k] 28)))); clear hb2 hb3 hv2) | (go_at_call 17; refine (num_any _ _).mono ?_; rintro e w7 ⟨rfl, rfl⟩))
      obtain ⟨W3, hW3⟩ : ∃ W3, W3 = w2.alloc (.cells #[.int .i64 a0, .int .i64 a1, .int .i64 a2, .int .i64 a3, .int .i64 a4, .int .i64 a5, .int .i64 a6, .int .i64 a7, .int .i64 a8, .int .i64 a9, .int .i64 a10, .slice A p.ops.length k] 28) := ⟨_, rfl⟩
      have HW3 := Lib.hid HR3.out
      rw [← hW3] at HW3 ⊢
      clear HR3 hW3
      go_loopw [14, 15] (fun v14 v15 wr => ∃ (i : Nat), v15 = .int .i64 (i : Int) ∧ i ≤ jj ∧ RowU wr W3.heap.size v14 (List.replicate i 10) ∧ Below W3.heap.size W3 wr) (fun _ v15 _ => jj - (intOf v15).toNat)
      case atStart => exact ⟨0, rfl, Nat.zero_le _, RowU.nil _ _, Below.refl _ _⟩
      case round =>
        obtain ⟨i, rfl, hi, HRw, HBr⟩ := hrel
        by_cases hlt : i < jj
        · go_wp2_with (at_builtin; refine ap_u8 (W := wr) (base := W3.heap.size) (w0 := W3) (v := u14) (l := List.replicate i 10) (c := 10) rfl rfl rfl rfl rfl HRw HBr HBr.size (by simp; omega) ?_; intro v1 wn HO2 HB2 _ _)
          go_roundw
          case rel => exact ⟨i + 1, by go_num, by omega, by rw [List.replicate_succ']; exact HO2, HB2⟩
          case measure => simp [intOf]; omega
        · have hcv := own_string (P := Tryz.prog) Tryz.underlying45 Tryz.underlying5 Tryz.underlying9 (Kd.own_of_R HRw)
          rw [str_us, show i = jj by omega, ← hU0] at hcv
          clear hU0
          go_wp2_with (first | (go_at_call 14; refine (H14c.out _ (HE.out.below (HW3.out.1.trans (HBr.mono HW3.out.1.size)))).mono ?_; rintro e w5 ⟨B, j2, rfl, hv5, hb5⟩; have hb6 : Below w5.heap.size w5 (w5.alloc (.cells #[.int .i64 a0, .int .i64 a1, .int .i64 a2, .int .i64 a3, .int .i64 a4, .int .i64 a5, .int .i64 a6, .int .i64 a7, .int .i64 a8, .int .i64 a9, .int .i64 a10, .slice B p.ops.length j2] 28)) := (Below.refl _ _).alloc (Nat.le_refl _) _; have hq := HBr.trans (hb5.mono HBr.size); have HR6 := Lib.hid (And.intro ((HW3.out.1.trans (hq.mono HW3.out.1.size)).trans (hb6.mono (Nat.le_trans HW3.out.1.size hq.size))) (And.intro ((HW3.out.2.1.below hq).below hb6) (And.intro (hv5.below hb6) ((hb6.block _ (Nat.lt_of_lt_of_le (row_lt HW3.out.2.2) hq.size)).trans ((hq.block _ (row_lt HW3.out.2.2)).trans HW3.out.2.2))))); clear hb5 hb6 hv5 hq) | (refine wpList_load_row rfl 28 (.tmp 8) rfl w2.heap.size rfl 28 _ _ _ HR6.out.2.2.2 Tryz.underlying28 rfl (by kernel_rfl) ?_) | (go_at_call 16; refine (H16.out B A j2 k _ HR6.out.2.2.1 HR6.out.2.1).mono ?_; rintro e w8 ⟨rfl, hb8⟩; have HR8 := Lib.hid (HR6.out.1.trans (hb8.mono HR6.out.1.size)); clear hb8) | (go_at_call 17; refine (num_any _ _).mono ?_; rintro e w7 ⟨rfl, rfl⟩))
          go_ret
          exact ⟨rfl, HR8.out⟩
    · have TA1 : ((er : Int) != 0) = true := by rw [bne_iff_ne]; omega
      have TA2 : ((m : Int) == 0) = false := beq_eq_false_iff_ne.2 (by omega)
      have TA3 : ((er : Int) == 0) = false := beq_eq_false_iff_ne.2 (by omega)
      obtain ⟨M, hM⟩ : ∃ M, M = m + jj := ⟨_, rfl⟩
      have hml : m ≤ 65537 := by have h := parse_line_le t; rw [hp] at h; simp only at h; omega
      have TM : ((M : Int) != (m : Int) + (jj : Int)) = false := by rw [bne_eq_false_iff_eq]; omega
      have hw1 : IntKind.i64.wrap ((m : Int) + (jj : Int)) = (m : Int) + (jj : Int) := by rw [IntKind.wrap_i64]; omega
      have H14c : Hid (∀ w, Env w → Calls Tryz.prog 14 #[.string TX] w (P14 p a0 a1 a2 a3 a4 a5 a6 a7 a8 a9 a10 M er w)) := Lib.hid (fun w h => by rw [hTX]; exact play14 _ p M er (by rw [hl, hM]; simp [hm0]) _ _ _ _ _ _ _ _ _ _ _ ea w h (by simp; omega))
      obtain ⟨g1, g2, g3⟩ := Sp.first_tell htl (by rw [hp]; exact hb0) (by rw [hp]; exact hm0) bh hbl
      rw [hp] at g1 g2 g3
      simp only at g1 g2 g3
      have hul := Sp.upto_len m t
      have hul2 := Sp.upto_len (m - 1) t
      obtain ⟨U1, hU1⟩ : ∃ x, x = str (Sp.upto m t) := ⟨_, rfl⟩
      obtain ⟨U2, hU2⟩ : ∃ x, x = str (Sp.upto (m - 1) t) := ⟨_, rfl⟩
      obtain ⟨U3, hU3⟩ : ∃ x, x = str (Sp.upto m t ++ [10]) := ⟨_, rfl⟩
      obtain ⟨U4, hU4⟩ : ∃ x, x = str (Sp.upto m t ++ 10 :: bh) := ⟨_, rfl⟩
      have hadd2 : U1 ++ (⟨#[10]⟩ : ByteArray) = U3 := by rw [hU1, hU3]; exact str_app (Sp.upto m t) [10]
      have hadd3 : U3 ++ str bh = U4 := by rw [hU3, hU4, str_app, List.append_assoc]; rfl
      have hU1s : U1.size = (Sp.upto m t).length := by rw [hU1, str_size]
      have hU3s : U3.size = (Sp.upto m t).length + 1 := by rw [hU3, str_size]; simp
      have H23a : Hid (∀ w, Calls Tryz.prog 23 #[.string (str t), .int .i64 (m : Int), .bool true] w (SRet w (.string U1))) := Lib.hid (fun w => by rw [hU1]; exact lineAt_any t m true w (by omega) (by omega))
      have H23b : Hid (∀ w, Calls Tryz.prog 23 #[.string (str t), .int .i64 (m : Int), .bool false] w (SRet w (.string U2))) := Lib.hid (fun w => by
        have h := lineAt_any t (m - 1) false w (by omega) (by omega)
        rw [hU2]
        have e : ((m - 1 : Nat) : Int) + 1 = (m : Int) := by omega
        simp only [Bool.false_eq_true, if_false] at h
        rw [e] at h
        exact h)
      have H14d : Hid (∀ w, Env w → Calls Tryz.prog 14 #[.string U4] w (P14 p a0 a1 a2 a3 a4 a5 a6 a7 a8 a9 a10 m er w)) := Lib.hid (fun w h => by rw [hU4]; exact play14 _ p m er g1 _ _ _ _ _ _ _ _ _ _ _ ea w h (by simp; omega))
      obtain ⟨q, e2, hq, he2⟩ : ∃ q e2, Sp.parse (Sp.upto (m - 1) t) = (q, 0, e2) ∧ (e2 = 0 ∨ e2 = 211) := ⟨(Sp.parse (Sp.upto (m - 1) t)).1, (Sp.parse (Sp.upto (m - 1) t)).2.2, Prod.ext rfl (Prod.ext g2 rfl), g3⟩
      have nb : q.nums.length = 11 := by have h := nums_parse (Sp.upto (m - 1) t); rwa [hq] at h
      obtain ⟨b0, b1, b2, b3, b4, b5, b6, b7, b8, b9, b10, eb⟩ := list11 nb
      have H14e : Hid (∀ w, Env w → Calls Tryz.prog 14 #[.string U2] w (P14 q b0 b1 b2 b3 b4 b5 b6 b7 b8 b9 b10 0 e2 w)) := Lib.hid (fun w h => by rw [hU2]; exact play14 _ q 0 e2 hq _ _ _ _ _ _ _ _ _ _ _ eb w h (by omega))
      clear hl hTX hp na ea he hA g1 g2 g3 hul2 hU1 hU2 hU3 hU4 hq nb eb hM hm0 hb0
      rcases he2 with rfl | rfl
      all_goals
        go_enter Tryz.func8, Tryz.ntmps8
        go_wp2_with (first | (go_at_call 18; refine (H18.out _ HE.out).mono ?_; rintro e w1 ⟨rfl, hb⟩; have HB1 := Lib.hid hb; clear hb) | (go_at_call 14; refine (H14.out _ (HE.out.below HB1.out)).mono ?_; rintro e w2 ⟨A, k, rfl, hv2, hb2⟩; have hb3 : Below w2.heap.size w2 (w2.alloc (.cells #[.int .i64 a0, .int .i64 a1, .int .i64 a2, .int .i64 a3, .int .i64 a4, .int .i64 a5, .int .i64 a6, .int .i64 a7, .int .i64 a8, .int .i64 a9, .int .i64 a10, .slice A p.ops.length k] 28)) := (Below.refl _ _).alloc (Nat.le_refl _) _; have HR3 := Lib.hid (And.intro ((HB1.out.trans (hb2.mono HB1.out.size)).trans (hb3.mono (Nat.le_trans HB1.out.size hb2.size))) (And.intro (hv2.below hb3) (heap_alloc_new w2 (.cells #[.int .i64 a0, .int .i64 a1, .int .i64 a2, .int .i64 a3, .int .i64 a4, .int .i64 a5, .int .i64 a6, .int .i64 a7, .int .i64 a8, .int .i64 a9, .int .i64 a10, .slice A p.ops.length k] 28)))); clear hb2 hb3 hv2) | (go_at_call 17; refine (num_any _ _).mono ?_; rintro e w7 ⟨rfl, rfl⟩))
        obtain ⟨W3, hW3⟩ : ∃ W3, W3 = w2.alloc (.cells #[.int .i64 a0, .int .i64 a1, .int .i64 a2, .int .i64 a3, .int .i64 a4, .int .i64 a5, .int .i64 a6, .int .i64 a7, .int .i64 a8, .int .i64 a9, .int .i64 a10, .slice A p.ops.length k] 28) := ⟨_, rfl⟩
        have HW3 := Lib.hid HR3.out
        rw [← hW3] at HW3 ⊢
        clear HR3 hW3
        go_loopw [14, 15] (fun v14 v15 wr => ∃ (i : Nat), v15 = .int .i64 (i : Int) ∧ i ≤ jj ∧ RowU wr W3.heap.size v14 (List.replicate i 10) ∧ Below W3.heap.size W3 wr) (fun _ v15 _ => jj - (intOf v15).toNat)
        case atStart => exact ⟨0, rfl, Nat.zero_le _, RowU.nil _ _, Below.refl _ _⟩
        case round =>
          obtain ⟨i, rfl, hi, HRw, HBr⟩ := hrel
          by_cases hlt : i < jj
          · go_wp2_with (at_builtin; refine ap_u8 (W := wr) (base := W3.heap.size) (w0 := W3) (v := u14) (l := List.replicate i 10) (c := 10) rfl rfl rfl rfl rfl HRw HBr HBr.size (by simp; omega) ?_; intro v1 wn HO2 HB2 _ _)
            go_roundw
            case rel => exact ⟨i + 1, by go_num, by omega, by rw [List.replicate_succ']; exact HO2, HB2⟩
            case measure => simp [intOf]; omega
          · have hcv := own_string (P := Tryz.prog) Tryz.underlying45 Tryz.underlying5 Tryz.underlying9 (Kd.own_of_R HRw)
            rw [str_us, show i = jj by omega, ← hU0] at hcv
            clear hU0
            go_wp2_with (first | (go_at_call 14; refine (H14e.out _ (HE.out.below HR10.out)).mono ?_; rintro e w11 ⟨C2, j4, rfl, hv11, hb11⟩; have HR11 := Lib.hid ((HR10.out.trans (hb11.mono HR10.out.size)).alloc (Nat.le_trans HR10.out.size hb11.size) (.cells #[.int .i64 b0, .int .i64 b1, .int .i64 b2, .int .i64 b3, .int .i64 b4, .int .i64 b5, .int .i64 b6, .int .i64 b7, .int .i64 b8, .int .i64 b9, .int .i64 b10, .slice C2 q.ops.length j4] 28)); clear hb11 hv11) | (go_at_call 14; refine (H14d.out _ (HE.out.below HR8.out)).mono ?_; rintro e w10 ⟨C1, j3, rfl, hv10, hb10⟩; have HR10 := Lib.hid ((HR8.out.trans (hb10.mono HR8.out.size)).alloc (Nat.le_trans HR8.out.size hb10.size) (.cells #[.int .i64 a0, .int .i64 a1, .int .i64 a2, .int .i64 a3, .int .i64 a4, .int .i64 a5, .int .i64 a6, .int .i64 a7, .int .i64 a8, .int .i64 a9, .int .i64 a10, .slice C1 p.ops.length j3] 28)); clear hb10 hv10) | (go_at_call 14; refine (H14c.out _ (HE.out.below (HW3.out.1.trans (HBr.mono HW3.out.1.size)))).mono ?_; rintro e w5 ⟨B, j2, rfl, hv5, hb5⟩; have hb6 : Below w5.heap.size w5 (w5.alloc (.cells #[.int .i64 a0, .int .i64 a1, .int .i64 a2, .int .i64 a3, .int .i64 a4, .int .i64 a5, .int .i64 a6, .int .i64 a7, .int .i64 a8, .int .i64 a9, .int .i64 a10, .slice B p.ops.length j2] 28)) := (Below.refl _ _).alloc (Nat.le_refl _) _; have hq := HBr.trans (hb5.mono HBr.size); have HR6 := Lib.hid (And.intro ((HW3.out.1.trans (hq.mono HW3.out.1.size)).trans (hb6.mono (Nat.le_trans HW3.out.1.size hq.size))) (And.intro ((HW3.out.2.1.below hq).below hb6) (And.intro (hv5.below hb6) ((hb6.block _ (Nat.lt_of_lt_of_le (row_lt HW3.out.2.2) hq.size)).trans ((hq.block _ (row_lt HW3.out.2.2)).trans HW3.out.2.2))))); clear hb5 hb6 hv5 hq) | (refine wpList_load_row rfl 28 (.tmp 8) rfl w2.heap.size rfl 28 _ _ _ HR6.out.2.2.2 Tryz.underlying28 rfl (by kernel_rfl) ?_) | (go_at_call 16; refine (H16.out B A j2 k _ HR6.out.2.2.1 HR6.out.2.1).mono ?_; rintro e w8 ⟨rfl, hb8⟩; have HR8 := Lib.hid (HR6.out.1.trans (hb8.mono HR6.out.1.size)); clear hb8) | (go_at_call 23; have tq := HR10; clear tq; refine (H23b.out _).mono ?_; rintro e w9 ⟨rfl, rfl⟩) | (go_at_call 23; refine (H23a.out _).mono ?_; rintro e w9 ⟨rfl, rfl⟩) | (go_at_call 17; refine (num_any _ _).mono ?_; rintro e w7 ⟨rfl, rfl⟩))
            go_ret
            exact ⟨rfl, HR11.out⟩
end Go.Proofs.YthnhfddlmkhgkaaGreatDoor

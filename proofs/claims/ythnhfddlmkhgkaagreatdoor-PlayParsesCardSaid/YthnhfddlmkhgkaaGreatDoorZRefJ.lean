/- Walks: what some functions of the play package and its laws compute, as contracts. -/
import Derived.Test.YthnhfddlmkhgkaaGreatDoorZRefAll
set_option linter.unusedVariables false
namespace Go.Proofs.YthnhfddlmkhgkaaGreatDoor
open Go.RowKit Go.Proofs.YthnhfddlmkhgkaaGreatDoorW.PrintWords

/-- eleven numbers in a block -/
def NumsAt (w : World) (g : Nat) (l : List Int) : Prop := w.heap[g]? = some (.cells (l.map (Value.int .i64)).toArray 137 (0, 0))
theorem NumsAt.below {w w1 : World} {g : Nat} {l : List Int} (h : NumsAt w g l) (hb : Below w.heap.size w w1) : NumsAt w1 g l := (hb.block g (row_lt h)).trans h
theorem NumsAt.cell {w : World} {g : Nat} {l : List Int} (h : NumsAt w g l) (i : Nat) (hi : i < l.length) : w.cell? ⟨g, i, none⟩ = some (.int .i64 (l[i]'hi)) ∧ w.frozen? ⟨g, i, none⟩ = false := by
  refine ⟨?_, row_frozen h i⟩
  rw [cell_of_row _ _ _ _ _ _ h]
  simp [hi]
theorem NumsAt.set {w : World} {g : Nat} {A R : List Int} {x y : Int} {i : Nat} (h : NumsAt w g (A ++ x :: R)) (hA : A.length = i) : NumsAt (w.setCell ⟨g, i, none⟩ (.int .i64 y)) g (A ++ y :: R) := by
  subst hA
  unfold NumsAt
  rw [row_set h]
  simp
theorem below_alw (w : World) (o : Obj) : Below w.heap.size w (w.alloc o) := (Below.refl _ _).alloc (Nat.le_refl _) o
theorem eleven (l : List Int) (h : l.length = 11) : ∃ a0 a1 a2 a3 a4 a5 a6 a7 a8 a9 a10, l = [a0, a1, a2, a3, a4, a5, a6, a7, a8, a9, a10] := by
  match l, h with
  | [a0, a1, a2, a3, a4, a5, a6, a7, a8, a9, a10], _ => exact ⟨a0, a1, a2, a3, a4, a5, a6, a7, a8, a9, a10, rfl⟩
set_option maxHeartbeats 8000000 in
set_option maxRecDepth 100000 in
theorem rhead_any (A : Option Addr) (ws : List Sp.Bs) (cap : Nat) (w : World) (hr : ReadS w A ws) (h0 : 0 < ws.length) (hl : ws.length ≤ 1099511627776) (hws : ∀ x ∈ ws, x.length ≤ 1099511627776) :
    Calls Tryz.prog 41 #[.slice A ws.length cap] w (WorldPost w (Sp.world ws)) := by
  obtain ⟨ad, hA, hcell⟩ := hr.at_ 0 h0
  rw [Addr.add_zero'] at hcell
  obtain ⟨n, hn⟩ : ∃ n, n = ws[0]'h0 := ⟨_, rfl⟩
  rw [← hn] at hcell
  have hws0 : ws.getD 0 [] = n := by rw [hn]; simp [h0]
  obtain ⟨R, hR⟩ : ∃ R, R = Sp.world ws := ⟨_, rfl⟩
  rw [← hR]
  have hSP : R = if n ≠ Sp.wrld then ({}, 211) else if ws.length ≠ 12 then ({}, 215) else match Sp.fillWorld (ws.drop 1) with | some l => ({ nums := l }, 0) | none => ({}, 213) := by rw [hR]; unfold Sp.world; rw [hws0]; rfl
  have TW : ((str n).toList == [119, 111, 114, 108, 100]) = decide (n = Sp.wrld) := by
    have h := str_eqb n Sp.wrld
    rw [Lib.toList_data (str Sp.wrld)] at h
    exact h
  have HR := Lib.hid hr
  have HW := Lib.hid hws
  subst hA
  clear hr hws hws0 hn hR
  have hbA : Below w.heap.size w (w.alloc (.cells #[.int .i64 0, .int .i64 0, .int .i64 0, .int .i64 0, .int .i64 0, .int .i64 0, .int .i64 0, .int .i64 0, .int .i64 0, .int .i64 0, .int .i64 0, .slice none 0 0] 28)) := (Below.refl _ _).alloc (Nat.le_refl _) _
  have hcell1 := pw_cell_below hbA hcell
  have hzA : ZeroPlay (w.alloc (.cells #[.int .i64 0, .int .i64 0, .int .i64 0, .int .i64 0, .int .i64 0, .int .i64 0, .int .i64 0, .int .i64 0, .int .i64 0, .int .i64 0, .int .i64 0, .slice none 0 0] 28)) w.heap.size := heap_alloc_new _ _
  by_cases hw : n = Sp.wrld
  case neg =>
    rw [decide_eq_false hw] at TW
    have HF : Hid (R = ({}, 211)) := Lib.hid (by rw [hSP, if_pos hw])
    clear hw hSP
    go_enter Tryz.func41, Tryz.ntmps41
    go_wp2_with (refine wpList_store_row rfl 28 (.tmp 2) (.tmp 11) rfl w.heap.size (playCells zeros (.slice none 0 0)).toArray rfl rfl 28 _ hzA (by kernel_rfl) rfl (play_one _ rfl) ?_)
    refine bodyPost_ret (results_ct rfl _ _ w.heap.size 28 (playCells zeros (.slice none 0 0)).toArray (0, 0) _ rfl (setRow_heap _ _ _ _ _ _ hzA) Tryz.underlying28 rfl (by kernel_rfl)) rfl ?_
    rw [HF.out]
    exact ⟨rfl, setRow_below hbA (Nat.le_refl _) _⟩
  rw [decide_eq_true hw] at TW
  rw [if_neg (by simpa using hw)] at hSP
  clear hw
  by_cases h12 : ws.length = 12
  case neg =>
    have T12 : ((ws.length : Int) != 12) = true := by rw [bne_iff_ne]; omega
    have HF : Hid (R = ({}, 215)) := Lib.hid (by rw [hSP, if_pos h12])
    clear h12 hSP
    go_enter Tryz.func41, Tryz.ntmps41
    go_wp2_with (refine wpList_store_row rfl 28 (.tmp 2) (.tmp 15) rfl w.heap.size (playCells zeros (.slice none 0 0)).toArray rfl rfl 28 _ hzA (by kernel_rfl) rfl (play_one _ rfl) ?_)
    refine bodyPost_ret (results_ct rfl _ _ w.heap.size 28 (playCells zeros (.slice none 0 0)).toArray (0, 0) _ rfl (setRow_heap _ _ _ _ _ _ hzA) Tryz.underlying28 rfl (by kernel_rfl)) rfl ?_
    rw [HF.out]
    exact ⟨rfl, setRow_below hbA (Nat.le_refl _) _⟩
  have T12 : ((ws.length : Int) != 12) = false := by rw [bne_eq_false_iff_eq]; omega
  rw [if_neg (by simpa using h12)] at hSP
  have HSP := Lib.hid hSP
  have h12a : ws.length ≤ 12 := by omega
  have h12b : 12 ≤ ws.length := by omega
  clear h12 hSP
  go_enter Tryz.func41, Tryz.ntmps41
  go_wp2
  generalize hW : (w.alloc _).alloc _ = W0
  have hz0 : ZeroPlay W0 w.heap.size := by rw [← hW]; exact (heap_alloc_old _ _ (row_lt hzA)).trans hzA
  have hn0 : NumsAt W0 (w.heap.size + 1) zeros := by
    rw [← hW]
    have h := heap_alloc_new (w.alloc (.cells #[.int .i64 0, .int .i64 0, .int .i64 0, .int .i64 0, .int .i64 0, .int .i64 0, .int .i64 0, .int .i64 0, .int .i64 0, .int .i64 0, .int .i64 0, .slice none 0 0] 28)) (.cells #[.int .i64 0, .int .i64 0, .int .i64 0, .int .i64 0, .int .i64 0, .int .i64 0, .int .i64 0, .int .i64 0, .int .i64 0, .int .i64 0, .int .i64 0] 137)
    rw [World.size_alloc] at h
    exact h
  have hb0 : Below w.heap.size w W0 := by rw [← hW]; exact hbA.alloc hbA.size _
  clear hW hzA hbA hcell1 hcell
  go_loopw [5] (fun v5 wr => ∃ (i : Nat) (xs : List Int), v5 = .int .i64 (i : Int) ∧ i ≤ 11 ∧ xs.length = i ∧ NumsAt wr (w.heap.size + 1) (xs ++ List.replicate (11 - i) 0) ∧ ZeroPlay wr w.heap.size ∧ Hid (Sp.fillWorld (ws.drop 1) = (Sp.fillWorld (ws.drop (1 + i))).map (xs ++ ·)) ∧ Below w.heap.size w wr) (fun v5 _ => 11 - (intOf v5).toNat)
  case atStart => exact ⟨0, [], rfl, by omega, rfl, hn0, hz0, Lib.hid (by simp), hb0⟩
  case round =>
    obtain ⟨i, xs, rfl, hi, hxl, HN, HZ, HQ, HB⟩ := hrel
    clear hz0 hn0 hb0
    have HXL := Lib.hid hxl
    clear hxl
    by_cases hlt : i < 11
    · obtain ⟨ad2, hA2, hcell⟩ := (HR.out.below HB).at_ (i + 1) (by omega)
      injection hA2 with hA2
      subst hA2
      obtain ⟨x, hxw⟩ : ∃ x, x = ws[i + 1]'(by omega) := ⟨_, rfl⟩
      rw [← hxw, Addr.add, if_neg (by omega)] at hcell
      have hx1 := HW.out x (by rw [hxw]; exact List.getElem_mem _)
      have hdr : ws.drop (1 + i) = x :: ws.drop (1 + (i + 1)) := by rw [Nat.add_comm 1 i, List.drop_eq_getElem_cons (show i + 1 < ws.length by omega), ← hxw, show i + 1 + 1 = 1 + (i + 1) by omega]
      have HC84 : Hid (∀ w, Calls Tryz.prog 84 #[.string (str x)] w (BRet w (.int .i64 (Sp.numR x)))) := Lib.hid (fun w => rnumber_any x w hx1)
      have hcase : (0 ≤ Sp.numR x ∧ Sp.number x = some (Sp.numR x)) ∨ (Sp.numR x < 0 ∧ Sp.number x = none) := by
        by_cases h : 0 ≤ Sp.numR x
        · exact .inl ⟨h, Sp.numR_some h⟩
        · exact .inr ⟨by omega, Sp.numR_none h⟩
      have HDR := Lib.hid hdr
      have HNS : Hid (∀ w2, Below wr.heap.size wr w2 → NumsAt w2 (w.heap.size + 1) (xs ++ 0 :: List.replicate (11 - (i + 1)) 0)) := Lib.hid (fun w2 hb => by
        have h := HN.below hb
        rw [show 11 - i = (11 - (i + 1)) + 1 by omega, List.replicate_succ] at h
        exact h)
      obtain ⟨n, hn⟩ : ∃ n, n = Sp.numR x := ⟨_, rfl⟩
      rw [← hn] at HC84 hcase
      clear hxw hx1 hdr hn HN
      have HBZ := Lib.hid (And.intro HZ HB)
      have HBS := Lib.hid HB.size
      clear HZ HB
      rcases hcase with ⟨hp, hnm⟩ | ⟨hp, hnm⟩
      · have HNM := Lib.hid hnm
        have hp2 : ¬ n < 0 := by omega
        clear hnm
        go_wp2_with (go_at_call 84; refine (HC84.out _).mono ?_; rintro e w2 ⟨rfl, hb2⟩; have hn2 := HNS.out w2 hb2; (obtain ⟨hcc, hcfz⟩ := hn2.cell i (by first | (simp [HXL.out]; done) | (simp [HXL.out]; omega))); have hn3 := hn2.set (y := n) HXL.out; (have hc3 : (w2.setCell ⟨w.heap.size + 1, i, none⟩ (.int .i64 n)).cell? ⟨w.heap.size + 1, i, none⟩ = some (.int .i64 n) := by rw [(hn3.cell i (by first | (simp [HXL.out]; done) | (simp [HXL.out]; omega))).1]; first | (simp [← HXL.out]; done) | (simp [HXL.out]; done)); have HB2 := Lib.hid (HBZ.out.2.trans (hb2.mono HBZ.out.2.size)); have hz2 := (hb2.block _ (row_lt HBZ.out.1)).trans HBZ.out.1; clear hb2)
        go_roundw
        case rel => exact ⟨i + 1, xs ++ [n], by go_num, by omega, by simp [HXL.out], by rw [List.append_assoc]; exact hn3, (Below.heap_setCell w2 _ _ w.heap.size (by simp only; omega)).trans hz2, Lib.hid (by rw [HQ.out, HDR.out]; exact fill_snoc xs _ x n HNM.out), HB2.out.setCell (by simp only; omega) _⟩
        case measure => simp [intOf]; omega
      · have HF : Hid (R = ({}, 213)) := Lib.hid (by rw [HSP.out, HQ.out, HDR.out]; simp [Sp.fillWorld, hnm])
        clear hnm
        go_wp2_with (first | (go_at_call 84; refine (HC84.out _).mono ?_; rintro e w2 ⟨rfl, hb2⟩; have hn2 := HNS.out w2 hb2; (obtain ⟨hcc, hcfz⟩ := hn2.cell i (by first | (simp [HXL.out]; done) | (simp [HXL.out]; omega))); have hn3 := hn2.set (y := n) HXL.out; (have hc3 : (w2.setCell ⟨w.heap.size + 1, i, none⟩ (.int .i64 n)).cell? ⟨w.heap.size + 1, i, none⟩ = some (.int .i64 n) := by rw [(hn3.cell i (by first | (simp [HXL.out]; done) | (simp [HXL.out]; omega))).1]; first | (simp [← HXL.out]; done) | (simp [HXL.out]; done)); have HB2 := Lib.hid (HBZ.out.2.trans (hb2.mono HBZ.out.2.size)); have hz2 : ZeroPlay (w2.setCell ⟨w.heap.size + 1, i, none⟩ (.int .i64 n)) w.heap.size := (Below.heap_setCell w2 _ _ w.heap.size (by simp only; omega)).trans ((hb2.block _ (row_lt HBZ.out.1)).trans HBZ.out.1); clear hb2; have tk1 := trivial) | (have tq := tk1; refine wpList_store_row rfl 28 (.tmp 2) (.tmp 32) rfl w.heap.size (playCells zeros (.slice none 0 0)).toArray rfl rfl 28 _ hz2 (by kernel_rfl) rfl (play_one _ rfl) ?_))
        refine bodyPost_ret (results_ct rfl _ _ w.heap.size 28 (playCells zeros (.slice none 0 0)).toArray (0, 0) _ rfl (setRow_heap _ _ _ _ _ _ hz2) Tryz.underlying28 rfl (by kernel_rfl)) rfl ?_
        rw [HF.out]
        exact ⟨rfl, setRow_below (HB2.out.setCell (by simp only; omega) _) (Nat.le_refl _) _⟩
    · have hi11 : i = 11 := by omega
      have hN := HN
      rw [hi11, show 11 - 11 = 0 from rfl, List.replicate_zero, List.append_nil] at hN
      obtain ⟨a0, a1, a2, a3, a4, a5, a6, a7, a8, a9, a10, hxs⟩ := eleven xs (by rw [HXL.out, hi11])
      subst hxs
      have hdn : ws.drop (1 + i) = [] := List.drop_eq_nil_of_le (by omega)
      have HF : Hid (R = ({ nums := [a0, a1, a2, a3, a4, a5, a6, a7, a8, a9, a10] }, 0)) := Lib.hid (by rw [HSP.out, HQ.out, hdn]; simp [Sp.fillWorld])
      clear hdn hi11 HN HQ HXL
      have k0 : wr.cell? ⟨w.heap.size + 1, 0, none⟩ = some (.int .i64 a0) := (hN.cell 0 (by simp)).1
      have k1 : wr.cell? ⟨w.heap.size + 1, 1, none⟩ = some (.int .i64 a1) := (hN.cell 1 (by simp)).1
      have k2 : wr.cell? ⟨w.heap.size + 1, 2, none⟩ = some (.int .i64 a2) := (hN.cell 2 (by simp)).1
      have k3 : wr.cell? ⟨w.heap.size + 1, 3, none⟩ = some (.int .i64 a3) := (hN.cell 3 (by simp)).1
      have k4 : wr.cell? ⟨w.heap.size + 1, 4, none⟩ = some (.int .i64 a4) := (hN.cell 4 (by simp)).1
      have k5 : wr.cell? ⟨w.heap.size + 1, 5, none⟩ = some (.int .i64 a5) := (hN.cell 5 (by simp)).1
      have k6 : wr.cell? ⟨w.heap.size + 1, 6, none⟩ = some (.int .i64 a6) := (hN.cell 6 (by simp)).1
      have k7 : wr.cell? ⟨w.heap.size + 1, 7, none⟩ = some (.int .i64 a7) := (hN.cell 7 (by simp)).1
      have k8 : wr.cell? ⟨w.heap.size + 1, 8, none⟩ = some (.int .i64 a8) := (hN.cell 8 (by simp)).1
      have k9 : wr.cell? ⟨w.heap.size + 1, 9, none⟩ = some (.int .i64 a9) := (hN.cell 9 (by simp)).1
      have k10 : wr.cell? ⟨w.heap.size + 1, 10, none⟩ = some (.int .i64 a10) := (hN.cell 10 (by simp)).1
      have j8 : (wr.alloc (.cells #[.int .i64 a0, .int .i64 a1, .int .i64 a2, .int .i64 a3, .int .i64 a4, .int .i64 a5, .int .i64 a6, .int .i64 a7] 23)).cell? ⟨w.heap.size + 1, 8, none⟩ = some (.int .i64 a8) := ((hN.below (below_alw wr (.cells #[.int .i64 a0, .int .i64 a1, .int .i64 a2, .int .i64 a3, .int .i64 a4, .int .i64 a5, .int .i64 a6, .int .i64 a7] 23))).cell 8 (by simp)).1
      have j9 : (wr.alloc (.cells #[.int .i64 a0, .int .i64 a1, .int .i64 a2, .int .i64 a3, .int .i64 a4, .int .i64 a5, .int .i64 a6, .int .i64 a7] 23)).cell? ⟨w.heap.size + 1, 9, none⟩ = some (.int .i64 a9) := ((hN.below (below_alw wr (.cells #[.int .i64 a0, .int .i64 a1, .int .i64 a2, .int .i64 a3, .int .i64 a4, .int .i64 a5, .int .i64 a6, .int .i64 a7] 23))).cell 9 (by simp)).1
      have j10 : (wr.alloc (.cells #[.int .i64 a0, .int .i64 a1, .int .i64 a2, .int .i64 a3, .int .i64 a4, .int .i64 a5, .int .i64 a6, .int .i64 a7] 23)).cell? ⟨w.heap.size + 1, 10, none⟩ = some (.int .i64 a10) := ((hN.below (below_alw wr (.cells #[.int .i64 a0, .int .i64 a1, .int .i64 a2, .int .i64 a3, .int .i64 a4, .int .i64 a5, .int .i64 a6, .int .i64 a7] 23))).cell 10 (by simp)).1
      have HZB := Lib.hid (And.intro HZ HB)
      have hz9 := (below_alw wr (.cells #[.int .i64 a0, .int .i64 a1, .int .i64 a2, .int .i64 a3, .int .i64 a4, .int .i64 a5, .int .i64 a6, .int .i64 a7] 23)).block _ (row_lt HZ) |>.trans HZ
      go_wp2_with (refine wpList_store_row rfl 28 (.tmp 2) (.tmp 58) rfl w.heap.size (playCells [a0, a1, a2, a3, a4, a5, a6, a7, a8, a9, a10] (.slice none 0 0)).toArray rfl rfl 28 _ hz9 (by kernel_rfl) rfl (play_one _ rfl) ?_)
      refine bodyPost_ret (results_ct rfl _ _ w.heap.size 28 (playCells [a0, a1, a2, a3, a4, a5, a6, a7, a8, a9, a10] (.slice none 0 0)).toArray (0, 0) _ rfl (setRow_heap _ _ _ _ _ _ hz9) Tryz.underlying28 rfl (by kernel_rfl)) rfl ?_
      rw [HF.out]
      exact ⟨rfl, setRow_below (HZB.out.2.alloc HZB.out.2.size _) (Nat.le_refl _) _⟩
end Go.Proofs.YthnhfddlmkhgkaaGreatDoor

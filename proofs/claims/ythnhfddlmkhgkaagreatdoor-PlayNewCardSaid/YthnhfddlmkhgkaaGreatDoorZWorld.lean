/- Walks: what some functions of the play package and its laws compute, as contracts. -/
import Derived.Test.YthnhfddlmkhgkaaGreatDoorZStepA
set_option linter.unusedVariables false
namespace Go.Proofs.YthnhfddlmkhgkaaGreatDoor
open Go.RowKit Go.Proofs.YthnhfddlmkhgkaaGreatDoorW.PrintWords

/-- the eleven numbers' places -/
def cellsA (g : Nat) : Array Value := #[.pointer (some ⟨g, 0, none⟩), .pointer (some ⟨g, 1, none⟩), .pointer (some ⟨g, 2, none⟩), .pointer (some ⟨g, 3, none⟩), .pointer (some ⟨g, 4, none⟩), .pointer (some ⟨g, 5, none⟩), .pointer (some ⟨g, 6, none⟩), .pointer (some ⟨g, 7, none⟩), .pointer (some ⟨g, 8, none⟩), .pointer (some ⟨g, 9, none⟩), .pointer (some ⟨g, 10, none⟩)]
set_option maxHeartbeats 4000000 in
set_option maxRecDepth 100000 in
theorem cells_any (g : Nat) (w : World) : Calls Tryz.prog 46 #[.pointer (some ⟨g, 0, none⟩)] w (BRet w (.agg (cellsA g))) := by
  go_enter Tryz.func46, Tryz.ntmps46
  go_wp2
  refine region_mix [] [0, 1, 2, 3, 4, 5, 6, 7] [] mixed (by kernel_rfl) (fun _ _ _ _ _ h => h) ?_
  simp only [pick, List.getElem?_cons_zero, List.getElem?_cons_succ]
  refine wpPre_nil ?_
  repeat still_step
  refine wpStill_nil ?_
  go_wp2
  refine region_mix [] [0, 1, 2, 3, 4, 5, 6, 7, 8, 9, 10, 11, 12, 13, 14, 15, 16, 17, 18, 19, 20, 21, 22, 23, 24, 25, 26, 27, 28, 29, 30, 31, 32, 33] [34] mixed (by kernel_rfl) (fun _ _ _ _ _ h => h) ?_
  simp only [pick, List.getElem?_cons_zero, List.getElem?_cons_succ]
  refine wpPre_nil ?_
  repeat still_step
  refine wpStill_nil ?_
  go_wp2
  refine bodyPost_ret (results_cell_row rfl _ _ w.heap.size 100 (cellsA g) (0, 0) _ rfl (heap_alloc_new w _) Tryz.underlying100 rfl (by kernel_rfl)) rfl ?_
  exact ⟨rfl, (((Below.refl _ _).alloc (Nat.le_refl _) _).drew).drew⟩
theorem cells_index (g : Nat) : ∀ (i : Nat), i < 11 → ∀ w, (Instr.index 100 (.agg (cellsA g)) (.int .i64 (i : Int))).run Tryz.prog w = .ok (.pointer (some ⟨g, i, none⟩)) w
  | 0, _, _ => by kernel_rfl
  | 1, _, _ => by kernel_rfl
  | 2, _, _ => by kernel_rfl
  | 3, _, _ => by kernel_rfl
  | 4, _, _ => by kernel_rfl
  | 5, _, _ => by kernel_rfl
  | 6, _, _ => by kernel_rfl
  | 7, _, _ => by kernel_rfl
  | 8, _, _ => by kernel_rfl
  | 9, _, _ => by kernel_rfl
  | 10, _, _ => by kernel_rfl
  | n + 11, h, _ => absurd h (by omega)
/-- a play's cells -/
def playCells (l : List Int) (v : Value) : List Value := l.map (Value.int .i64) ++ [v]
def zeros : List Int := [0, 0, 0, 0, 0, 0, 0, 0, 0, 0, 0]
def ZeroPlay (w : World) (g : Nat) : Prop := w.heap[g]? = some (.cells (playCells zeros (.slice none 0 0)).toArray 28 (0, 0))
theorem play_one (l : List Int) {v : Value} (hv : v.oneCell' = true) : ((playCells l v).toArray.all (·.oneCell')) = true := by
  rw [List.all_toArray, playCells, List.all_append, List.all_map]
  simp only [List.all_cons, List.all_nil, hv, Bool.and_true]
  exact List.all_eq_true.2 fun x _ => rfl
theorem play_set {A R : List Int} {x y : Int} {i : Nat} (h : A.length = i) (v : Value) : (playCells (A ++ x :: R) v).toArray.setIfInBounds i (.int .i64 y) = (playCells (A ++ y :: R) v).toArray := by
  subst h
  simp [playCells]
theorem play_at {A R : List Int} {x : Int} {i : Nat} (h : A.length = i) (v : Value) : (playCells (A ++ x :: R) v).toArray[i]? = some (.int .i64 x) := by
  subst h
  simp [playCells]
theorem fill_snoc (xs : List Int) : ∀ (ws : List Sp.Bs) (w : Sp.Bs) (x : Int), Sp.number w = some x → (Sp.fillWorld (w :: ws)).map (xs ++ ·) = (Sp.fillWorld ws).map ((xs ++ [x]) ++ ·) := by
  intro ws w x h
  simp only [Sp.fillWorld, h, Option.map_map, Function.comp_def, List.append_assoc, List.singleton_append]
def WorldPost (w : World) (r : Sp.Play × Nat) (e : Ending) (w' : World) : Prop :=
  e = .returned (.tuple #[.agg (playCells r.1.nums (.slice none 0 0)).toArray, .int .i64 (r.2 : Int)]) ∧ Below w.heap.size w w'
set_option maxHeartbeats 4000000 in
set_option maxRecDepth 100000 in
theorem world_any (A : Option Addr) (ws : List Sp.Bs) (cap : Nat) (w : World) (he : Env w) (hr : ReadS w A ws) (h0 : 0 < ws.length) (hl : ws.length ≤ 1099511627776) (hws : ∀ x ∈ ws, x.length ≤ 1099511627776) :
    Calls Tryz.prog 38 #[.slice A ws.length cap] w (WorldPost w (Sp.world ws)) := by
  obtain ⟨ad, hA, hcell⟩ := hr.at_ 0 h0
  rw [Addr.add_zero'] at hcell
  obtain ⟨n, hn⟩ : ∃ n, n = ws[0]'h0 := ⟨_, rfl⟩
  rw [← hn] at hcell
  have hws0 : ws.getD 0 [] = n := by rw [hn]; simp [h0]
  have HSP : Hid (Sp.world ws = if n ≠ Sp.wrld then ({}, 211) else if ws.length ≠ 12 then ({}, 215) else match Sp.fillWorld (ws.drop 1) with | some l => ({ nums := l }, 0) | none => ({}, 213)) := Lib.hid (by unfold Sp.world; rw [hws0]; rfl)
  have TW : ((str n).toList == [119, 111, 114, 108, 100]) = decide (n = Sp.wrld) := by
    have h := str_eqb n Sp.wrld
    rw [Lib.toList_data (str Sp.wrld)] at h
    exact h
  have HR := Lib.hid hr
  have HE := Lib.hid he
  have HW := Lib.hid hws
  subst hA
  clear hr he hws hws0 hn
  have hb0 : Below w.heap.size w ((w.alloc (.cells #[.int .i64 0, .int .i64 0, .int .i64 0, .int .i64 0, .int .i64 0, .int .i64 0, .int .i64 0, .int .i64 0, .int .i64 0, .int .i64 0, .int .i64 0, .slice none 0 0] 28)).alloc (.cells #[.int .i64 0, .int .i64 0, .int .i64 0, .int .i64 0, .int .i64 0, .int .i64 0, .int .i64 0, .int .i64 0, .int .i64 0, .int .i64 0, .int .i64 0, .slice none 0 0] 28)) := ((Below.refl _ _).alloc (Nat.le_refl _) _).alloc (by simp) _
  have hcell1 := pw_cell_below hb0 hcell
  have hz1 : ZeroPlay ((w.alloc (.cells #[.int .i64 0, .int .i64 0, .int .i64 0, .int .i64 0, .int .i64 0, .int .i64 0, .int .i64 0, .int .i64 0, .int .i64 0, .int .i64 0, .int .i64 0, .slice none 0 0] 28)).alloc (.cells #[.int .i64 0, .int .i64 0, .int .i64 0, .int .i64 0, .int .i64 0, .int .i64 0, .int .i64 0, .int .i64 0, .int .i64 0, .int .i64 0, .int .i64 0, .slice none 0 0] 28)) w.heap.size := (heap_alloc_old _ _ (by simp)).trans (heap_alloc_new w _)
  have hp1 : ZeroPlay ((w.alloc (.cells #[.int .i64 0, .int .i64 0, .int .i64 0, .int .i64 0, .int .i64 0, .int .i64 0, .int .i64 0, .int .i64 0, .int .i64 0, .int .i64 0, .int .i64 0, .slice none 0 0] 28)).alloc (.cells #[.int .i64 0, .int .i64 0, .int .i64 0, .int .i64 0, .int .i64 0, .int .i64 0, .int .i64 0, .int .i64 0, .int .i64 0, .int .i64 0, .int .i64 0, .slice none 0 0] 28)) (w.heap.size + 1) := by
    have h := heap_alloc_new (w.alloc (.cells #[.int .i64 0, .int .i64 0, .int .i64 0, .int .i64 0, .int .i64 0, .int .i64 0, .int .i64 0, .int .i64 0, .int .i64 0, .int .i64 0, .int .i64 0, .slice none 0 0] 28)) (.cells #[.int .i64 0, .int .i64 0, .int .i64 0, .int .i64 0, .int .i64 0, .int .i64 0, .int .i64 0, .int .i64 0, .int .i64 0, .int .i64 0, .int .i64 0, .slice none 0 0] 28)
    rw [World.size_alloc] at h
    exact h
  by_cases hw : n = Sp.wrld
  · rw [decide_eq_true hw] at TW
    rw [if_neg (by simpa using hw)] at HSP
    clear hw
    by_cases h12 : ws.length = 12
    · have T12 : ((ws.length : Int) != 12) = false := by rw [bne_eq_false_iff_eq]; omega
      rw [if_neg (by simpa using h12)] at HSP
      go_enter Tryz.func38, Tryz.ntmps38
      obtain ⟨W0, hW0⟩ : ∃ W0, W0 = ((w.alloc (.cells #[.int .i64 0, .int .i64 0, .int .i64 0, .int .i64 0, .int .i64 0, .int .i64 0, .int .i64 0, .int .i64 0, .int .i64 0, .int .i64 0, .int .i64 0, .slice none 0 0] 28)).alloc (.cells #[.int .i64 0, .int .i64 0, .int .i64 0, .int .i64 0, .int .i64 0, .int .i64 0, .int .i64 0, .int .i64 0, .int .i64 0, .int .i64 0, .int .i64 0, .slice none 0 0] 28)) := ⟨_, rfl⟩
      have HC46 : Hid (Calls Tryz.prog 46 #[.pointer (some ⟨w.heap.size + 1, 0, none⟩)] W0 (BRet W0 (.agg (cellsA (w.heap.size + 1))))) := Lib.hid (cells_any _ _)
      have hb0' : Below w.heap.size w W0 := by rw [hW0]; exact hb0
      have hz1' : ZeroPlay W0 w.heap.size := by rw [hW0]; exact hz1
      have hp1' : ZeroPlay W0 (w.heap.size + 1) := by rw [hW0]; exact hp1
      have HW0 := Lib.hid hW0
      clear hW0 hz1 hp1
      go_wp2_with (first | (go_at_call 46; rw [← HW0.out]; refine HC46.out.mono ?_; rintro e w1 ⟨rfl, HB1⟩; have hz2 := (show ZeroPlay w1 w.heap.size from (HB1.block _ (row_lt hz1')).trans hz1'); have hp2 := (show ZeroPlay w1 (w.heap.size + 1) from (HB1.block _ (row_lt hp1')).trans hp1'); have hb2 := hb0'.trans (HB1.mono hb0'.size); clear hz1' hp1' hb0' HB1))
      obtain ⟨PV, hPV⟩ : ∃ PV, PV = cellsA (w.heap.size + 1) := ⟨_, rfl⟩
      rw [← hPV]
      have HPV := Lib.hid hPV
      clear hPV HC46 HW0 hcell1 hb0 hcell
      go_loopw [19] (fun v19 wr => ∃ (i : Nat) (xs : List Int), v19 = .int .i64 (i : Int) ∧ i ≤ 11 ∧ xs.length = i ∧ Hid (wr.heap[w.heap.size + 1]? = some (.cells (playCells (xs ++ List.replicate (11 - i) 0) (.slice none 0 0)).toArray 28 (0, 0))) ∧ ZeroPlay wr w.heap.size ∧ Hid (Sp.fillWorld (ws.drop 1) = (Sp.fillWorld (ws.drop (1 + i))).map (xs ++ ·)) ∧ Below w.heap.size w wr) (fun v19 _ => 11 - (intOf v19).toNat)
      case atStart => exact ⟨0, [], rfl, by omega, rfl, Lib.hid hp2, hz2, Lib.hid (by simp), hb2⟩
      case round =>
        obtain ⟨i, xs, rfl, hi, hxl, HP, HZ, HQ, HB⟩ := hrel
        have HXL := Lib.hid hxl
        have HBS := Lib.hid HB.size
        clear hz2 hp2 hb2 hxl
        by_cases hlt : i < 11
        · have hix : ∀ w', (Instr.index 100 (.agg PV) (.int .i64 (i : Int))).run Tryz.prog w' = .ok (.pointer (some ⟨w.heap.size + 1, i, none⟩)) w' := by rw [HPV.out]; exact cells_index (w.heap.size + 1) i hlt
          obtain ⟨ad2, hA2, hcell⟩ := (HR.out.below HB).at_ (1 + i) (by omega)
          injection hA2 with hA2
          subst hA2
          obtain ⟨x, hxw⟩ : ∃ x, x = ws[1 + i]'(by omega) := ⟨_, rfl⟩
          rw [← hxw] at hcell
          have HX := Lib.hid (HW.out x (by rw [hxw]; exact List.getElem_mem _))
          have hw1 : IntKind.i64.wrap (1 + (i : Int)) = 1 + (i : Int) := by rw [IntKind.wrap_i64]; omega
          have hdr : ws.drop (1 + i) = x :: ws.drop (1 + (i + 1)) := by rw [List.drop_eq_getElem_cons (show 1 + i < ws.length by omega), ← hxw]; rfl
          have HDR := Lib.hid hdr
          clear hxw hdr
          cases hnm : Sp.number x with
          | some v =>
            have HNM := Lib.hid hnm
            clear hnm
            have HST : Hid (∀ w2, Below wr.heap.size wr w2 → w2.heap[w.heap.size + 1]? = some (.cells (playCells (xs ++ 0 :: List.replicate (11 - (i + 1)) 0) (.slice none 0 0)).toArray 28 (0, 0))) := Lib.hid (fun w2 hb => by
              rw [hb.block _ (row_lt HP.out), HP.out, show 11 - i = (11 - (i + 1)) + 1 by omega, List.replicate_succ])
            have HCE : Hid (∀ w2, Below wr.heap.size wr w2 → w2.cell? ⟨w.heap.size + 1, i, none⟩ = some (.int .i64 0) ∧ w2.frozen? ⟨w.heap.size + 1, i, none⟩ = false) := Lib.hid (fun w2 hb => by
              have h := HST.out w2 hb
              exact ⟨by rw [cell_of_row _ _ _ _ _ _ h, play_at HXL.out], row_frozen h i⟩)
            go_wp2_with (first | (go_at_call 77; refine (number_some HNM.out _ (HE.out.below HB) HX.out).mono ?_; rintro e w2 ⟨rfl, hb⟩; obtain ⟨ck, zk⟩ := HCE.out w2 hb; have HD := Lib.hid hb; clear hb))
            go_roundw
            case rel => exact ⟨i + 1, xs ++ [v], by go_num, by omega, by simp [HXL.out], Lib.hid (by rw [row_set (HST.out _ HD.out), play_set HXL.out]; simp), (Below.heap_setCell _ ⟨w.heap.size + 1, i, none⟩ _ w.heap.size (by simp only; omega)).trans ((HD.out.block _ (row_lt HZ)).trans HZ), Lib.hid (by rw [HQ.out, HDR.out, fill_snoc _ _ _ _ HNM.out]), (HB.trans (HD.out.mono HBS.out)).setCell (by simp only; omega) _⟩
            case measure => simp [intOf]; omega
          | none =>
            have HNM := Lib.hid hnm
            clear hnm
            go_wp2_with (first | (go_at_call 77; refine (number_none HNM.out _ (HE.out.below HB) HX.out).mono ?_; rintro e w2 ⟨v, rfl, hb⟩; have hz5 : ZeroPlay w2 w.heap.size := (hb.block _ (row_lt HZ)).trans HZ; have HD := Lib.hid hb; clear hb) | (refine wpList_store_row rfl 28 (.tmp 2) (.tmp 34) rfl w.heap.size (playCells zeros (.slice none 0 0)).toArray rfl rfl 28 _ hz5 (by kernel_rfl) rfl (play_one _ rfl) ?_))
            refine bodyPost_ret (results_ct rfl _ _ w.heap.size 28 (playCells zeros (.slice none 0 0)).toArray (0, 0) _ rfl (setRow_heap _ _ _ _ _ _ hz5) Tryz.underlying28 rfl (by kernel_rfl)) rfl ?_
            rw [HSP.out, HQ.out, HDR.out]
            simp only [Sp.fillWorld, HNM.out, Option.map_none]
            exact ⟨rfl, setRow_below (HB.trans (HD.out.mono HBS.out)) (Nat.le_refl _) _⟩
        · have hp5 : wr.heap[w.heap.size + 1]? = some (.cells (playCells xs (.slice none 0 0)).toArray 28 (0, 0)) := by
            rw [HP.out, show 11 - i = 0 by omega, List.replicate_zero, List.append_nil]
          have hsz1 : (Tryz.prog.info? 28).map (·.size) = some ((playCells xs (.slice none 0 0)).toArray).size := by
            rw [show ((playCells xs (.slice none 0 0)).toArray).size = 12 by simp [playCells, HXL.out]; omega]; kernel_rfl
          have hsz2 : ((playCells zeros (.slice none 0 0)).toArray).size = ((playCells xs (.slice none 0 0)).toArray).size := by simp [playCells, HXL.out, zeros]; omega
          have HSZ := Lib.hid (And.intro hsz1 hsz2)
          clear hsz1 hsz2
          go_wp2_with (first | (refine wpList_load_row rfl 28 (.tmp 4) rfl (w.heap.size + 1) rfl 28 (playCells xs (.slice none 0 0)).toArray _ _ hp5 Tryz.underlying28 rfl HSZ.out.1 ?_) | (refine wpList_store_row rfl 28 (.tmp 2) (.tmp 39) rfl w.heap.size (playCells xs (.slice none 0 0)).toArray rfl rfl 28 _ HZ HSZ.out.1 HSZ.out.2 (play_one _ rfl) ?_))
          refine bodyPost_ret (results_ct rfl _ _ w.heap.size 28 (playCells xs (.slice none 0 0)).toArray (0, 0) _ rfl (setRow_heap _ _ _ _ _ _ HZ) Tryz.underlying28 rfl HSZ.out.1) rfl ?_
          rw [HSP.out, HQ.out, show ws.drop (1 + i) = [] from List.drop_eq_nil_of_le (by omega)]
          simp only [Sp.fillWorld, Option.map_some, List.append_nil]
          exact ⟨rfl, setRow_below HB (Nat.le_refl _) _⟩
    · have T12 : ((ws.length : Int) != 12) = true := by rw [bne_iff_ne]; omega
      rw [if_pos h12] at HSP
      clear h12
      go_enter Tryz.func38, Tryz.ntmps38
      go_wp2_with (first | (refine wpList_load_row rfl 28 (.tmp 4) rfl (w.heap.size + 1) rfl 28 (playCells zeros (.slice none 0 0)).toArray _ _ hp1 Tryz.underlying28 rfl (by kernel_rfl) ?_) | (refine wpList_store_row rfl 28 (.tmp 2) (.tmp 17) rfl w.heap.size (playCells zeros (.slice none 0 0)).toArray rfl rfl 28 _ hz1 (by kernel_rfl) rfl (play_one _ rfl) ?_))
      refine bodyPost_ret (results_ct rfl _ _ w.heap.size 28 (playCells zeros (.slice none 0 0)).toArray (0, 0) _ rfl (setRow_heap _ _ _ _ _ _ hz1) Tryz.underlying28 rfl (by kernel_rfl)) rfl ?_
      rw [HSP.out]
      exact ⟨rfl, setRow_below hb0 (Nat.le_refl _) _⟩
  · rw [decide_eq_false hw] at TW
    rw [if_pos hw] at HSP
    clear hw
    go_enter Tryz.func38, Tryz.ntmps38
    go_wp2_with (first | (refine wpList_load_row rfl 28 (.tmp 4) rfl (w.heap.size + 1) rfl 28 (playCells zeros (.slice none 0 0)).toArray _ _ hp1 Tryz.underlying28 rfl (by kernel_rfl) ?_) | (refine wpList_store_row rfl 28 (.tmp 2) (.tmp 13) rfl w.heap.size (playCells zeros (.slice none 0 0)).toArray rfl rfl 28 _ hz1 (by kernel_rfl) rfl (play_one _ rfl) ?_))
    refine bodyPost_ret (results_ct rfl _ _ w.heap.size 28 (playCells zeros (.slice none 0 0)).toArray (0, 0) _ rfl (setRow_heap _ _ _ _ _ _ hz1) Tryz.underlying28 rfl (by kernel_rfl)) rfl ?_
    rw [HSP.out]
    exact ⟨rfl, setRow_below hb0 (Nat.le_refl _) _⟩
end Go.Proofs.YthnhfddlmkhgkaaGreatDoor
